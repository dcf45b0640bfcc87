/- Part. -/
import Derived.Test.YtdbnghliccifcaaGreatKLB
set_option linter.all false
namespace Go.Vc
open Go Go.RowKit Go.Gw
inductive AM where
 |val (agg:Bool) (t:Ty)
 |row (t:Ty) (e:TypeId)
 |box (T:TypeId) (t:Ty)
 |fn (as:List (Bool×Ty)) (ra:Bool) (r:Ty)
 |rows (t:Ty) (e e':TypeId)
@[reducible] def AM.den:AM->Type
 | .val _ t=>t.den
 | .row t _=>List t.den
 | .box _ t=>t.den
 | .fn as _ r=>(Z4 as->Prop)×(Z4 as->r.den)
 | .rows t _ _=>List (List t.den)
@[reducible] def A3:List AM->Type
 | []=>Unit
 |a::r=>a.den×A3 r
@[reducible] def Od:List AM->Type
 | []=>Unit
 | .row t _::r=>List t.den×Od r
 | .box _ t::r=>t.den×Od r
 | .val _ _::r=>Od r
 | .fn _ _ _::r=>Od r
 | .rows t _ _::r=>List (List t.den)×Od r
def N0:AM->Bool
 | .row _ _=>true
 | .box _ _=>true
 | .rows _ _ _=>true
 | _=>false
def Q7 (as:List AM):Bool:=as.any N0
def Bh (as:List AM):Bool:=as.all λa=>match a with| .val _ _=>true| _=>false
inductive RT where
 |val (agg:Bool) (t:Ty)
 |own (t:Ty) (e:TypeId)
 |obox (T:TypeId) (t:Ty)
 |rows (t:Ty) (e e':TypeId)
@[reducible] def RT.den:RT->Type
 | .val _ t=>t.den
 | .own t _=>List t.den
 | .obox _ t=>t.den
 | .rows t _ _=>List (List t.den)
@[reducible] def Br:List RT->Type
 | []=>Unit
 |r::a=>r.den×Br a
def RT.wf:(r:RT)->r.den->Prop
 | .val _ t,x=>t.wf x
 | .own t _,l=>(Ty.sl t).wf l
 | .obox _ t,x=>t.wf x
 | .rows t _ _,x=>(Ty.sl (Ty.sl t)).wf x
def rwf:(rs:List RT)->Br rs->Prop
 | [],_=>True
 |r::rs,x=>r.wf x.1/\rwf rs x.2
def AM.wf:(a:AM)->a.den->Prop
 | .val _ t,x=>t.wf x
 | .row t _,x=>(Ty.sl t).wf x
 | .box _ t,x=>t.wf x
 | .fn _ _ _,_=>True
 | .rows t _ _,x=>(Ty.sl (Ty.sl t)).wf x
def awf:(as:List AM)->A3 as->Prop
 | [],_=>True
 |a::r,x=>a.wf x.1/\awf r x.2
def owf:(as:List AM)->Od as->Prop
 | [],_=>True
 | .row t _::r,x=>(Ty.sl t).wf x.1/\owf r x.2
 | .box _ t::r,x=>t.wf x.1/\owf r x.2
 | .val _ _::r,x=>owf r x
 | .fn _ _ _::r,x=>owf r x
 | .rows t _ _::r,x=>(Ty.sl (Ty.sl t)).wf x.1/\owf r x.2
def bwf:(as:List (Bool×Ty))->Z4 as->Prop
 | [],_=>True
 | (_,t)::r,x=>t.wf x.1/\bwf r x.2
def ZT:(rs:List RT)->Br rs
 | []=>()
 | .val _ t::rs=>(t.dflt,ZT rs)
 | .own _ _::rs=>([],ZT rs)
 | .obox _ t::rs=>(t.dflt,ZT rs)
 | .rows _ _ _::rs=>([],ZT rs)
structure Inl where
 run:Nat->St->List SV->(St->List SV->Prop)->Prop
 res:List SV->Option SV:=λ_=>none
 has:Nat->Bool:=λ_=>true
 step:∀ {st:St} {d:Nat} {ss:List SV} {k k':St->List SV->Prop},run d st ss k->(∀st' ss',C4 st st'->k st' ss'->k' st' ss')->run d st ss k'
structure A8 where
 args:List AM
 res:List RT
 shared:Bool:=false
 pre:A3 args->Prop
 post:A3 args->Br res->Prop
 mpost:A3 args->Br res->Od args->Prop:=λ_ _ _=>True
 inl:Option Inl:=none
def eD (P:Program) (w:World) (Z:Nat->Prop):(a:AM)->Value->a.den->Prop
 | .val a t,v,x=>Bl a t w Z v x
 | .row t e,v,l=>∃c,w.ownsRow 0 e t.size v l.length c/\G5 (C9 t w Z) c l/\∀b,v.ownBlock=some b->¬Z b
 | .box T t,v,x=>∃b c,v= .pointer (some ⟨b,0,none⟩)/\¬Z b/\KJ w b c T/\C9 t w Z c.toList x
 | .fn as b r,v,x=>A1h P w Z v as b r x.1 x.2
 | .rows t e c,v,d=>Ct w Z t e c v d/\∀b,B4 w v (.rows t e c d [] none) b->¬Z b/\b<w.heap.size
def Z9 (P:Program) (w:World) (Z:Nat->Prop):(as:List AM)->List Value->A3 as->Prop
 | [],b,_=>b= []
 |a::r,c,x=>∃v b,c=v::b/\eD P w Z a v x.1/\Z9 P w Z r b x.2
def D9:List AM->List Value->List Value
 |a::r,v::b=>bif N0 a then v::D9 r b else D9 r b
 | _,_=> []
def lcA:AM->LC
 | .row t e=> .row t e []
 | .box T _=> .box T []
 | .rows t e a=> .rows t e a [] [] none
 | _=> .none
def R1:List AM->List Value->List (AM×Value)
 |a::r,v::b=>bif N0 a then(a,v)::R1 r b else R1 r b
 | _,_=> []
def YQ (w:World) (as:List AM) (vs:List Value):Nat->Prop:=λb=>∃p∈R1 as vs,B4 w p.2 (lcA p.1) b
def Dis (w:World):List (AM×Value)->Prop
 | []=>True
 |p::c=>(∀b,B4 w p.2 (lcA p.1) b->∀a∈c,¬B4 w a.2 (lcA a.1) b)/\Dis w c
def Xr (w w':World) (Zn:Nat->Prop):(as:List AM)->List Value->Od as->Prop
 | .row t e::r,v::b,x=>(∃a,w'.ownsRow 0 e t.size v x.1.length a/\G5 (C9 t w' Zn) a x.1)/\Xr w w' Zn r b x.2
 | .box T t::r,v::c,x=>(∃b a,v= .pointer (some ⟨b,0,none⟩)/\KJ w' b a T/\C9 t w' Zn a.toList x.1)/\Xr w w' Zn r c x.2
 | .rows t e a::r,v::c,x=>(Ct w' Zn t e a v x.1/\∀b,B4 w' v (.rows t e a [] [] none) b->B4 w v (.rows t e a [] [] none) b)/\Xr w w' Zn r c x.2
 | .val _ _::r,_::a,x=>Xr w w' Zn r a x
 | .fn _ _ _::r,_::a,x=>Xr w w' Zn r a x
 | [],_,_=>True
 | _:: _,[],_=>False
def C8y (a:Nat) (w':World) (Zn:Nat->Prop):(r:RT)->Value->r.den->Prop
 | .val b t,v,x=>Bl b t w' Zn v x
 | .own t e,v,l=>∃c,w'.ownsRow a e t.size v l.length c/\G5 (C9 t w' Zn) c l/\∀b,v.ownBlock=some b->¬Zn b
 | .obox T t,v,x=>∃b c,v= .pointer (some ⟨b,0,none⟩)/\a<=b/\¬Zn b/\KJ w' b c T/\C9 t w' Zn c.toList x
 | .rows t e c,v,d=>Ct w' Zn t e c v d/\∀b,B4 w' v (.rows t e c d [] none) b->a<=b/\¬Zn b/\b<w'.heap.size
def Bn:RT->Bool
 | .own _ _=>true
 | .obox _ _=>true
 | .rows _ _ _=>true
 | _=>false
def Qg:RT->Bool
 | .rows _ _ _=>true
 | _=>false
def Mr:List RT->Bool
 | []=>true
 |r::a=>(!(Bn r) || (!(a.any Qg)&&(!(Qg r) || !(a.any Bn))))&&Mr a
def X4:List RT->List Value->List Value
 | .rows _ _ _::a,v::b=>v::X4 a b
 | .own _ _::a,v::b=>v::X4 a b
 | .obox _ _::a,v::b=>v::X4 a b
 | .val _ _::a,_::b=>X4 a b
 | _,_=> []
def Oj (c:Nat) (w':World) (Zn:Nat->Prop):(rs:List RT)->List Value->Br rs->Prop
 | [],a,_=>a= []
 |r::rs,d,x=>∃v a,d=v::a/\C8y c w' Zn r v x.1/\(Bn r=true->(rs.any Qg=false/\(Qg r=true->rs.any Bn=false))/\∀b,root v=some b->∀u∈X4 rs a,root u≠some b)/\Oj c w' Zn rs a x.2
def BB:List Value->Value
 | [v]=>v
 |vs=> .tuple vs.toArray
def B7 (P:Program) (f:FuncId) (s:A8):Prop:=
 ∀(w:World) (Z:Nat->Prop) (a:List Value) (x:A3 s.args),(∀b,Z b->b<w.heap.size)->Z9 P w Z s.args a x->Dis w (R1 s.args a)->s.pre x->
  Gw.cD P f a w λv c=>Y6 (YQ w s.args a) w c/\∃(r:Br s.res) (o:Od s.args) (d:List Value) (Zn:Nat->Prop),s.post x r/\(Q7 s.args=true->s.mpost x r o)/\v=BB d/\(∀b,Zn b->(w.heap.size<=b/\b<c.heap.size)\/(s.shared=true/\Z b))/\Oj w.heap.size c Zn s.res d r/\Xr w c Zn s.args a o
def CV {as:List AM} (h:Bh as=true):∀vs,R1 as vs= []:=by
 induction as with
 |nil=>intro vs;cases vs<;>rfl
 |cons a as b=>
  intro vs;simp only[Bh,tN,qC]at h;cases vs with
  |nil=>rfl
  |cons v vs=>
   cases a with
   |val _ _=>exact b h.2 vs
   | _=>simp at h
def YV {as:List AM} (h:Q7 as=false):∀vs,R1 as vs= []:=by
 induction as with
 |nil=>intro vs;cases vs<;>rfl
 |cons b as a=>
  intro vs;simp only[Q7,yH,rE]at h;cases vs with
  |nil=>rfl
  |cons v vs=>simp only[R1,h.1,rI];exact a h.2 vs
def fV {as:List AM} (h:Q7 as=false):∀vs,D9 as vs= []:=by
 induction as with
 |nil=>intro vs;cases vs<;>rfl
 |cons b as a=>
  intro vs;simp only[Q7,yH,rE]at h;cases vs with
  |nil=>rfl
  |cons v vs=>simp only[D9,h.1,rI];exact a h.2 vs
def SE (a:St) (mu:List Nat):C->C
 | .row k=>bif mu.any (Nat.beq k)then .dead else(match a.L k with
  | .row t _ l=> .val (.sl t) l
  | .rows t _ _ b _ none=> .val (.sl (.sl t)) b
  | _=> .dead)
 | .mp k=>bif mu.any (Nat.beq k)then .dead else(match a.L k with
  | .map d f g h b=> .val (.mp d f g h) b
  | _=> .dead)
 | .win k sz d b=>bif mu.any (Nat.beq k)then .dead else(match a.L k with
  | .row t _ l=>B6c sz d b (.val (.sl t) l)
  | _=> .dead)
 |c=>c
def pR (a:St) (mu:List Nat) (agg:Bool) (t:Ty) (s:SV):Option t.den:=
 match t,s with
 | .ptr b,⟨false,[.box k 0]⟩=>bif mu.any (Nat.beq k)then none else(match a.L k with
  | .box _ c=>match Mm b (c.map (SE a mu))with
   |some (x,[])=>bif agg then none else some x
   | _=>none
  | .sbox q c y=>if h:c=b then(bif Nat.beq q k&& !agg then some (h▸y)else none)else none
  | _=>none)
 |t,s=>Sj agg t ⟨s.agg,s.cs.map (SE a mu)⟩
def gD (a:St) (mu:List Nat) (sh:Bool) (agg:Bool) (t:Ty) (s:SV):Option t.den:=bif sh then Sj agg t s else pR a mu agg t s
def Wu (a:St) (t:Ty) (e:TypeId) (k:Nat):Option (List t.den):=match a.L k with
 | .row b a l=>if h:b=t then(bif Nat.beq a e then some (h▸l)else none)else none
 | _=>none
def mY (a:St) (T:TypeId) (t:Ty) (k:Nat):Option t.den:=match a.L k with
 | .box T' a=>bif Nat.beq T' T then(match Mm t a with|some (x,[])=>some x| _=>none)else none
 | _=>none
def rowsAt (a:St) (t:Ty) (e e':TypeId) (k:Nat):Option (List (List t.den)):=match a.L k with
 | .rows c d a b _ none=>if h:c=t then(bif Nat.beq d e&&Nat.beq a e' then some (h▸b)else none)else none
 | _=>none
def Sm:SV->Option Nat
 | ⟨false,[.row k]⟩=>some k
 | _=>none
def eH:SV->Option Nat
 | ⟨false,[.box k 0]⟩=>some k
 | _=>none
def Y7:List AM->List SV->Option (List Nat)
 | [],[]=>some []
 | .row _ _::r,s::a=>(Sm s).bind λk=>(Y7 r a).map (k:: ·)
 | .box _ _::r,s::a=>(eH s).bind λk=>(Y7 r a).map (k:: ·)
 | .rows _ _ _::r,s::a=>(Sm s).bind λk=>(Y7 r a).map (k:: ·)
 | .val _ _::r,_::a=>Y7 r a
 | .fn _ _ _::r,_::a=>Y7 r a
 | _,_=>none
def Qn (a:St) (mu:List Nat) (sh:Bool):(as:List AM)->List SV->Option (A3 as)
 | [],[]=>some ()
 | .val b t::r,s::c=>(gD a mu sh b t s).bind λx=>(Qn a mu sh r c).map λy=>(x,y)
 | _,_=>none
def XU (a:St) (mu:List Nat):(as:List (Bool×Ty))->Z4 as->(args:List AM)->List SV->Option (A3 args)
 | [],_,args,b=>Qn a mu false args b
 | (c,t)::r,y, .val d b::args,f=>if h:t=b then(bif c==d then(XU a mu r y.2 args f).map λz=>((h▸y.1:b.den),z)else none)else none
 | _:: _,_,_,_=>none
def A7d (b:Bool) (r:Ty):(rs:List RT)->Br rs->r.den->Prop
 | [.val a t],z,u=>if h:t=r then a=b/\(h▸z.1:r.den)=u else False
 | _,_,_=>False
def fnP (d:St) (mu:List Nat) (sg:A8) (as:List (Bool×Ty)) (c:Bool) (r:Ty) (a:List SV) (b:Z4 as->Prop) (φ:Z4 as->r.den):Prop:=
 ∀y,bwf as y->b y->match XU d mu as y sg.args a with
  |some x=>sg.pre x/\∀z,rwf sg.res z->sg.post x z->A7d c r sg.res z (φ y)
  |none=>False
def Mb:Ty->Bool
 | .sl _=>false
 | .ptr _=>false
 | .mp _ _ _ _=>false
 | .pair a b=>Mb a&&Mb b
 | _=>true
def A5p:RT->Bool
 | .val _ t=>Mb t
 | .own t _=>Mb t
 | .obox _ t=>Mb t
 | .rows t _ _=>Mb t
def Qf:LC->Bool
 | .box _ _=>true
 | .sbox _ _ _=>true
 | _=>false
def VF:LC->Bool
 | .sbox _ _ _=>true
 | _=>false
def IJ:List Nat->Bool
 | []=>true
 |k::l=> !(l.any λj=>Nat.beq k j)&&IJ l
abbrev G1:=List (Nat×A8)
def O1 (cx:Cx) (sp:G1) (a:St) (mu:List Nat) (sh:Bool):(as:List AM)->List SV->(A3 as->Prop)->Prop
 | [],[],k=>k ()
 | .val b t::r,s::c,k=>match gD a mu sh b t s with
  |some x=>O1 cx sp a mu sh r c λy=>k (x,y)
  |none=>False
 | .row t e::r,s::b,k=>match Sm s with
  |some q=>(match Wu a t e q with
   |some l=>bif mu.any (Nat.beq q)then O1 cx sp a mu sh r b λy=>k (l,y)else False
   |none=>False)
  |none=>False
 | .box T t::r,s::b,k=>match eH s with
  |some q=>(match mY a T t q with
   |some x=>bif mu.any (Nat.beq q)then O1 cx sp a mu sh r b λy=>k (x,y)else False
   |none=>False)
  |none=>False
 | .fn b i d::r,s::j,k=>match c1 s with
  |some (.fn g c)=>match V3 g sp with
   |some sg=>bif Gq cx.P g&&Bh sg.args&&(!sh||c.all (λk=>VF (a.L k)))&&c.all (λk=>Qf (a.L k))then
    ∃(f:Z4 b->Prop) (g:Z4 b->d.den),fnP a mu sg b i d (c.map λk=>⟨false,[.box k 0]⟩) f g/\O1 cx sp a mu sh r j λy=>k ((f,g),y)
    else False
   |none=>False
  |some (.fv P' c l g f n)=>if h:c=b/\g=d then P'=cx.P/\l=i/\O1 cx sp a mu sh r j λy=>k ((h.1▸f,λz=>h.2▸n (h.1▸z)),y)else False
  | _=>False
 | .rows t e b::r,s::c,k=>match Sm s with
  |some q=>(match rowsAt a t e b q with
   |some l=>bif mu.any (Nat.beq q)then O1 cx sp a mu sh r c λy=>k (l,y)else False
   |none=>False)
  |none=>False
 | _,_,_=>False
def G2:(rs:List RT)->Br rs->St->List SV×St
 | [],_,a=>([],a)
 | .val a t::rs,x,b=>(λp=>(⟨a,explode t x.1⟩::p.1,p.2)) (G2 rs x.2 b)
 | .own t e::rs,x,a=>(λp=>(⟨false,[.row a.nx]⟩::p.1,p.2)) (G2 rs x.2 (a.newL (.row t e x.1)))
 | .obox T t::rs,x,a=>(λp=>(⟨false,[.box a.nx 0]⟩::p.1,p.2)) (G2 rs x.2 (a.newL (.box T (explode t x.1))))
 | .rows t e b::rs,x,a=>(λp=>(⟨false,[.row a.nx]⟩::p.1,p.2)) (G2 rs x.2 (a.newL (.rows t e b x.1 [] none)))
def B2j:List SV->DV
 | [s]=> .one s
 |ss=> .tup ss
section
variable {za:Zn} {w0 w w':World} {Z:Nat->Prop} {B:Nat->Value} {st:St} {E:G8} {P:Program}
def lz (w:World) (st:St) (mu:List Nat) (B:Nat->Value) (Z:Nat->Prop) (sh:Bool):Nat->Prop:=λb=>Z b\/(sh=false/\∃k,mu.any (Nat.beq k)=false/\B4 w (B k) (st.L k) b)
variable {mu:List Nat}
def B4b (h:C3 za w0 st E w Z B) {c:C} {v:Value} (a:RC w Z B c v):RC w (lz w st mu B Z false) B (SE st mu c) v:=by
 have u:∀ {c:C},RC w Z B c v->RC w (lz w st mu B Z false) B c v:=λ{c} a=>by
  cases c with
  |val t x=>exact C9.mono (λ_=> .inl) (λ_ _=>rfl) a
  |pf t x j=>obtain⟨b,o,d,e,i,f,g⟩:=a;exact⟨b,o,d,e, .inl i,f,C9.mono (λ_=> .inl) (λ_ _=>rfl) g⟩
  |fv P as d r b f=>exact RC.mono (n:=0) (c:= .fv P as d r b f) (λ_=> .inl) (λ_ _=>rfl) (λ_ _=>rfl) trivial a
  | _=>exact a
 cases c with
 |row k=>
  simp only[SE];cases f:mu.any (Nat.beq k)with
  |true=>trivial
  |false=>
   cases b:st.L k with
   |row t e r=>
    have d:=h.locs k;rw[b]at d;obtain⟨s,g,j,_⟩:=d;have l:v=B k:=a;subst l;exact Cv g (j.mono λ_ _=>C9.mono (λ_=> .inl) (λ_ _=>rfl)) (λo i=> .inr ⟨rfl,k,f,by rw[b];exact(E7 g).trans i⟩)
   |rows t e o r al i=>
    cases i with
    |some _=>trivial
    |none=>
     have d:=h.locs k;rw[b]at d;have j:v=B k:=a;subst j;exact A0c d (λ_=> .inl) (λl g=> .inr ⟨rfl,k,f,by rw[b];exact g⟩)
   | _=>trivial
 |mp k=>
  simp only[SE];cases l:mu.any (Nat.beq k)with
  |true=>trivial
  |false=>
   cases d:st.L k with
   |map x y z A t=>
    have b:=h.locs k;rw[d]at b;obtain⟨o,s,r,e,_,_,g,j,i⟩:=b;have f:v=B k:=a;rw[e]at f;subst f;exact kC g j (i.mono (λ_=> .inl) (λ_ _=>rfl)) (.inr ⟨rfl,k,l,by rw[d,e];rfl⟩)
   | _=>trivial
 |win k sz O N=>
  simp only[SE];cases x:mu.any (Nat.beq k)with
  |true=>trivial
  |false=>
   cases f:st.L k with
   |row t e A=>
    have d:=h.locs k;rw[f]at d;obtain⟨Q,g,s,_⟩:=d;have b:C9 (.sl t) w (lz w st mu B Z false) [B k] A:=Cv g (s.mono λ_ _=>C9.mono (λ_=> .inl) (λ_ _=>rfl)) (λF r=> .inr ⟨rfl,k,x,by rw[f];exact(E7 g).trans r⟩);simp only[rI,B6c];cases y:Nat.beq sz t.size with
    |false=>trivial
    |true=>
     have:=qD y;subst this;obtain⟨D,n,G,o,J,M,i,j,l,H,I,z⟩:=a;rw[o]at b;rw[z];exact A7c b i j l
   | _=>trivial
 | _=>exact u a
def DY (h:C3 za w0 st E w Z B):∀ {cs:List C} {vs:List Value},Db w Z B cs vs->Db w (lz w st mu B Z false) B (cs.map (SE st mu)) vs
 | [],_,a=>a
 | _:: _,_,⟨v,c,e,a,b⟩=>⟨v,c,e,B4b h a,DY h b⟩
def A0p (h:C3 za w0 st E w Z B) {k q:Nat} {f d:Ty} {y:f.den} {a:Bool} {v:Value} {x:(Ty.ptr d).den} (n:st.L k= .sbox q f y) (o:RS w Z B ⟨false,[.box k 0]⟩ v) (b:(if h:f=d then(bif Nat.beq q k&& !a then some (h▸y)else none)else none)=some x):Bl a (.ptr d) w Z v x:=by
 split at b
 . rename_i r;subst r;cases c:Nat.beq q k&& !a with
   |false=>simp only[c,rI]at b;cases b
   |true=>
    simp only[c,qS]at b;cases b;simp only[qC,rN]at c;have:=qD c.1;subst this;have i:=h.locs q;rw[n]at i;obtain⟨_,g,_⟩:=i;obtain⟨_,_,j,⟨t,l,s⟩,_⟩:=o;cases j;rw[c.2];rw[l]at g;rw[s];exact g
 cases b
def B5h (h:C3 za w0 st E w Z B) {a:Bool} {t:Ty} {s:SV} {v:Value} {x:t.den} (c:RS w Z B s v) (b:pR st mu a t s=some x):Bl a t w (lz w st mu B Z false) v x:=by
 have n:∀ {t:Ty} {x:t.den},Sj a t ⟨s.agg,s.cs.map (SE st mu)⟩=some x->Bl a t w (lz w st mu B Z false) v x:=λb=>by
  refine Ex (B:=B) ?_ b;obtain⟨d,g⟩:=s;cases d with
  |true=>obtain⟨vs,e,c⟩:=c;exact⟨vs,e,DY h c⟩
  |false=>exact DY h (vs:= [v]) c
 unfold pR at b;split at b
 . rename_i F k;cases f:mu.any (Nat.beq k)with
   |true=>simp[f]at b
   |false=>
    simp only[f,rI]at b;split at b
    . rename_i T D d;split at b
      . rename_i z y;cases a with
        |true=>simp at b
        |false=>
         simp only[rI,rF]at b;subst b;have i:=h.locs k;rw[d]at i;obtain⟨j,vs,e,_,_,o,r⟩:=i;obtain⟨_,_,l,⟨A,g,u⟩,_⟩:=c;cases l;rw[e]at g;cases g;subst u;exact⟨j,0,vs.toList,rfl, .inr ⟨rfl,k,f,by rw[d,e];rfl⟩,o.cellsAt,Hd (DY h r) y⟩
      cases b
    . rename_i q G z d;exact(A0p h d c b).mono (λ_=> .inl) (λ_ _=>rfl)
    cases b
 exact n b
def MK (h:C3 za w0 st E w Z B):∀ {as:List AM} {c:List Nat} {x:A3 as},c.all (λk=>VF (st.L k))=true->Qn st mu false as (c.map λk=>⟨false,[.box k 0]⟩)=some x->Z9 P w Z as (c.map B) x
 | [],[],_,_,_=>rfl
 | [],_:: _,_,_,b=>by cases b
 |a::r,[],_,_,b=>by cases a<;>cases b
 | .val a t::r,k::c,x,d,j=>by
  simp only[tN,qC]at d;simp only[rW,Qn,bind_some,qK]at j;obtain⟨z,b,A,o,rfl⟩:=j;refine⟨B k,c.map B,rfl,?_,MK h d.2 o⟩;cases f:st.L k with
  |sbox q v y=>
   have g:=h.locs k;rw[f]at g;simp only[gD,rI]at b;obtain⟨rfl,_,n,e⟩:=g;have l:RS w Z B ⟨false,[.box q 0]⟩ (B q):=⟨B q,[],rfl,⟨n,e,e⟩,rfl⟩;cases t with
   |ptr u=>
    simp only[pR]at b;cases i:mu.any (Nat.beq q)with
    |true=>simp[i]at b
    |false=>
     simp only[i,rI,f]at b;exact A0p h f l b
   | _=>
    simp only[pR]at b;exact Ex (s:=⟨false,[.box q 0]⟩) (B:=B) l b
  | _=>rw[f]at d;cases d.1
 | .row _ _:: _,_:: _,_,_,b=>by cases b
 | .box _ _:: _,_:: _,_,_,b=>by cases b
 | .fn _ _ _:: _,_:: _,_,_,b=>by cases b
 | .rows _ _ _:: _,_:: _,_,_,b=>by cases b
def GZ {sh:Bool} :∀ {as:List AM} {ss:List SV} {x:A3 as},Qn st mu sh as ss=some x->Bh as=true
 | [],[],_,_=>rfl
 | [],_:: _,_,b=>by cases b
 |a::r,[],_,b=>by cases a<;>cases b
 | .val a t::r,s::ss,x,b=>by
  simp only[Qn,bind_some,qK]at b;obtain⟨y,d,z,c,rfl⟩:=b;have:=GZ c;simpa[Bh]using this
 | .row _ _:: _,_:: _,_,b=>by cases b
 | .box _ _:: _,_:: _,_,b=>by cases b
 | .fn _ _ _:: _,_:: _,_,b=>by cases b
 | .rows _ _ _:: _,_:: _,_,b=>by cases b
def ZN (h:C3 za w0 st E w Z B) {sh a:Bool} {t:Ty} {s:SV} {v:Value} {x:t.den} (c:RS w Z B s v) (b:gD st mu sh a t s=some x):Bl a t w (lz w st mu B Z sh) v x:=by
 unfold gD at b;cases sh with
 |true=>exact(Ex c b).mono (λ_=> .inl) (λ_ _=>rfl)
 |false=>exact B5h h c b
def gE (h:C3 za w0 st E w Z B) {sh:Bool} :∀ {as:List AM} {ss:List SV} {vs:List Value} {x:A3 as},Nz w Z B ss vs->Qn st mu sh as ss=some x->Z9 P w (lz w st mu B Z sh) as vs x
 | [],[],vs,_,b,_=>b
 | [],_:: _,_,_,_,b=>by cases b
 |a::r,[],_,_,_,b=>by cases a<;>cases b
 | .val a t::r,s::ss,_,x,⟨v,i,e,c,d⟩,b=>by
  simp only[Qn,bind_some,qK]at b;obtain⟨y,f,z,g,rfl⟩:=b;exact⟨v,i,e,ZN h c f,gE h d g⟩
 | .row _ _:: _,_:: _,_,_,_,b=>by cases b
 | .box _ _:: _,_:: _,_,_,_,b=>by cases b
 | .fn _ _ _:: _,_:: _,_,_,_,b=>by cases b
def B4c (h:C3 za w0 st E w Z B) {sh:Bool} :∀b,lz w st mu B Z sh b->b<w.heap.size:=λb a=>by
 rcases a with a| ⟨_,k,_,c⟩
 . exact h.zlt b a
 exact((h.locs k).root c).2.1
def Z9.mono {Z':Nat->Prop} (c:∀b,Z b->Z' b) (a:O6 Z w w'):∀ {as:List AM} {vs:List Value} {x:A3 as},Bh as=true->Z9 P w Z as vs x->Z9 P w' Z' as vs x
 | [],_,_,_,h=>h
 | .val i t::r,_,_,g,⟨v,h,e,d,f⟩=>⟨v,h,e,Bl.mono c a d,Z9.mono c a (by simpa[Bh]using g) f⟩
 | .row _ _:: _,_,_,a,_=>by simp[Bh]at a
 | .box _ _:: _,_,_,a,_=>by simp[Bh]at a
 | .fn _ _ _:: _,_,_,a,_=>by simp[Bh]at a
 | .rows _ _ _:: _,_,_,a,_=>by simp[Bh]at a
def eD.wf' {a:AM} {v:Value} {x:a.den} (h:eD P w Z a v x):a.wf x:=by
 cases a with
 |val a t=>exact U9.wf' (λ_ _=>C9.wf) h
 |row t e=>obtain⟨d,b,c,_⟩:=h;exact C9.wf (Cv (Z:=λ_=>True) b (c.mono λ_ _=>C9.mono (λ_ _=>trivial) (λ_ _=>rfl)) (λ_ _=>trivial))
 |box T t=>obtain⟨c,d,_,_,_,b⟩:=h;exact C9.wf b
 |fn _ _=>trivial
 |rows t e b=>exact h.1.wf
def Z9.awf:∀ {as:List AM} {vs:List Value} {x:A3 as},Z9 P w Z as vs x->awf as x
 | [],_,_,_=>trivial
 |a::r,_,x,⟨v,d,e,b,c⟩=>⟨eD.wf' b,Z9.awf c⟩
def VY.bwf:∀ {as:List (Bool×Ty)} {vs:List Value} {x:Z4 as},VY w Z as vs x->bwf as x
 | [],_,_,_=>trivial
 | _:: _,_,_,⟨v,c,e,a,b⟩=>⟨U9.wf' (λ_ _=>C9.wf) a,VY.bwf b⟩
def Xr.owf:∀ {as:List AM} {vs:List Value} {x:Od as},Xr w w' Z as vs x->owf as x
 | [],_,_,_=>trivial
 | .row t e::r,[],x,h=>h.elim
 | .box t e::r,[],x,h=>h.elim
 | .val t e::r,[],x,h=>h.elim
 | .fn _ _ _::r,[],x,h=>h.elim
 | .rows _ _ _::r,[],x,h=>h.elim
 | .rows _ _ _::r,v::vs,x,⟨⟨a,_⟩,b⟩=>⟨a.wf,Xr.owf b⟩
 | .row t e::r,v::vs,x,⟨⟨d,a,c⟩,b⟩=>⟨C9.wf (Cv (Z:=λ_=>True) a (c.mono λ_ _=>C9.mono (λ_ _=>trivial) (λ_ _=>rfl)) (λ_ _=>trivial)),Xr.owf b⟩
 | .box T t::r,v::vs,x,⟨⟨c,d,_,_,b⟩,a⟩=>⟨C9.wf b,Xr.owf a⟩
 | .val _ _::r,v::vs,x,h=>Xr.owf (as:=r) (vs:=vs) h
 | .fn _ _ _::r,v::vs,x,h=>Xr.owf (as:=r) (vs:=vs) h
def eY {Zc Z':Nat->Prop} (i:O6 Zc w w') {c:List Value} {cs:List SV} (h:∀ {as:List AM} {x:A3 as},Qn st mu false as cs=some x->Z9 P w Zc as c x):∀ {as:List (Bool×Ty)} {args:List AM} {y:Z4 as} {vs:List Value} {x:A3 args},Bh args=true->VY w' Z' as vs y->XU st mu as y args cs=some x->Z9 P w' (λb=>Zc b\/Z' b) args (vs++c) x
 | [],args,y,vs,x,a,d,f=>by
  rw[show vs= []from d];exact(h f).mono (λ_=> .inl) i a
 | (d,t)::r,[],_,_,_,_,_,a=>by simp[XU]at a
 | (d,t)::r, .row _ _:: _,_,_,_,a,_,_=>by simp[Bh]at a
 | (d,t)::r, .box _ _:: _,_,_,_,a,_,_=>by simp[Bh]at a
 | (d,t)::r, .fn _ _ _:: _,_,_,_,a,_,_=>by simp[Bh]at a
 | (f,t)::s, .val g u::args,y,vs,x,l,⟨v,r,e,j,k⟩,a=>by
  simp only[XU]at a;split at a
  . rename_i n;subst n;cases d:f==g with
    |false=>simp[d]at a
    |true=>
     simp only[d,qS,qK]at a;have:f=g:=by simpa using d
     subst this;obtain⟨z,o,rfl⟩:=a;subst e;exact⟨v,r++c,rfl,Bl.mono (λ_=> .inr) (λ_ _=>rfl) j,eY i h (by simpa[Bh]using l) k o⟩
  cases a
def C9.flat:∀ {t:Ty} {w:World} {Z Z':Nat->Prop} {cs:List Value} {x:t.den},Mb t=true->C9 t w Z cs x->C9 t w Z' cs x
 | .int _,_,_,_,_,_,_,h=>h
 | .bool,_,_,_,_,_,_,h=>h
 | .str,_,_,_,_,_,_,h=>h
 | .unit,_,_,_,_,_,_,h=>h
 | .pair f g,_,_,_,_,_,a,⟨c1,b,e,c,d⟩=>by
  simp only[Mb,qC]at a;exact⟨c1,b,e,C9.flat a.1 c,C9.flat a.2 d⟩
 | .sl _,_,_,_,_,_,a,_=>by cases a
 | .ptr _,_,_,_,_,_,a,_=>by cases a
 | .mp _ _ _ _,_,_,_,_,_,a,_=>by cases a
def Nz.append:∀ {a b:List SV} {x y:List Value},Nz w Z B a x->Nz w Z B b y->Nz w Z B (a++b) (x++y)
 | [],_,_,_,h,c=>by rw[show _= _ from h];exact c
 | _:: _,_,_,y,⟨v,g,e,d,f⟩,c=>⟨v,g++y,by rw[e];rfl,d,Nz.append f c⟩
def iZ (h:C3 za w0 st E w Z B):∀ {b:List Nat},b.all (λk=>Qf (st.L k))=true->Nz w Z B (b.map λk=>⟨false,[.box k 0]⟩) (b.map B)
 | [],_=>rfl
 |q::b,a=>by
  simp only[tN,qC]at a;refine⟨B q,_,rfl,⟨B q,[],rfl,?_,rfl⟩,iZ h a.2⟩;have d:=h.locs q;cases f:st.L q<;>rw[f]at a d<;>try (cases a.1)
  . obtain⟨c,_,e,_⟩:=d;exact⟨c,e,e⟩
  obtain⟨rfl,_,c,e⟩:=d;exact⟨c,e,e⟩
def B9q {c:Bool} {r:Ty} {d:Nat} {Zn:Nat->Prop} :∀ {rs:List RT} {us:List Value} {z:Br rs} {u:r.den},Oj d w Zn rs us z->A7d c r rs z u->Bl c r w Zn (BB us) u
 | [.val j t],_,z,u,⟨k,i,b,f,_,g⟩,a=>by
  simp only[A7d]at a;split at a
  . rename_i h;subst h;obtain⟨rfl,a⟩:=a;rw[<-a];rw[show i= []from g]at b;rw[b];exact f
  exact a.elim
 | [],_,_,_,_,h=>h.elim
 | [.own _ _],_,_,_,_,h=>h.elim
 | [.obox _ _],_,_,_,_,h=>h.elim
 | [.rows _ _ _],_,_,_,_,h=>h.elim
 | .val _ _:: _:: _,_,_,_,_,h=>h.elim
 | .own _ _:: _:: _,_,_,_,_,h=>h.elim
 | .obox _ _:: _:: _,_,_,_,_,h=>h.elim
 | .rows _ _ _:: _:: _,_,_,_,_,h=>h.elim
structure Yx (P:Program) (f:FuncId) (run:Inl):Prop where
 go:∀ {za:Zn} {w0:World} {st:St} {E:G8} {w:World} {Z:Nat->Prop} {B:Nat->Value} {d:Nat} {ss:List SV} {vs:List Value} {k:St->List SV->Prop},za.b0=0->C3 za w0 st E w Z B->Nz w Z B ss vs->(∀s∈ss,Mp st.nx s)->run.run d st ss k->
  Gw.cD P f vs w λv w'=>∃st' Z' B' ss' us,C3 za w0 st' E w' Z' B'/\v=BB us/\Nz w' Z' B' ss' us/\(∀s∈ss',Mp st'.nx s)/\k st' ss'
 res:∀ {za:Zn} {w0:World} {st:St} {E:G8} {w:World} {Z:Nat->Prop} {B:Nat->Value} {ss:List SV} {vs:List Value} {sv:SV},C3 za w0 st E w Z B->Nz w Z B ss vs->run.res ss=some sv->
  Gw.cD P f vs w λv w'=>R5 w w'/\∃Z':Nat->Prop,(∀b,Z b->Z' b)/\(∀b,Z' b->Z b\/(w.heap.size<=b/\b<w'.heap.size))/\RS w' Z' B sv v:=by intros;rename_i h;cases h
def Lw (P:Program) (sp:G1):Prop:=∀f s,V3 f sp=some s->B7 P f s/\∀a,s.inl=some a->Yx P f a
def C5u (h:C3 za w0 st E w Z B) {sg:A8} {g:FuncId} {sh:Bool} {as:List (Bool×Ty)} {n:Bool} {r:Ty} {b:List Nat} {v:Value} {D:Z4 as->Prop} {φ:Z4 as->r.den} (s:B7 P g sg) (M:Gq P g=true) (a0:v= .func (.func g) #[] (b.map B).toArray) (j:Bh sg.args=true) (O:b.all (λk=>Qf (st.L k))=true) (Y:sh=false\/b.all (λk=>VF (st.L k))=true) (t:fnP st mu sg as n r (b.map λk=>⟨false,[.box k 0]⟩) D φ):A1h P w (lz w st mu B Z sh) v as n r D φ:=by
 refine⟨g,b.map B,a0,M,λw' Z' i F X Q R y V=>?_⟩;have a:=t F y.bwf V;split at a
 . rename_i x d;have J:∀ {as:List AM} {x:A3 as},Qn st mu false as (b.map λk=>⟨false,[.box k 0]⟩)=some x->Z9 P w (lz w st mu B Z sh) as (b.map B) x:=λ{as x} d=>by
    cases sh with
    |false=>exact gE h (iZ h O) d
    |true=>exact(MK h (Y.resolve_left (by simp)) d).mono (λ_=> .inl) (λ_ _=>rfl) (GZ d)
   have u:=eY (P:=P) X J j y d;refine(s w' _ _ x (λc l=>l.elim (Q c) (R c)) u (by rw[CV j];trivial) a.1).mono λa2 a3 ⟨A,z,o,us,Zn,hpost,_,hu,hZn,hrr,_⟩=>?_
   have U:∀c,¬YQ w' sg.args (i++b.map B) c:=λc ⟨a2,hu,_⟩=>by rw[CV j]at hu;cases hu
   refine⟨A.ext U,Zn,λc l=>(hZn c l).imp id (λN=>N.2),?_⟩;have W:A7d n r sg.res z (φ F):=a.2 z (by
    clear a hpost hu A u t s d hZn;have:∀ {f:List RT} {i:List Value} {x:Br f},Oj w'.heap.size a3 Zn f i x->rwf f x:=by
     intro f
     induction f with
     |nil=>intros;trivial
     |cons q f a1=>
      rintro i x ⟨v,a5,e,a,_,I⟩;refine⟨?_,a1 I⟩;cases q with
      |val G H=>exact U9.wf' (λ_ _=>C9.wf) a
      |obox T G=>obtain⟨_,_,_,_,_,_,g⟩:=a;exact C9.wf g
      |rows H e G=>exact a.1.wf
      |own a4 e=>obtain⟨a6,G,H,_⟩:=a;exact C9.wf (Cv (Z:=λ_=>True) G (H.mono λ_ _=>C9.mono (λ_ _=>trivial) (λ_ _=>rfl)) (λ_ _=>trivial))
    exact this hrr) hpost
   rw[hu];exact B9q hrr W
 exact a.elim
def Jq {t:Ty} {e:TypeId} {q:Nat} {l:List t.den} (a:Wu st t e q=some l):st.L q= .row t e l:=by
 unfold Wu at a;split at a
 . rename_i h c g d;split at a
   . rename_i f;subst f;cases b:Nat.beq c e with
     |false=>simp[b]at a
     |true=>simp only[b,qS]at a;cases a;rw[d,qD b]
   cases a
 cases a
def Zg {T:TypeId} {t:Ty} {q:Nat} {x:t.den} (a:mY st T t q=some x):∃cs,st.L q= .box T cs/\Mm t cs=some (x,[]):=by
 unfold mY at a;split at a
 . rename_i T' cs c;cases b:Nat.beq T' T with
   |false=>simp[b]at a
   |true=>
    simp only[b,qS]at a;split at a
    . rename_i y d;cases a;exact⟨cs,by rw[c,qD b],d⟩
    cases a
 cases a
def Ad {t:Ty} {e e':TypeId} {q:Nat} {l:List (List t.den)} (a:rowsAt st t e e' q=some l):∃al,st.L q= .rows t e e' l al none:=by
 unfold rowsAt at a;split at a
 . rename_i k d c j al i;split at a
   . rename_i h;subst h;cases b:Nat.beq d e&&Nat.beq c e' with
     |false=>simp only[b,rI]at a;cases a
     |true=>
      simp only[b,qS]at a;cases a;simp only[qC]at b;have f:=qD b.1;have g:=qD b.2;subst f g;exact⟨al,i⟩
   cases a
 cases a
def PZ (h:C3 za w0 st E w Z B) {q b:Nat} {sh:Bool} (g:mu.any (Nat.beq q)=true) (c:B4 w (B q) (st.L q) b):¬lz w st mu B Z sh b:=λa=>by
 rcases a with a| ⟨_,k,d,f⟩
 . exact((h.locs q).root c).2.2 a
 have:q≠k:=λe=>by subst e;rw[g]at d;cases d
 exact h.disj q k b this c f
def Sn {s:SV} {q:Nat} (h:Sm s=some q):s=⟨false,[.row q]⟩:=by
 unfold Sm at h;split at h
 . cases h;rfl
 cases h
def WX {s:SV} {q:Nat} (h:eH s=some q):s=⟨false,[.box q 0]⟩:=by
 unfold eH at h;split at h
 . cases h;rfl
 cases h
variable {cx:Cx} {sp:G1}
def Ew (h:C3 za w0 st E w Z B) (g:Lw cx.P sp) {sh:Bool} :∀ {as:List AM} {ss:List SV} {vs:List Value} {k:A3 as->Prop},Nz w Z B ss vs->O1 cx sp st mu sh as ss k->∃x,Z9 cx.P w (lz w st mu B Z sh) as vs x/\k x
 | [],[],vs,k,d,b=>⟨(),d,b⟩
 | [],_:: _,_,_,_,b=>b.elim
 |a::r,[],_,_,_,b=>by cases a<;>exact b.elim
 | .val a t::r,s::ss,_,k,⟨v,o,e,d,f⟩,b=>by
  simp only[O1]at b;split at b
  . rename_i x j;obtain⟨y,l,i⟩:=Ew h g f b;exact⟨(x,y),⟨v,o,e,ZN h d j,l⟩,i⟩
  exact b.elim
 | .row R M::O,Q::ss,_,k,⟨v,G,e,j,u⟩,b=>by
  simp only[O1]at b;split at b
  . rename_i q A;rw[Sn A]at j;split at b
    . rename_i F z;cases f:mu.any (Nat.beq q)with
      |false=>simp[f]at b
      |true=>
       simp only[f,qS]at b;obtain⟨I,D,y⟩:=Ew h g u b;have r:=Jq z;have l:=h.locs q;rw[r]at l;obtain⟨H,i,t,N⟩:=l;obtain⟨_,_,s,d,_⟩:=j;cases s;have d:v=B q:=d;refine⟨(F,I),⟨v,G,e,⟨H,by rw[d];exact i,t.mono λ_ _=>C9.mono (λ_=> .inl) (λ_ _=>rfl),λJ o=>?_⟩,D⟩,y⟩;rw[d]at o;exact PZ h f (by rw[r];exact(E7 i).trans o)
    exact b.elim
  exact b.elim
 | .box T W::U,V::ss,_,k,⟨I,J,e,j,y⟩,b=>by
  simp only[O1]at b;split at b
  . rename_i q D;rw[WX D]at j;split at b
    . rename_i x F;cases d:mu.any (Nat.beq q)with
      |false=>simp[d]at b
      |true=>
       simp only[d,qS]at b;obtain⟨M,G,z⟩:=Ew h g y b;obtain⟨O,o,A⟩:=Zg F;have l:=h.locs q;rw[o]at l;obtain⟨r,H,i,Q,R,u,v⟩:=l;obtain⟨_,_,s,⟨N,f,t⟩,_⟩:=j;cases s;rw[i]at f;cases f;refine⟨(x,M),⟨I,J,e,⟨r,H,t,PZ h d (by rw[o,i];rfl),u,(Hd v A).mono (λ_=> .inl) (λ_ _=>rfl)⟩,G⟩,z⟩
    exact b.elim
  exact b.elim
 | .fn Q V U::R,H::ss,_,k,⟨I,J,e,A,D⟩,b=>by
  simp only[O1]at b;split at b
  . rename_i r v d;split at b
    . rename_i sg O;cases f:Gq cx.P r&&Bh sg.args&&(!sh||v.all (λk=>VF (st.L k)))&&v.all (λk=>Qf (st.L k))with
      |false=>simp only[f,rI]at b
      |true=>
       simp only[f,qS]at b;simp only[qC,tX,rN]at f;obtain⟨i,j,N,b⟩:=b;obtain⟨y,u,t⟩:=Ew h g D b;have s:H=⟨false,[.fn r v]⟩:=by
        unfold c1 at d;split at d
        . cases d;rfl
        cases d
       subst s;obtain⟨_,_,l,o,_⟩:=A;cases l;exact⟨((i,j),y),⟨I,J,e,C5u h (g r sg O).1 f.1.1.1 o f.1.1.2 f.2 f.1.2 N,u⟩,t⟩
    exact b.elim
  . rename_i P' z G F i j d;split at b
    . rename_i M;obtain⟨rfl,rfl⟩:=M;obtain⟨rfl,rfl,b⟩:=b;obtain⟨y,u,t⟩:=Ew h g D b;have s:H=⟨false,[.fv cx.P z G F i j]⟩:=by
       unfold c1 at d;split at d
       . cases d;rfl
       cases d
      subst s;obtain⟨_,_,l,o,_⟩:=A;cases l;exact⟨((i,j),y),⟨I,J,e,RC.mono (n:=0) (c:= .fv cx.P z G F i j) (B':=B) (λ_=> .inl) (λ_ _=>rfl) (λ_ _=>rfl) trivial o,u⟩,t⟩
    exact b.elim
  exact b.elim
 | .rows M H j::I,J::ss,_,k,⟨v,F,e,l,t⟩,b=>by
  simp only[O1]at b;split at b
  . rename_i q z;rw[Sn z]at l;split at b
    . rename_i D y;cases i:mu.any (Nat.beq q)with
      |false=>simp[i]at b
      |true=>
       simp only[i,qS]at b;obtain⟨G,A,u⟩:=Ew h g t b;obtain⟨al,r⟩:=Ad y;have o:=h.locs q;rw[r]at o;obtain⟨_,_,j,f,_⟩:=l;cases j;have f:v=B q:=f;refine⟨(D,G),⟨v,F,e,⟨by rw[f];exact o.rowsR.mono (λ_=> .inl),λs d=>?_⟩,A⟩,u⟩;rw[f]at d;have d:B4 w (B q) (st.L q) s:=by rw[r];exact(W5 λ_ _=>rfl).1 d
       exact⟨PZ h i d,((h.locs q).root d).2.1⟩
    exact b.elim
  exact b.elim
def Oj.rwf {a:Nat} {Zn:Nat->Prop} :∀ {rs:List RT} {vs:List Value} {x:Br rs},Oj a w' Zn rs vs x->rwf rs x
 | [],_,_,_=>trivial
 | .val d t::rs,_,x,⟨v,f,e,b,_,c⟩=>⟨by
  exact U9.wf' (λ_ _=>C9.wf) b,Oj.rwf c⟩
 | .own t e::rs,_,x,⟨v,f,_,⟨g,b,d,_⟩,_,c⟩=>⟨C9.wf (Cv (Z:=λ_=>True) b (d.mono λ_ _=>C9.mono (λ_ _=>trivial) (λ_ _=>rfl)) (λ_ _=>trivial)),Oj.rwf c⟩
 | .obox T t::rs,_,x,⟨v,c,_,⟨_,_,_,_,_,_,g⟩,_,b⟩=>⟨C9.wf g,Oj.rwf b⟩
 | .rows t e c::rs,_,x,⟨v,d,_,⟨g,_⟩,_,b⟩=>⟨g.wf,Oj.rwf b⟩
def Vk:∀ {rs:List RT} {vs:List Value},rs.any Bn=false->X4 rs vs= []
 | [],_,_=>by cases ‹List Value› <;>rfl
 | .val _ _::rs,[],_=>rfl
 | .val _ _::rs,_::vs,h=>Vk (rs:=rs) (vs:=vs) (by simpa[Bn]using h)
 | .own _ _:: _,_,h=>by simp[Bn]at h
 | .obox _ _:: _,_,h=>by simp[Bn]at h
 | .rows _ _ _:: _,_,h=>by simp[Bn]at h
def C3.place {d:Nat} {Zn:Nat->Prop} :∀ {rs:List RT} {us:List Value} {r:Br rs} {st:St} {B:Nat->Value},C3 za w0 st E w' Z B->w0.heap.size<=d->za.b0<=d->(∀b,Zn b->Z b)->(∀b,d<=b->Z b->Zn b)->(∀b,d<=b->∀k,B4 w' (B k) (st.L k) b->∀u∈X4 rs us,root u≠some b)->(rs.any Qg=true->∀b,d<=b->∀k,¬B4 w' (B k) (st.L k) b)->Oj d w' Zn rs us r->
 ∃B',C3 za w0 (G2 rs r st).2 E w' Z B'/\Nz w' Z B' (G2 rs r st).1 us/\(∀s∈(G2 rs r st).1,Mp (G2 rs r st).2.nx s)/\(∀k,k<st.nx->B' k=B k)/\st.nx<=(G2 rs r st).2.nx/\(∀j,j<st.nx->(G2 rs r st).2.L j=st.L j)/\(∀j b,st.nx<=j->B4 w' (B' j) ((G2 rs r st).2.L j) b->d<=b)
 | [],us,_,st,B,h,_,_,_,_,_,_,f=>⟨B,h,f,by simp[G2],λ_ _=>rfl,qV _,λ_ _=>rfl,λj b c a=>by
  have a:B4 w' (B j) (st.L j) b:=a;rw[h.fresh j c]at a;exact a.elim⟩
 | .val I J::rs,us,r,st,B,w,a,F,f,H,z,G,⟨v,g,e,x,_,y⟩=>by
  subst e;obtain⟨B',h,i,l,n,o,t⟩:=C3.place (rs:=rs) (us:=g) w a F f H (λb a k D u hu=>z b a k D u hu) (λA=>G (by simpa[Qg]using A)) y;refine⟨B',h,⟨v,g,rfl,Bl.explode (Bl.mono f (λ_ _=>rfl) x),i⟩,λs c=>?_,n,o,t⟩;rcases qW.1 c with rfl|c
  . exact F3
  exact l s c
 | .own t e::rs,us,r,st,B,z,D,J,N,O,G,a9,⟨v,a7,Q,⟨P,i,a1,a3⟩,H,X⟩=>by
  subst Q;have n:=E7 i;have g:=World.ownsRow.lt i;have a4:w'.ownsRow 0 e t.size v r.1.length P:=Ml i (rS _);have a5:v.oneCell'=true:=by rcases i.2 with⟨M,_⟩ | ⟨_,_,_,M,_⟩<;>rw[M]<;>rfl
  have Y:=z.new (v:=v) (lc:= .row t e r.1) ⟨P,by rw[C2];exact a4,a1.mono λ_ _=>C9.mono N (λ_ _=>rfl),λb a=>by
   rw[C2]at a;exact⟨.inl ⟨z.nms.2,qX D (g b a).1⟩,λa6=>a3 b a (O b (g b a).1 a6)⟩⟩
   (λk b a l=>by
    have I:v.ownBlock=some b:=n.symm.trans a;exact G b (g b I).1 k l v (by simp[X4]) a) trivial a5 (λb _ a=>qX J (g b (n.symm.trans a)).1)
  obtain⟨B',R,U,V,w,x,y,W⟩:=C3.place Y D J N O (λb a k c u hu=>by
   rw[St.L_newL]at c;by_cases l:k=st.nx
   . subst l;rw[qR rfl,C2]at c;exact(H rfl).2 b c u hu
   rw[qL l]at c;rw[C5 _ _ _ _ l]at c;exact G b a k c u (by simp[X4,hu])) (λI=>by rw[(H rfl).1.1]at I;cases I) X
  have A:B' st.nx=v:=by rw[w st.nx (rR _),C2]
  refine⟨B',R,⟨v,a7,rfl,⟨v,[],rfl,A.symm,rfl⟩,U⟩,λs o=>?_,λk c=>?_,qX (uI _) x,λj h=>?_,λj b h f=>?_⟩
  . rcases qW.1 o with rfl|o
    . intro a8 F;simp at F;subst F;exact rJ (rR _) x
    exact V s o
  . rw[w k (uY c),C5 _ _ _ _ (tY c)]
  . have:=y j (uY h);simp only[G2];rw[this,St.L_newL,qL (tY h)]
  by_cases a2:j=st.nx
  . subst a2;have a0:(G2 rs r.2 (st.newL (.row t e r.1))).2.L st.nx= .row t e r.1:=by rw[y st.nx (rR _),St.L_newL,qR rfl]
    have f:B4 w' (B' st.nx) ((G2 rs r.2 (st.newL (.row t e r.1))).2.L st.nx) b:=f;rw[a0,A]at f;exact(g b (n.symm.trans f)).1
  exact W j b (by have:st.nx<=j:=h;show st.nx+1<=j;omega) f
 | .obox T t::rs,us,r,st,B,D,G,M,N,O,H,a9,⟨v,a8,Q,⟨g,P,a6,f,a4,a2,a5⟩,I,X⟩=>by
  subst Q;subst a6;have Y:=D.new (v:= .pointer (some ⟨g,0,none⟩)) (lc:= .box T (explode t r.1)) ⟨g,P,C2 _ _ _, .inl ⟨D.nms.2,qX G f⟩,λa7=>a4 (O g f a7),a2,O7 (C9.mono N (λ_ _=>rfl) a5)⟩
   (λk b c a1=>by
    have h:g=b:=by simpa[B4,root]using c
    subst h;exact H g f k a1 (.pointer (some ⟨g,0,none⟩)) (by simp[X4]) rfl)
   (λx l=>F3 x l) rfl (λb _ c=>by
    have h:g=b:=by simpa[B4,root]using c
    subst h;exact qX M f)
  obtain⟨B',R,U,V,y,z,A,W⟩:=C3.place Y G M N O (λb c k a u hu=>by
   rw[St.L_newL]at a;by_cases o:k=st.nx
   . subst o;rw[qR rfl,C2]at a;exact(I rfl).2 b a u hu
   rw[qL o]at a;rw[C5 _ _ _ _ o]at a;exact H b c k a u (by simp[X4,hu])) (λJ=>by rw[(I rfl).1.1]at J;cases J) X
  have F:B' st.nx= .pointer (some ⟨g,0,none⟩):=by rw[y st.nx (rR _),C2]
  refine⟨B',R,⟨_,a8,rfl,⟨_,[],rfl,⟨g,F,rfl⟩,rfl⟩,U⟩,λs w=>?_,λk a=>?_,qX (uI _) z,λj n=>?_,λj b n i=>?_⟩
  . rcases qW.1 w with rfl|w
    . intro x l;simp at l;subst l;exact rJ (rR _) z
    exact V s w
  . rw[y k (uY a),C5 _ _ _ _ (tY a)]
  . have:=A j (uY n);simp only[G2];rw[this,St.L_newL,qL (tY n)]
  by_cases a3:j=st.nx
  . subst a3;have a0:(G2 rs r.2 (st.newL (.box T (explode t r.1)))).2.L st.nx= .box T (explode t r.1):=by rw[A st.nx (rR _),St.L_newL,qR rfl]
    have i:B4 w' (B' st.nx) ((G2 rs r.2 (st.newL (.box T (explode t r.1)))).2.L st.nx) b:=i;rw[a0,F]at i;have h:g=b:=by simpa[B4,root]using i
    subst h;exact f
  exact W j b (by have:st.nx<=j:=n;show st.nx+1<=j;omega) i
 | .rows t e c::rs,us,r,st,B,y,D,I,M,N,ac,a9,⟨v,O,R,⟨A,a4⟩,G,a0⟩=>by
  subst R;have a6:=a9 (by simp[Qg]);have a7:=Vk (vs:=O) ((G rfl).1.2 rfl);have aa:v.oneCell'=true:=by obtain⟨ad,Y,_⟩:=A;rcases Y.2 with⟨J,_⟩ | ⟨_,_,_,J,_⟩<;>rw[J]<;>rfl
  have g:∀b,B4 w' v (.rows t e c r.1 [] none) b->d<=b/\¬Z b/\b<w'.heap.size:=λb a=>by
   obtain⟨n,P,Q⟩:=a4 b a;exact⟨n,λa3=>P (N b n a3),Q⟩
  have a1:=y.new (v:=v) (lc:= .rows t e c r.1 [] none) (Ct.rl (by rw[C2];exact A.mono M) λb a=>by
   rw[C2]at a;obtain⟨n,P,Q⟩:=g b a;exact⟨.inl ⟨y.nms.2,qX D n⟩,P,Q⟩)
   (λk b a a3=>a6 b (g b a).1 k a3) (λp a8=>by cases a8) aa (λb _ a=>qX I (g b a).1)
  obtain⟨B',U,V,W,o,w,x,X⟩:=C3.place a1 D I M N (λb a k i u hu=>by rw[a7]at hu;cases hu) (λH=>by rw[(G rfl).1.1]at H;cases H) a0;have z:B' st.nx=v:=by rw[o st.nx (rR _),C2]
  refine⟨B',U,⟨v,O,rfl,⟨v,[],rfl,z.symm,rfl⟩,V⟩,λs l=>?_,λk i=>?_,qX (uI _) w,λj h=>?_,λj b h f=>?_⟩
  . rcases qW.1 l with rfl|l
    . intro ab F;simp at F;subst F;exact rJ (rR _) w
    exact W s l
  . rw[o k (uY i),C5 _ _ _ _ (tY i)]
  . have:=x j (uY h);simp only[G2];rw[this,St.L_newL,qL (tY h)]
  by_cases a5:j=st.nx
  . subst a5;have a2:(G2 rs r.2 (st.newL (.rows t e c r.1 [] none))).2.L st.nx= .rows t e c r.1 [] none:=by rw[x st.nx (rR _),St.L_newL,qR rfl]
    have f:B4 w' (B' st.nx) ((G2 rs r.2 (st.newL (.rows t e c r.1 [] none))).2.L st.nx) b:=f;rw[a2,z]at f;exact(g b f).1
  exact X j b (by have:st.nx<=j:=h;show st.nx+1<=j;omega) f
def aT {ss:List SV} {us:List Value} (h:Nz w Z B ss us) (E':G8):RD w Z B E' (B2j ss) (BB us):=by
 match ss,h with
 | [],h=>rw[show us= []from h];exact⟨[],rfl,rfl⟩
 | [s],⟨v,c,e,a,b⟩=>rw[e,show c= []from b];exact a
 |s::i::r,⟨v,j,e,b,g,f,a,c,d⟩=>
  subst a;subst e;exact⟨_,rfl,v,_,rfl,b,g,f,rfl,c,d⟩
def XH {n:Nat} {ss:List SV} (h:∀s∈ss,Mp n s):MP n (B2j ss):=by
 match ss with
 | []=>exact λ_ a=>by cases a
 | [s]=>exact h s (by simp)
 |s::a::r=>exact h
end
def B5d (a:St) (q:Nat) (e':TypeId):(t:Ty)->Option t.den
 | .sl t=>Wu a t e' q
 | .mp b c d f=>mapM a b c d f q
 | _=>none
def AI (e':TypeId):(t:Ty)->t.den->LC
 | .sl t,l=> .row t e' l
 | .mp b c d f,a=> .map b c d f a
 | _,_=> .none
def C3v (q:Nat):Ty->C
 | .sl _=> .row q
 | .mp _ _ _ _=> .mp q
 | _=> .dead
def MJ:Ty->Bool
 | .sl _=>true
 | .mp _ _ _ _=>true
 | _=>false
def RB (i:Nat) (dd:List Nat):List Nat:=dd.filter λj=> !(Nat.beq j i)
def Dd {dd:List Nat} {i:Nat} :H7 [] dd i=false↔i∉dd:=by
 unfold H7;simp only[List.any_nil,wH,zZ];exact⟨λh c=>h i c (by simp),λh j b a=>h (qD a▸b)⟩
def LO {dd:List Nat} {i q j:Nat} :H7 [(i,q)] dd j=false↔j≠i/\j∉dd:=by
 unfold H7;simp only[yH,List.any_nil,Bool.or_false,rE,zZ];refine g5f ⟨λh e=>?_,λh=>?_⟩ ⟨λh c=>h j c (by simp),λh d a b=>h (qD b▸a)⟩
 . subst e;simp at h
 exact E9 (Ne.symm h)
def aQ {i j:Nat} {dd:List Nat} :j∈RB i dd↔j∈dd/\j≠i:=by
 unfold RB;rw[yG];refine g5f xX ⟨λh e=>?_,λh=>?_⟩
 . subst e;simp at h
 rw[E9 h];rfl
def giveS (a:St) (k:Nat):St:=match a.L k with
 | .nest t e b d [(i,q)] c=>match B5d a q b t with
  |some f=>bif Nat.ble a.nm k&&Nat.ble a.nm q&& !(Nat.beq q k)then(a.setL q .none).setL k (.nest t e b (d.set i f) [] c)else a
  |none=>a.setL k (.nest t e b d [] (i::c))
 | _=>a
def gX (a:St) (d:Tmp) (k i:Nat):Option (Option Prop×St):=match a.L k with
 | .nest t e c f [] b=>bif Nat.ble a.nm k&&MJ t then some (some (i∉b),(((a.setL k (.nest t e c f [] (i::b))).newL (AI c t (f.getD i t.dflt))).setL k (.nest t e c f [(i,a.nx)] b)).setS d (one1 (C3v a.nx t)))else none
 | _=>none
def ZR (a:St) (k r i:Nat):Option (Option Prop×St):=match a.L k with
 | .nest t e b f g c=>match B5d a r b t with
  |some d=>bif Nat.ble a.nm k&&Nat.ble a.nm r&& !(Nat.beq r k)then(match g with
   | []=>some (none,(((a.setL r .none).setL k .none).setL k (.nest t e b (f.set i d) [] (RB i c))))
   | [(g,_)]=>some (some (i=g),(((a.setL r .none).setL k .none).setL k (.nest t e b (f.set i d) [] c)))
   | _=>none)else none
  |none=>none
 | _=>none
def VT:SV->Option Nat
 | ⟨false,[.row r]⟩=>some r
 | ⟨false,[.mp r]⟩=>some r
 | _=>none
def Qj (a:Ty) {b:Type} (k:a.den):List (a.den×b)->List (a.den×b)
 | []=> []
 |x::l=>bif GR a k x.1 then l else x::Qj a k l
def fU (c:St) (d:Tmp) (p:Nat) (k:St->Prop):Prop:=match c.L p with
 | .itM f a g b h left _ q=>bif Nat.ble c.nm q&&Nat.blt q p then(left= []->k (((c.setL p .none).setL q (.map f a g b h)).setS d (.tup [⟨false,[.val .bool false]⟩])))/\
  ∀(i:List (a.den×b.den)) (y:a.den×b.den) (j:List (a.den×b.den)),left=i++y::j->k ((c.setL p (.itM f a g b h (i++j) (some y) q)).setS d (.tup [⟨false,[.val .bool true]⟩,⟨f,explode a y.1⟩,⟨g,explode b y.2⟩]))else False
 | _=>False
def isZ:Int->Bool
 | .ofNat 0=>true
 | _=>false
def Ql:Ty->Nat->List Nat
 | .mp _ _ _ _,n=>List.range n
 | _,_=> []
def Ov (cx:Cx) (a:St) (b:Option Tmp):Op->Option (Option Prop×St)
 | .makeSlice T c f=>do
  let d<-b
  let ti<-cx.ti T
  bif ti.nest.any (Nat.beq d)then do
   let t<-slT ti.ty
   let g<-cx.ti ti.elem
   let l<-jR a c
   let c<-jR a f
   bif MJ t then some (some (0<=l/\l<=c/\(ti.bytes:Int)*c<=281474976710656/\c<=9223372036854775807),(a.newL (.nest t ti.elem g.elem (List.replicate l.toNat t.dflt) [] (Ql t l.toNat))).setS d (one1 (.row a.nx)))else none
  else none
 | .load T x=>do
  let d<-b
  let ti<-cx.ti T
  let c<-(a.ev [] x).bind c1
  match c with
  | .elp k sz i c=>bif Nat.beq sz 1&&Nat.beq c 0&& !ti.agg then gX (giveS a k) d k i else none
  | _=>none
 | .store T p v=>match b with
  |none=>do
   let ti<-cx.ti T
   let c<-(a.ev [] p).bind c1
   let r<-(a.ev [] v).bind VT
   match c with
   | .elp k sz i c=>bif Nat.beq sz 1&&Nat.beq c 0&&Nat.beq ti.ty.size 1 then ZR a k r i else none
   | _=>none
  |some _=>none
 | .range T x=>do
  let d<-b
  let ti<-cx.ti T
  let c<-(a.ev [] x).bind c1
  match ti.ty,c with
  | .mp f g h i, .mp q=>do
   let c<-mapM a f g h i q
   bif ti.nest.any (Nat.beq d)&&Nat.ble a.nm q then some (none,((a.setL q .none).newL (.itM f g h i c c none q)).setS d (one1 (.box a.nx 0)))else none
  | _,_=>none
 | .entry x=>do
  let d<-b
  let c<-(a.ev [] x).bind c1
  match c with
  | .box k g=>match a.L k with
   | .itM c f h i _ _ (some y) _=>bif Nat.beq g 0 then some (none,a.setS d (.tup [⟨c,explode f y.1⟩,⟨h,explode i y.2⟩]))else none
   | _=>none
  | _=>none
 | .call ⟨.builtin .delete,c,d⟩=>match b,c.toList,d.toList with
  |none,[m,x],[T,_]=>do
   let ti<-cx.ti T
   let c<-(a.ev [] m).bind c1
   let j<-a.ev [] x
   match ti.ty,c with
   | .mp d c f g, .mp k=>do
    let h<-mapM a d c f g k
    let i<-Sj d c j
    some (none,a.setL k (.map d c f g (Qj c i h)))
   | _,_=>none
  | _,_,_=>none
 | .call ⟨.builtin .append,c,d⟩=>match b,c.toList,d.toList with
  |some f,[x,y],[T,T']=>do
   let ti<-cx.ti T
   let t<-slT ti.ty
   let b<-(a.ev [] x).bind c1
   let d<-(a.ev [] y).bind c1
   let c<-XK a t d
   match b with
   | .win k sz d b=>do
    let l<-Wu a t ti.elem k
    bif Nat.beq T T'&&isZ d&&Nat.beq sz t.size&&Nat.ble 1 t.size&&Nat.ble a.nm k then some (some ((b.toNat+c.length)*ti.bytes<=140737488355328/\b.toNat+c.length<=9223372036854775807),rowS (a.setL k .none) f t ti.elem (l.take b.toNat++c))else none
   | _=>none
  | _,_,_=>none
 | _=>none
def Ve (a:St):Op->Bool
 | .load _ x=>match(a.ev [] x).bind c1 with
  |some (.elp k _ _ _)=>(match a.L k with| .nest _ _ _ _ _ _=>true| _=>false)
  | _=>false
 | .store _ p _=>match(a.ev [] p).bind c1 with
  |some (.elp k _ _ _)=>(match a.L k with| .nest _ _ _ _ _ _=>true| _=>false)
  | _=>false
 | .range _ _=>true
 | .entry _=>true
 | .call ⟨.builtin .delete,_,_⟩=>true
 | .call ⟨.builtin .append,b,_⟩=>match b.toList with
  |x:: _=>(match(a.ev [] x).bind c1 with
   |some (.win _ _ _ _)=>true
   | _=>false)
  | _=>false
 | _=>false
section
variable {za:Zn} {w0 w w':World} {Z Z':Nat->Prop} {B:Nat->Value} {st st':St} {E:G8} {cx:Cx} {φ:Option Prop} {d:Tmp} {all:List Oper} {ty:TypeId} {pos:String} {aft:Array Edge} {g:Option (Nat×Bool)} {k:St->Prop}
def pQ:∀ {t:Ty} {q:Nat} {e':TypeId} {x:t.den},B5d st q e' t=some x->MJ t=true/\st.L q=AI e' t x
 | .sl _,_,_,_,h=>⟨rfl,Jq h⟩
 | .mp _ _ _ _,_,_,_,h=>⟨rfl,VJ h⟩
 | .int _,_,_,_,h=>by cases h
 | .bool,_,_,_,h=>by cases h
 | .str,_,_,_,h=>by cases h
 | .unit,_,_,_,h=>by cases h
 | .pair _ _,_,_,_,h=>by cases h
 | .ptr _,_,_,_,h=>by cases h
def A9i {n:Nat} :∀ {t:Ty} {e':TypeId} {x:t.den},MJ t=true->AQ n (AI e' t x)
 | .sl _,_,_,_=>trivial
 | .mp _ _ _ _,_,_,_=>trivial
def IW {v:Value} {b:Nat} :∀ {t:Ty} {e':TypeId} {x:t.den},MJ t=true->(B4 w v (AI e' t x) b↔root v=some b)
 | .sl _,_,_,_=>xX
 | .mp _ _ _ _,_,_,_=>xX
def B5e {U:Nat->Prop} {q:Nat} :∀ {t:Ty} {e':TypeId} {x:t.den},TF t e' w Z (B q) x->(∀b,root (B q)=some b->U b/\¬Z b)->RL U w Z B q (AI e' t x)
 | .sl _,_,_,⟨f,a,c⟩,h=>⟨f,a,c,λb d=>h b ((E7 a).trans d)⟩
 | .mp _ _ _ _,_,_,⟨b,c,a,e,d,f,g⟩,h=>⟨b,c,a,e,(h b (by rw[e];rfl)).1,(h b (by rw[e];rfl)).2,d,f,g⟩
 | .int _,_,_,h,_=>h.elim
 | .bool,_,_,h,_=>h.elim
 | .str,_,_,h,_=>h.elim
 | .unit,_,_,h,_=>h.elim
 | .pair _ _,_,_,h,_=>h.elim
 | .ptr _,_,_,h,_=>h.elim
def gA {U:Nat->Prop} {q:Nat} :∀ {t:Ty} {e':TypeId} {x:t.den},MJ t=true->RL U w Z B q (AI e' t x)->TF t e' w Z (B q) x
 | .sl _,_,_,_,⟨c,a,b,_⟩=>⟨c,a,b⟩
 | .mp _ _ _ _,_,_,_,⟨b,c,a,e,_,_,d,f,g⟩=>⟨b,c,a,e,d,f,g⟩
def TF.one {v:Value} :∀ {t:Ty} {e':TypeId} {x:t.den},TF t e' w Z v x->v.oneCell'=true
 | .sl _,_,_,⟨a,b,_⟩=>by rcases b.2 with⟨a,_⟩ | ⟨_,_,_,a,_⟩<;>rw[a]<;>rfl
 | .mp _ _ _ _,_,_,⟨b,c,a,e,_⟩=>by rw[e];rfl
 | .int _,_,_,h=>h.elim
 | .bool,_,_,h=>h.elim
 | .str,_,_,h=>h.elim
 | .unit,_,_,h=>h.elim
 | .pair _ _,_,_,h=>h.elim
 | .ptr _,_,_,h=>h.elim
def NF (d:st.nm=za.n) {j k b:Nat} (a:st.nm<=j) (c:st.nm<=k) (h:up za w0 j b):up za w0 k b:=by
 rcases h with h|h
 . exact .inl ⟨ω,h.2⟩
 omega
def C3.give (h:C3 za w0 st E w Z B) (T:za.b0=0) {k q i:Nat} {t:Ty} {e e':TypeId} {ls:List t.den} {dd:List Nat} {x:t.den} (G:st.L k= .nest t e e' ls [(i,q)] dd) (Q:st.L q=AI e' t x) (R:MJ t=true) (W:st.nm<=k) (a0:st.nm<=q) (J:q≠k):
 C3 za w0 ((st.setL q .none).setL k (.nest t e e' (ls.set i x) [] dd)) E w Z B:=by
 have M:=h.locs k;rw[G]at M;obtain⟨y,n,a1⟩:=M;have X:k<st.nx:=Fs h (by rw[G];trivial);have o:y[i]? =some (B q):=n.out (i,q) (by simp);have N:=h.locs q;rw[Q]at N;have Y:=gA R N;have s:∀b,root (B q)=some b->B4 w (B q) (st.L q) b:=λb a=>by rw[Q];exact(IW R).2 a
 have H:∀b,T5 w (B k) (H7 [(i,q)] dd) b->B4 w (B k) (st.L k) b:=λb a=>by rw[G];exact a
 have a2:y.length=ls.length:=by have:=n.own.1;omega
 have U:i<ls.length:=by have:=(sR.1 o).1;omega
 have r:∀j,j≠i->H7 [] dd j=false->H7 [(i,q)] dd j=false:=λj f hh=>LO.2 ⟨f,Dd.1 hh⟩
 have F:∀j u b,H7 [] dd j=false->y[j]? =some u->root u=some b->j≠i->B4 w (B k) (st.L k) b:=λj u b f c a d=>H b (T5.own n.own (r j d f) c a)
 have O:∀b,T5 w (B k) (H7 [] dd) b->root (B q)=some b\/B4 w (B k) (st.L k) b:=λb a=>by
  rcases T5.cases n.own a with a| ⟨j,u,f,c,a⟩
  . exact .inr (H b (.inl a))
  by_cases d:j=i
  . subst d;rw[o]at c;cases c;exact .inl a
  exact .inr (F j u b f c a d)
 refine(h.drop q).addL X ⟨y,⟨by rw[qT];exact n.own,λp I=>(by cases I),λj l u f hl c=>?_,λj j' u v b hjj f hj' c hv a g=>?_,λj u b f c a=>?_⟩,λb a=>?_⟩ (λj b hjk a g=>?_) (λp I=>(by cases I)) (λb _ _=>by rw[T];exact rS _)
 . by_cases d:j=i
   . subst d;rw[sU U]at hl;rw[o]at c;cases hl;cases c;exact Y
   rw[tC (Ne.symm d)]at hl;exact n.elt j l u (r j d f) hl c
 . by_cases d:j=i
   . subst d;rw[o]at c;cases c;exact h.disj q k b J (s b a) (F j' v b hj' hv g (Ne.symm hjj))
   by_cases P:j'=i
   . subst P;rw[o]at hv;cases hv;exact h.disj q k b J (s b g) (F j u b f c a d)
   exact n.dis j j' u v b hjj (r j d f) (r j' P hj') c hv a g
 . by_cases d:j=i
   . subst d;rw[o]at c;cases c;exact λg=>h.disj q k b J (s b a) (H b (.inl g))
   exact n.top j u b (r j d f) c a
 . rcases O b a with a|a
   . obtain⟨z,A,D⟩:=(h.locs q).root (s b a);exact⟨NF h.nms.1 a0 W z,D,A⟩
   obtain⟨z,A,D⟩:=(h.locs k).root a;exact⟨z,D,A⟩
 rw[St.L_setL]at g;split at g
 . exact g.elim
 rename_i V;rcases O b a with a|a
 . exact h.disj j q b V g (s b a)
 exact h.disj j k b hjk g a
def mC.less {t:Ty} {e e':TypeId} {ls:List t.den} {a bo':List (Nat×Nat)} {dd dd':List Nat} {v:Value} {xs:List Value} (h:mC w Z B t e e' ls a dd v xs) (b:∀j,H7 bo' dd' j=false->H7 a dd j=false) (c:∀p∈bo',xs[p.1]? =some (B p.2)):mC w Z B t e e' ls bo' dd' v xs:=
 ⟨h.own,c,λi l x a=>h.elt i l x (b i a),λi j x y c d a f=>h.dis i j x y c d (b i a) (b j f),λi x c a=>h.top i x c (b i a)⟩
def T5.less {v:Value} {H H':Nat->Bool} {b:Nat} (r:∀j,H' j=false->H j=false) (h:T5 w v H' b):T5 w v H b:=by
 rcases h with h| ⟨g,s,a,c,e,i,x,d,f,k,l,n,o⟩
 . exact .inl h
 exact .inr ⟨g,s,a,c,e,i,x,d,f,k,r i l,n,o⟩
def C3.nestLess (h:C3 za w0 st E w Z B) {k:Nat} {t:Ty} {e e':TypeId} {ls:List t.den} {a bo':List (Nat×Nat)} {dd dd':List Nat} (c:st.L k= .nest t e e' ls a dd) (b:∀j,H7 bo' dd' j=false->H7 a dd j=false) (l:∀p∈bo',p∈a):
 C3 za w0 (st.setL k (.nest t e e' ls bo' dd')) E w Z B:=by
 have a:=h.locs k;have i:=h.refl k;rw[c]at a i;obtain⟨f,g,n⟩:=a;exact h.relc (by rw[c];trivial) ⟨f,g.less b λp d=>g.out p (l p d),λf a=>n f (T5.less b a)⟩ (λp d=>i p (l p d)) (λf a=> .inr (by rw[c];exact T5.less b a))
def C3.giveS (h:C3 za w0 st E w Z B) (c:za.b0=0) (k:Nat):C3 za w0 (giveS st k) E w Z B:=by
 unfold Vc.giveS;split
 . rename_i t e n s o q l b;split
   . rename_i x j;obtain⟨i,g⟩:=pQ j;cases a:Nat.ble st.nm k&&Nat.ble st.nm q&& !(Nat.beq q k)with
     |false=>exact h
     |true=>
      simp only[qC,rN]at a;exact h.give c b g i (qO a.1.1) (qO a.1.2) (uK a.2)
   exact h.nestLess b (λr d=>LO.2 (by have:=Dd.1 d;simp only[qW,g4z]at this;exact this)) (λp f=>by cases f)
 exact h
def B3d (st:St) (k:Nat) (ctx:Ia) (y:Operand):(Vc.giveS st k).ev ctx y=st.ev ctx y:=by
 unfold Vc.giveS;split
 . split
   . cases Nat.ble st.nm k&&Nat.ble st.nm _ && !(Nat.beq _ k)<;>rfl
   rfl
 rfl
def C3.take (h:C3 za w0 st E w Z B) (a0:za.b0=0) (d:Tmp) {k i:Nat} {t:Ty} {e e':TypeId} {ls:List t.den} {dd:List Nat} {xs:List Value} {v:Value} (r:st.L k= .nest t e e' ls [] dd) (s:MJ t=true) (a3:st.nm<=k) (a1:i∉dd) (Q:w.ownsRow 0 e 1 (B k) ls.length xs) (n:xs[i]? =some v):
 ∃B',C3 za w0 ((((st.setL k (.nest t e e' ls [] (i::dd))).newL (AI e' t (ls.getD i t.dflt))).setL k (.nest t e e' ls [(i,st.nx)] dd)).setS d (one1 (C3v st.nx t))) (upd E d v) w Z B':=by
 have F:=h.locs k;rw[r]at F;obtain⟨ac,f,aa⟩:=F;have:=Sf Q f.own;subst this;have O:k<st.nx:=Fs h (by rw[r];trivial);have ab:xs.length=ls.length:=by have:=f.own.1;omega
 have a2:i<ls.length:=by have:=(sR.1 n).1;omega
 have a4:ls[i]? =some (ls.getD i t.dflt):=by rw[qE,qM a2];rfl
 have o:H7 [] dd i=false:=Dd.2 a1;have P:=f.elt i _ _ o a4 n;have M:∀j,H7 [] (i::dd) j=false->H7 [] dd j=false:=λj hj=>Dd.2 λg=>Dd.1 hj (qI _ g)
 have N:∀b,root v=some b->B4 w (B k) (st.L k) b:=λb a=>by rw[r];exact T5.own f.own o n a
 have T:=h.nestLess (bo':= []) (dd':=i::dd) r M (λp l=>by cases l);have W:∀j,j<st.nx->(upd B st.nx v) j=B j:=λj hj=>C5 _ _ _ _ (tY hj)
 have y:=T.new (v:=v) (lc:=AI e' t (ls.getD i t.dflt)) (B5e (by show TF _ _ _ _ ((upd B st.nx v) st.nx) _;rw[C2];exact P) (λb a=>by
  have a:root v=some b:=by rw[show(upd B (st.setL k (LC.nest t e e' ls [] (i::dd))).nx v) (st.setL k (LC.nest t e e' ls [] (i::dd))).nx=v from C2 _ _ _]at a;exact a
  obtain⟨u,I,z⟩:=(h.locs k).root (N b a);exact⟨NF h.nms.1 a3 (by show st.nm<=st.nx;rw[h.nms.1];exact h.nms.2) u,z⟩))
  (λj b a c=>by
   have a:=(IW s).1 a;rw[St.L_setL]at c;split at c
   . rename_i z;subst z;rcases T5.cases f.own c with c| ⟨u,a8,I,a5,c⟩
     . exact f.top i v b o n a c
     have Y:u≠i:=λhh=>Dd.1 I (by rw[hh];exact rD)
     exact f.dis i u v a8 b (Ne.symm Y) o (M u I) n a5 a c
   rename_i z;exact h.disj j k b z c (N b a))
  (A9i s) P.one (λb _ _=>by rw[a0];exact rS _)
 have A:((st.setL k (.nest t e e' ls [] (i::dd))).newL (AI e' t (ls.getD i t.dflt))).L k= .nest t e e' ls [] (i::dd):=by
  rw[St.L_newL];show(if k=st.nx then _ else _)= _;rw[qL (tY O),St.L_setL,qR rfl]
 have G:=y.locs k;have X:=y.refl k;rw[A]at G X;obtain⟨R,H,V⟩:=G;have a7:R=xs:=by
  have:=H.own;rw[show(upd B (st.setL k (LC.nest t e e' ls [] (i::dd))).nx v) k=B k from W k O]at this;exact Sf this Q
 subst a7;have D:∀j,H7 [(i,st.nx)] dd j=false->H7 [] (i::dd) j=false:=λj hj=>by
  obtain⟨u,b⟩:=LO.1 hj;refine Dd.2 λg=>?_
  rcases qW.1 g with g|g
  . exact u g
  exact b g
 have U:=y.relc (k:=k) (lc:= .nest t e e' ls [(i,st.nx)] dd) (by rw[A];trivial) ⟨R,H.less D (λp l=>by
  simp only[qJ]at l;subst l;exact n.trans (sA some (C2 B st.nx v).symm)),λb a=>V b (T5.less D a)⟩ (λp l=>by simp only[qJ]at l;subst l;exact rR _) (λb a=> .inr (by rw[A];exact T5.less D a))
 refine⟨_,U.setS d (x:=one1 (C3v st.nx t)) (v:=v) ⟨_,[],rfl,?_,rfl⟩ (λa9 J=>?_)⟩
 . have a6:v=(upd B st.nx v) st.nx:=(C2 _ _ _).symm;cases t<;>first|exact a6|exact(Bool.noConfusion s)
 simp only[one1,qJ]at J;subst J;cases t<;>first|exact rR _ |exact(Bool.noConfusion s)
def pU {P:Program} {T e:TypeId} {p v:Operand} {b m c i n:Nat} {u:Value} {xs:List Value} (J:Tf P T 1=true) (h:w.ownsRow 0 e 1 (.slice (some ⟨b,0,none⟩) m c) n xs) (V:i<m) (O:Gw.ev E p= .pointer (some ⟨b,i*1+0,none⟩)) (N:Gw.ev E v=u) (t:u.oneCell'=true):
 ∃w',Gw.KM P E ty (.store T p v) w w'/\VX b w w'/\w'.ownsRow 0 e 1 (.slice (some ⟨b,0,none⟩) m c) n (xs.set i u):=by
 have B:(Gw.ev E v).cells.toList= [u]:=by rw[N];exact PE t
 rcases h.2 with⟨g,_⟩ | ⟨Q,R,a,g,A,o,I,D,f,M⟩
 . cases g
 cases g;have x:=VP (P:=P) (ty:=ty) (w:=w) [u] O rfl B J rfl o (by rw[f];simp;omega) (λW y=>by simp at y;subst y;exact t);generalize l:(a.toList.take (i*1+0)++ [u]++a.toList.drop (i*1+0+ [u].length)).toArray=z at x;refine⟨_,x,⟨rfl,rfl,⟨rfl,qV _⟩,by simp,λk G=>setRow_other w b k _ G⟩,by rw[qT];exact h.1, .inr ⟨b,c,z,rfl,A,setRow_heap w b a _ e _ o,I,D,?_,?_⟩⟩
 . rw[<-l];simp only[g0a,rQ,qZ,sS,sB,f,rK,yF];omega
 rw[<-l, <-M];simp only[zE];apply xS;intro j;have U:a.toList.length=c*1:=by rw[sB,f]
 simp only[xF,tK,rK,yF,sD];by_cases s:j<m
 . rw[rX s];by_cases r:i=j
   . subst r;rw[sU (by rw[qZ];omega),uC,tS (by rw[qZ];omega),qZ];rw[(ω:i-min i a.toList.length=0)];rfl
   rw[tC r,rX s,uC];by_cases H:j<i
   . rw[vF (by rw[qZ];omega),rX H]
   rw[tS (by rw[qZ];omega),qZ,(ω:min i a.toList.length=i)];obtain⟨d,F⟩:∃d,j-i=d+1:=⟨j-i-1,ω⟩;rw[F];simp only[yU,wZ,uP,xK];rw[(ω:i+1+d=j)]
 rw[rT (by rw[qZ];omega),rT (by rw[qT,qZ];omega)]
def C3.put (h:C3 za w0 st E w Z B) (ac:za.b0=0) {k r i g:Nat} {t:Ty} {e e':TypeId} {ls:List t.den} {V:List (Nat×Nat)} {dd dd':List Nat} {x:t.den} {xs:List Value} (D:st.L k= .nest t e e' ls V dd) (a6:st.L r=AI e' t x) (a8:MJ t=true) (M:r≠k) (af:st.nm<=k) (aj:st.nm<=r) (ad:i<ls.length)
 (H:∀j,j≠i->H7 [] dd' j=false->H7 V dd j=false) (a4:w.ownsRow 0 e 1 (B k) ls.length xs) (a1:root (B k)=some g) (y:VX g w w') (a5:w'.ownsRow 0 e 1 (B k) ls.length (xs.set i (B r))):
 C3 za w0 (((st.setL r .none).setL k .none).setL k (.nest t e e' (ls.set i x) [] dd')) E w' Z B:=by
 have W:=h.locs k;have X:=h.locs r;rw[D]at W;rw[a6]at X;obtain⟨ao,z,am⟩:=W;have ak:=Sf a4 z.own;subst ak;have ah:=gA a8 X;have G:B4 w (B k) (st.L k) g:=by rw[D];exact .inl a1
 have a3:¬Z g:=((h.locs k).root G).2.2;have a7:O6 Z w w':=λs hc'=>y.2.2.2.2 s (λe=>a3 (e▸hc'))
 have F:∀b,root (B r)=some b->B4 w (B r) (st.L r) b:=λb a=>by rw[a6];exact(IW a8).2 a
 have ai:root (B r)≠some g:=λa=>h.disj k r g (Ne.symm M) G (F g a)
 have ag:k<st.nx:=Fs h (by rw[D];trivial);have an:xs.length=ls.length:=by have:=a4.1;omega
 have I:(xs.set i (B r))[i]? =some (B r):=sU ω;have A:∀(j:Nat) (u:Value),j≠i->(xs.set i (B r))[j]? =some u->xs[j]? =some u:=λj u hij c=>by
  rw[tC (Ne.symm hij)]at c;exact c
 have R:∀j u b,H7 [] dd' j=false->xs[j]? =some u->root u=some b->j≠i->B4 w (B k) (st.L k) b:=λj u b o c a d=>by
  rw[D];exact T5.own z.own (H j d o) c a
 have a0:∀b,T5 w' (B k) (H7 [] dd') b->root (B r)=some b\/B4 w (B k) (st.L k) b:=λb a=>by
  rcases T5.cases a5 a with a| ⟨j,u,o,c,a⟩
  . exact .inr (by rw[D];exact .inl a)
  by_cases d:j=i
  . subst d;rw[I]at c;cases c;exact .inl a
  exact .inr (R j u b o (A j u d c) a d)
 have aa:=(h.drop r).drop k;have ab:C3 za w0 ((st.setL r .none).setL k .none) E w' Z B:=by
  refine aa.keep (h.ext.chg y ((h.locs k).root G).1.m) (by rw[y.2.2.2.1];exact qV _) (λq f=>y.2.2.2.2 q ?_) (λ_=>id) (λ_=> .inl);rintro rfl;rcases f with f| ⟨j,f⟩
  . exact a3 f
  rw[St.L_setL]at f;split at f
  . exact f.elim
  rename_i J;rw[St.L_setL]at f;split at f
  . exact f.elim
  exact h.disj j k q J f G
 refine ab.addL ag ⟨_,⟨by rw[qT];exact a5,λp U=>(by cases U),λj l u o hl c=>?_,λj j' u v b hjj o hj' c hv a n=>?_,λj u b o c a=>?_⟩,λb a=>?_⟩ (λj b J a n=>?_) (λp U=>(by cases U)) (λb _ _=>by rw[ac];exact rS _)
 . by_cases d:j=i
   . subst d;rw[sU ad]at hl;rw[I]at c;cases hl;cases c;exact ah.mono (λ_=>id) a7 λs Q=>y.2.2.2.2 s (λe=>ai (e▸Q))
   rw[tC (Ne.symm d)]at hl;have c:=A j u d c;have a2:=H j d o;exact(z.elt j l u a2 hl c).mono (λ_=>id) a7 λs Q=>y.2.2.2.2 s (λe=>z.top j u s a2 c Q (e▸a1))
 . by_cases d:j=i
   . subst d;rw[I]at c;cases c;exact h.disj r k b M (F b a) (R j' v b hj' (A j' v (Ne.symm hjj) hv) n (Ne.symm hjj))
   have a9:=A j u d c;by_cases T:j'=i
   . subst T;rw[I]at hv;cases hv;exact h.disj r k b M (F b n) (R j u b o a9 a d)
   exact z.dis j j' u v b hjj (H j d o) (H j' T hj') a9 (A j' v T hv) a n
 . by_cases d:j=i
   . subst d;rw[I]at c;cases c;exact λn=>h.disj r k b M (F b a) (by rw[D];exact .inl n)
   exact z.top j u b (H j d o) (A j u d c) a
 . rw[y.2.2.2.1];rcases a0 b a with a|a
   . obtain⟨N,O,P⟩:=(h.locs r).root (F b a);exact⟨NF h.nms.1 aj af N,P,O⟩
   obtain⟨N,O,P⟩:=(h.locs k).root a;exact⟨N,P,O⟩
 rw[St.L_setL,qL J,St.L_setL]at n;split at n
 . exact n.elim
 rename_i ae;have Y:B4 w (B j) (st.L j) b:=(B4.iff λs hcf=>y.2.2.2.2 s (λe=>h.disj j k s J hcf (e▸G))).1 n;rcases a0 b a with a|a
 . exact h.disj j r b ae Y (F b a)
 exact h.disj j k b J Y a
def C3.newNestE (h:C3 za w0 st E w' Z B) (d:Tmp) {t:Ty} {e e':TypeId} {n:Nat} {v:Value} {xs:List Value} {dd:List Nat} (f:w'.ownsRow w0.heap.size e 1 v n xs) (o:∀i x,xs[i]? =some x->root x=none/\(i∉dd->TF t e' w' Z x t.dflt)) (u:∀b,v.ownBlock=some b->¬Z b/\∀k,¬B4 w' (B k) (st.L k) b) (A:∀b,za.k0<=st.nx->v.ownBlock=some b->za.b0<=b):
 C3 za w0 ((st.newL (.nest t e e' (List.replicate n t.dflt) [] dd)).setS d (one1 (.row st.nx))) (upd E d v) w' Z (upd B st.nx v)/\∀b,B4 w' v (.nest t e e' (List.replicate n t.dflt) [] dd) b->v.ownBlock=some b:=by
 have D:=E7 f;have F:v.oneCell'=true:=by rcases f.2 with⟨hv,_⟩ | ⟨_,_,_,hv,_⟩<;>rw[hv]<;>rfl
 have g:∀b,T5 w' v (H7 [] dd) b->v.ownBlock=some b:=λb a=>by
  rcases T5.cases f a with a| ⟨i,x,_,c,a⟩
  . exact D.symm.trans a
  rw[(o i x c).1]at a;cases a
 have w:=h.new (v:=v) (lc:= .nest t e e' (List.replicate n t.dflt) [] dd) ⟨xs,⟨by rw[C2,rG];exact Ml f (rS _),λp r=>(by cases r),λi l x hi hl c=>?_,λi j x y b _ _ _ c _ a=>?_,λi x b _ c a=>?_⟩,λb a=>?_⟩
  (λk b a z=>(u b (g b a)).2 k z) (λp r=>by cases r) F (λb hk a=>A b hk (g b a))
 . refine⟨w.setS d (x:=one1 (.row st.nx)) ⟨_,[],rfl,(C2 _ _ _).symm,rfl⟩ (λG s=>?_),g⟩;simp at s;subst s;exact rR _
 . have:=(zT.1 (sW hl)).2;subst this;exact(o i x c).2 (Dd.1 hi)
 . rw[(o i x c).1]at a;cases a
 . rw[(o i x c).1]at a;cases a
 rw[C2]at a;have a:=g b a;have:=World.ownsRow.lt f b a;exact⟨.inl ⟨h.nms.2,this.1⟩,(u b a).1,this.2⟩
def C3.newNest (h:C3 za w0 st E w' Z B) (d:Tmp) {t:Ty} {e e':TypeId} {n:Nat} {v:Value} {xs:List Value} {dd:List Nat} (f:w'.ownsRow w0.heap.size e 1 v n xs) (g:∀i x,xs[i]? =some x->root x=none/\(i∉dd->TF t e' w' Z x t.dflt)) (c:∀b,v.ownBlock=some b->¬Z b/\∀k,¬B4 w' (B k) (st.L k) b) (a:∀b,za.k0<=st.nx->v.ownBlock=some b->za.b0<=b):
 ∃B',C3 za w0 ((st.newL (.nest t e e' (List.replicate n t.dflt) [] dd)).setS d (one1 (.row st.nx))) (upd E d v) w' Z B':=⟨_,(h.newNestE d f g c a).1⟩
def T3.split {f g:Type} {Rk:Value->f->Prop} {Rv:Value->g->Prop} :∀ {a:List MapEntry} {e:MapEntry} {b:List MapEntry} {l:List (f×g)},T3 Rk Rv (a++e::b) l->∃c y d,l=c++y::d/\T3 Rk Rv (a++b) (c++d)/\Rk e.key y.1/\Rv e.val y.2
 | [],e,b,[],h=>by cases h
 | [],e,b,y::l,⟨n,o,k,h,i,j⟩=>by cases k;exact⟨[],y,l,rfl,j,h,i⟩
 |x::a,e,b,[],h=>by cases h
 |x::a,e,b,z::l,⟨s,t,r,k,n,o⟩=>by
  cases r;obtain⟨c,y,d,rfl,h,i,j⟩:=T3.split o;exact⟨z::c,y,d,rfl,⟨_,_,rfl,k,n,h⟩,i,j⟩
def A8w {c:Array MapEntry} {seen:Array Nat} {e:MapEntry} (h:(c.toList.map (·.born)).Nodup) (f:e∈(leftOf c seen).toList):∃a b,(leftOf c seen).toList=a++e::b/\(leftOf c (seen.push e.born)).toList=a++b:=by
 obtain⟨a,b,d⟩:=List.append_of_mem f;refine⟨a,b,d,?_⟩;have g:(leftOf c (seen.push e.born)).toList=(leftOf c seen).toList.filter (λx=>x.born !=e.born):=by
  simp only[leftOf,g0u,List.filter_filter];congr 1;funext x;rw[contains_push,Bool.not_or,Bool.and_comm];rfl
 have f:((leftOf c seen).toList.map (·.born)).Nodup:=by
  simp only[leftOf,g0u];exact h.sublist ((List.filter_sublist).map _)
 rw[g,d,g3z,g1t];rw[d,vY,rW,sZ]at f;obtain⟨_,c,g⟩:=f;rw[sP]at c;have d:a.filter (λx=>x.born !=e.born)=a:=g0w.2 λx hx=>by
  have:=g x.born (vS hx) e.born (by simp);simpa using this
 have f:b.filter (λx=>x.born !=e.born)=b:=g0w.2 λx hx=>by
  have:x.born≠e.born:=λhh=>c.1 (hh▸vS hx)
  simpa using this
 simp[d,f]
def C3.rangeM (h:C3 za w0 st E w Z B) (O:za.b0=0) (d:Tmp) {q m cl:Nat} {k l:Bool} {c f:Ty} {es:List (c.den×f.den)} {a:Array MapEntry} (D:st.L q= .map k c l f es) (U:st.nm<=q) (r:B q= .map (some m)) (P:w.heap[m]? =some (.map a cl)) (R:MOk a cl) (u:La w Z k c l f a.toList es):
 ∃B',C3 za w0 (((st.setL q .none).newL (.itM k c l f es es none q)).setS d (one1 (.box st.nx 0))) (upd E d (.pointer (some ⟨w.heap.size,0,none⟩))) (w.alloc (.mapIter (some m) cl #[] cl)) Z B':=by
 have b:R5 w (w.alloc (.mapIter (some m) cl #[] cl)):=R5.alloc w _;have F:q<st.nx:=Fs h (by rw[D];trivial);have A:B4 w (B q) (st.L q) m:=by rw[D];show root (B q)=some m;rw[r];rfl
 obtain⟨H,I,J⟩:=(h.locs q).root A;have o:=(h.drop q).more (Z':=Z) b (λ_=>id) (λ_=> .inl);have G:O6 Z w (w.alloc (.mapIter (some m) cl #[] cl)):=λg i=>b.block g (h.zlt g i)
 have T:=(b.block m I).trans P;have z:C5g (w.alloc (.mapIter (some m) cl #[] cl)) Z k c l f es es none w.heap.size m #[] a cl:=
  ⟨heap_alloc_new w _,T,R,La.mono (λ_=>id) G u,by
   have s:leftOf a #[]=a:=by simp[leftOf]
   rw[s];exact La.mono (λ_=>id) G u,λx b=>by cases b⟩
 have N:=o.new (v:= .pointer (some ⟨w.heap.size,0,none⟩)) (lc:= .itM k c l f es es none q) ⟨w.heap.size,m, #[],a,cl,C2 _ _ _,(C5 _ _ _ _ (show q≠st.nx from tY F)).trans r,z, .inl ⟨h.nms.2,h.ext.size⟩,λhz=>absurd (h.zlt _ hz) (uT _),NF h.nms.1 U (by show st.nm<=st.nx;rw[h.nms.1];exact h.nms.2) H,J⟩
  (λj g i n=>by
   have X:=o.locs j;rw[St.L_setL]at n;split at n
   . exact n.elim
   rename_i Q;have s:B4 w (B j) (st.L j) g:=h.ft b n;rcases i with i| ⟨Y,M,a0,W,V,y⟩
   . simp only[root,rF]at i;have:=((h.locs j).root s).2.1;omega
   cases V;rw[z.it]at y;cases y;exact h.disj j q m Q s A)
  (uY F) rfl (λg _ _=>by rw[O];exact rS _)
 exact⟨_,N.setS d (x:=one1 (.box st.nx 0)) ⟨_,[],rfl,⟨w.heap.size,C2 _ _ _,rfl⟩,rfl⟩ (λM t=>by simp at t;subst t;exact rR _)⟩
def eG {c:Bool} {a:Prop} (h:bif c then a else False):c=true/\a:=by
 cases c with
 |true=>exact⟨rfl,h⟩
 |false=>exact h.elim
def B4o (h:C3 za w0 st E w Z B) {x:Operand} {p:Nat} (Q:(st.ev [] x).bind c1=some (.box p 0)) (b:fU st d p k) (a0:E1 all ⟨some d, .next x false,ty,pos,aft,g⟩ E=true):K4 cx.P all ⟨some d, .next x false,ty,pos,aft,g⟩ (eC za w0 w true k) E w:=by
 unfold fU at b;split at b
 case h_2=>exact b.elim
 rename_i F G H I T left b2 q r;obtain⟨c,b⟩:=eG b;simp only[qC]at c;have av:=qO c.1;have b3:q<p:=qO c.2;obtain⟨l,t,a5⟩:=(h.c1 (F2 E) Q).1;have V:=h.locs p;rw[r]at V;obtain⟨ay,m,seen,s,o,a4,z,a,am,a2,X,a3⟩:=V;rw[t]at a4;cases a4;have ax:root (B p)=some l:=by rw[t];rfl
 have ap:B4 w (B p) (st.L p) l:=by rw[r];exact .inl ax
 have N:B4 w (B p) (st.L p) m:=by rw[r];exact .inr ⟨l,_,_,_,t,a.it⟩
 have au:st.nm<=p:=ω
 rcases run_next_at (P:=cx.P) w ty l m o o seen s o a.it a.mp a.ok.1 (qV _)with⟨ak,A⟩ | ⟨e,Y,az,a8,A⟩
 . have O:left= []:=by
    have:=T3.len a.rest;rw[sB,ak]at this;exact qN this.symm
   have aw:q<st.nx:=by have:=h.refl p;rw[r]at this;exact this
   have J:=(h.drop p).addL (k:=q) (lc:= .map F G H I T) aw ⟨m,s,o,z,NF h.nms.1 au av X,a3,a.mp,a.ok,a.all⟩ (λj n hj f hc2=>by
    have f:root (B q)=some n:=f;rw[z]at f;simp only[root,rF]at f;subst f;rw[St.L_setL]at hc2;split at hc2
    . exact hc2.elim
    . rename_i U;exact h.disj j p m U hc2 N) trivial (λn a6 f=>by
    have f:root (B q)=some n:=f;rw[z]at f;simp only[root,rF]at f;subst f;exact h.mrk.2 p m ω N)
   exact S4 (v:= .tuple #[.bool false]) (w':=w) (λ_ _ _ _=>by simp[execOp,a5,A]) a0 ⟨λi=>(by cases i),_,_,_,J.setS d (x:= .tup [⟨false,[.val .bool false]⟩]) ⟨[.bool false],rfl,_,_,rfl,⟨_,[],rfl,rfl,rfl⟩,rfl⟩ (λae b n c=>by simp at b;subst b;simp at c;subst c;trivial),b.1 O⟩
 obtain⟨b0,n,af,ag⟩:=A8w a.ok.2 Y;have a9:=a.rest;rw[af]at a9;obtain⟨ac,y,ad,O,ah,ai,aj⟩:=T3.split a9;have an:l<w.heap.size:=(rV.1 a.it).1;generalize a7:ChangeMaps.setBlock az l (.mapIter (some m) o (seen.push e.born) o)=w' at A;have M:VX l w w':=by
  subst a7;rcases a8 with rfl|rfl
  . exact⟨rfl,rfl,⟨rfl,qV _⟩,by simp[ChangeMaps.setBlock],λR u=>by simp[ChangeMaps.setBlock,tJ,Ne.symm u]⟩
  exact⟨rfl,rfl,⟨rfl,uI _⟩,by simp[ChangeMaps.setBlock],λR u=>by simp[ChangeMaps.setBlock,tJ,Ne.symm u];rfl⟩
 have a1:w'.heap[l]? =some (.mapIter (some m) o (seen.push e.born) o):=by
  subst a7;rcases a8 with rfl|rfl<;>simp[ChangeMaps.setBlock,tJ,an]
 have aq:m≠l:=λi=>by
  have U:=a.it;rw[<-i,a.mp]at U;cases U
 have ar:w'.heap[m]? =w.heap[m]?:=M.2.2.2.2 m aq;have D:O6 Z w w':=λR u=>M.2.2.2.2 R (λi=>a2 (i▸u))
 have ao:e∈s.toList:=by
  have:e∈(leftOf s seen).toList:=Y;simp only[leftOf,g0u,yG]at this;exact this.1
 have aa:U9 (C9 G w' Z) F e.key y.1:=ai.mono λ_ _=>C9.mono (λ_=>id) D
 have ab:U9 (C9 I w' Z) H e.val y.2:=aj.mono λ_ _=>C9.mono (λ_=>id) D
 have W:=h.refl p;rw[r]at W;have J:=h.chg (k:=p) (lc:= .itM F G H I T (ac++ad) (some y) q) (by rw[r];trivial) ap M ⟨l,m,seen.push e.born,s,o,t,z,⟨a1,ar.trans a.mp,a.ok,La.mono (λ_=>id) D a.all,by rw[ag];exact La.mono (λ_=>id) D ah,λx Q=>by cases Q;exact⟨e,ao,⟨seen,rfl⟩,aa,ab⟩⟩,am,a2,X,a3⟩ W (λn i=>by
  rcases i with i| ⟨ay,c1,ae,b1,a6,U⟩
  . exact .inl i
  rw[t]at a6;cases a6;rw[a1]at U;cases U;exact .inr N)
 refine S4 (v:= .tuple #[.bool true,e.key,e.val]) (w':=w') (λ_ _ _ _=>by simp[execOp,a5,A]) a0 ⟨λi=>(by cases i),_,_,_,J.setS d (x:= .tup [⟨false,[.val .bool true]⟩,⟨F,explode G y.1⟩,⟨H,explode I y.2⟩]) ⟨[.bool true,e.key,e.val],rfl,_,_,rfl,⟨_,[],rfl,rfl,rfl⟩,_,_,rfl,Bl.explode aa,_,_,rfl,Bl.explode ab,rfl⟩ (λae b n c=>?_),b.2 ac y ad O⟩;simp only[qW,vP,g0e]at b;rcases b with rfl|rfl|rfl
 . simp at c;subst c;trivial
 . exact F3 n c
 exact F3 n c
def nS {a:Ty} {f:Type} {Rk:Value->a.den->Prop} {Rv:Value->f->Prop} {k:a.den} :∀ {l:List (a.den×f)} {es:List MapEntry} {i:Nat},T3 Rk Rv es l->
 (P9 a k l i=none->Qj a k l=l)/\(∀j,P9 a k l i=some (i+j)->T3 Rk Rv (es.eraseIdx j) (Qj a k l))
 | [],es,i,h=>⟨λ_=>rfl,λj b=>by cases b⟩
 |x::l,_,i,⟨e,s,r,n,o,g⟩=>by
  subst r;simp only[P9,Qj];cases d:GR a k x.1 with
  |true=>
   refine⟨λb=>by simp at b,λj c=>?_⟩;simp only[qS,rF]at c;have:j=0:=ω
   subst this;exact g
  |false=>
   simp only[rI];have c:=nS (k:=k) (i:=i+1) g;refine⟨λb=>by rw[c.1 b],λj h=>?_⟩;cases j with
   |zero=>
    exfalso;have:∀(l:List (a.den×f)) (i j:Nat),P9 a k l i=some j->i<=j:=by
     intro l
     induction l with
     |nil=>intro i j b;cases b
     |cons y l c=>
      intro i j b;unfold P9 at b;cases d:GR a k y.1 with
      |true=>simp[d]at b;omega
      |false=>simp[d]at b;have:=c _ _ b;omega
    have:=this _ _ _ h;omega
   |succ j=>exact⟨e,_,rfl,n,o,c.2 j (by rw[h];congr 1;omega)⟩
def C2m (h:C3 za w0 st E w Z B) (ag:G7 cx.P cx.tys=true) {T T':TypeId} {ti:TI} {m x:Operand} {q:Nat} {f l:Bool} {a g:Ty} {es:List (a.den×g.den)} {a2:SV} {key:a.den} (af:cx.ti T=some ti) (a5:ti.ty= .mp f a l g) (ab:(st.ev [] m).bind c1=some (.mp q)) (ae:st.ev [] x=some a2) (a7:mapM st f a l g q=some es) (a9:Sj f a a2=some key):
 ∃v w',Gw.E2 cx.P E ty (.call ⟨.builtin .delete, #[m,x], #[T,T']⟩) w v w'/\C3 za w0 (st.setL q (.map f a l g (Qj a key es))) E w' Z B:=by
 obtain⟨a1,A,_,_⟩:=Wd (B9 ag af) a5;have a6:=h.c1 (F2 E) ab;have V:=Ex (h.ev (F2 E) ae).1 a9;have an:=IE A;have s:=VJ a7;have W:live (st.L q):=by rw[s];trivial
 have J:=h.locs q;rw[s]at J;obtain⟨b,c,d,u,ah,Y,y,D,r⟩:=J;have X:Gw.ev E m= .map (some b):=(show Gw.ev E m=B q from a6.1).trans u;have aa:b<w.heap.size:=(rV.1 y).1;have N:=λem=>Ru A V w em
 have Q:=Zt A V w r;have U:(getObj b).run cx.P w= .ok (.map c d) w:=by simp[getObj,Sem.run,y]
 have a0:∀o,(setObj b o).run cx.P w= .ok () {w with heap:=w.heap.setIfInBounds b o} :=λo=>by simp[setObj,Sem.run,y]
 have M:∀o,VX b w {w with heap:=w.heap.setIfInBounds b o} :=λo=>⟨rfl,rfl,⟨rfl,qV _⟩,by simp,λq s=>by simp[tJ,Ne.symm s]⟩
 have ac:∀o,({w with heap:=w.heap.setIfInBounds b o} :World).heap[b]? =some o:=λo=>by simp[tJ,aa]
 have fin:∀ents',MOk ents' d->La w Z f a l g ents'.toList (Qj a key es)->C3 za w0 (st.setL q (.map f a l g (Qj a key es))) E {w with heap:=w.heap.setIfInBounds b (.map ents' d)} Z B:=λents' hmo' he'=>by
  have ad:O6 Z w {w with heap:=w.heap.setIfInBounds b (.map ents' d)} :=λH t=>(M _).2.2.2.2 H (λz=>Y (z▸t))
  exact h.chg W (B4.of W (by rw[u];rfl)) (M _) (lc:= .map f a l g (Qj a key es)) ⟨b,ents',d,u,ah,Y,ac _,hmo',he'.mono (λ_=>id) ad⟩ trivial (λ_ z=> .inl z)
 have O:=nS (k:=key) (i:=0) r;rcases DJ (k:=key) (i:=0) r with⟨n,_⟩ | ⟨j,a3,ao,n,I,ai,aj,ak,am⟩
 . have F:(Builtin.delete_ #[T,T'] ty #[Gw.ev E m,Gw.ev E x]).run cx.P w= .ok (.tuple #[]) {w with heap:=w.heap.setIfInBounds b (.map c d)} :=by
    simp[Builtin.delete_,Sem.run_bind,run_underlying a1,Result.andThen,X,U,N,Q,n,a0]
   refine⟨.tuple #[],_,λ_ _ _ _=>?_,fin c D (by rw[O.1 n];exact r)⟩;simp[execOp,resolve,invoke,builtin,F]
 have R:c[j]? =some a3:=by simpa using I
 have a4:P9 a key es 0=some j:=by rw[n,sD]
 have a8:j<c.size:=(rV.1 R).1;have F:(Builtin.delete_ #[T,T'] ty #[Gw.ev E m,Gw.ev E x]).run cx.P w= .ok (.tuple #[]) {w with heap:=w.heap.setIfInBounds b (.map (c.eraseIdxIfInBounds j) d)} :=by
  simp[Builtin.delete_,Sem.run_bind,run_underlying a1,Result.andThen,X,U,N,Q,a4,I,a0,R]
 have G:(c.eraseIdxIfInBounds j).toList=c.toList.eraseIdx j:=by simp[Array.eraseIdxIfInBounds,a8]
 refine⟨.tuple #[],_,λ_ _ _ _=>?_,fin _ ⟨λH t=>?_,?_⟩ (by rw[G];exact O.2 j n)⟩
 . simp[execOp,resolve,invoke,builtin,F]
 . rw[G]at t;exact D.1 H (List.mem_of_mem_eraseIdx t)
 rw[G];exact D.2.sublist ((List.eraseIdx_sublist _ _).map _)
def gC {u:Value} :∀ {t:Ty},MJ t=true-> [u]=Em t->root u=none/\(∀(w:World) (Z:Nat->Prop) (e':TypeId) (i n:Nat),i<n->i∉Ql t n->TF t e' w Z u t.dflt)
 | .sl t,_,h=>by
  have h: [u]= [Value.slice none 0 0]:=h;simp only[sJ,vO]at h;subst h;exact⟨rfl,λw Z e' i n _ _=>⟨[],World.ownsRow_nil _ _ _ _,rfl⟩⟩
 | .mp _ _ _ _,_,h=>by
  have h: [u]= [Value.map none]:=h;simp only[sJ,vO]at h;subst h;exact⟨rfl,λw Z e' i n b a=>absurd (yR.2 b) a⟩
def gB:∀ {t:Ty},MJ t=true->t.size=1/\∃u,Em t= [u]
 | .sl _,_=>⟨rfl,_,rfl⟩
 | .mp _ _ _ _,_=>⟨rfl,_,rfl⟩
def B4d {T:TypeId} {lo g:Operand} (h:C3 za w0 st E w Z B) (a5:G7 cx.P cx.tys=true) {ti:TI} {t:Ty} {e':TypeId} {l c:Int} (a4:cx.ti T=some ti) (a3:ti.ty= .sl t) (W:jR st lo=some l) (R:jR st g=some c) (y:MJ t=true) (aa:0<=l/\l<=c/\(ti.bytes:Int)*c<=281474976710656/\c<=9223372036854775807):
 ∃v w' B',Gw.E2 cx.P E ty (.makeSlice T lo g) w v w'/\R5 w w'/\C3 za w0 ((st.newL (.nest t ti.elem e' (List.replicate l.toNat t.dflt) [] (Ql t l.toNat))).setS d (one1 (.row st.nx))) (upd E d v) w' Z B':=by
 obtain⟨I,J,M,N⟩:=aa;obtain⟨j,z,a6,U,i,A,a8,a9,f,af⟩:=Gt (B9 a5 a4) a3;obtain⟨ab,G,_⟩:=h.int (F2 E) W;obtain⟨ac,H,_⟩:=h.int (F2 E) R;have a1:=run_make (P:=cx.P) w T ti.elem j z a6 U i ab ac l c I J (by rw[f];exact M) N;have F:Gw.E2 cx.P E ty (.makeSlice T lo g) w (.slice (some ⟨w.heap.size,0,none⟩) l.toNat c.toNat) (w.alloc (.cells (madeCells z.cells (c.toNat*j.size)) ti.elem)):=λ_ _ _ _=>by simp[execOp,G,H,a1]
 generalize o:madeCells z.cells (c.toNat*j.size)=b at F;obtain⟨a2,u,D⟩:=gB y;rw[a2]at A a9;have r:b.size=c.toNat*1:=by rw[<-o, <-A];simp[madeCells]
 have a:R5 w (w.alloc (.cells b ti.elem)):=R5.alloc w _;have O:=h.more (Z':=Z) a (λ_=>id) (λ_=> .inl);have s:l.toNat<=c.toNat:=ω
 have a0:(w.alloc (.cells b ti.elem)).ownsRow w0.heap.size ti.elem 1 (.slice (some ⟨w.heap.size,0,none⟩) l.toNat c.toNat) l.toNat (b.toList.take (l.toNat*1)):=by
  refine⟨?_, .inr ⟨w.heap.size,c.toNat,b,rfl,h.ext.size,Fz w _ _,s,?_,r,rfl⟩⟩
  . rw[qZ,sB,r];exact tI (rL _ s)
  simp only[maxLen];omega
 have X:∀x∈b.toList.take (l.toNat*1),x=u:=λx a=>by
  have a:=rO a;rw[<-o]at a;simp only[madeCells,g1s,tT]at a;obtain⟨k,_,rfl⟩:=a;have V:z.cells.toList= [u]:=a8.trans D;have a7:z.cells= #[u]:=by rw[<-uA (xs:=z.cells),V]
  rw[a7];simp[g5a]
 obtain⟨ad,ae⟩:=gC y D.symm;obtain⟨B',Q⟩:=O.newNest d (t:=t) (e':=e') (dd:=Ql t l.toNat) a0 (λk x a=>by
  have:=X x (sW a);subst this;have V:k<l.toNat:=by have:=(sR.1 a).1;rw[qZ]at this;omega
  exact⟨ad,ae _ _ _ k _ V⟩) (λn f=>by
  simp only[Value.ownBlock,rF]at f;refine⟨λi=>?_,λq Y=>?_⟩
  . have:=h.zlt n i;omega
  have:=((h.locs q).root (h.ft a Y)).2.1;omega) (λn _ f=>by simp only[Value.ownBlock,rF]at f;have:=h.mrk.1;omega)
 exact⟨_,_,_,F,a,Q⟩
def B6g (h:C3 za w0 st E w Z B) (t:za.b0=0) (A:G7 cx.P cx.tys=true) {T:TypeId} {ti:TI} {x:Operand} {p i:Nat} (z:cx.ti T=some ti) (s:ti.agg=false) (F:(st.ev [] x).bind c1=some (.elp p 1 i 0)) (a:gX st d p i=some (φ,st')) (H:FL φ):
 ∃v B',Gw.E2 cx.P E ty (.load T x) w v w/\C3 za w0 st' (upd E d v) w Z B':=by
 unfold gX at a;split at a
 case h_2=>cases a
 rename_i W e R I Q l;obtain⟨f,a⟩:=H5 a;cases a;simp only[qC]at f;have y:Ei cx.P T=true:=by
  rcases(J4 (B9 A z)).2.1 with⟨c,_⟩ | ⟨_,c,_⟩
  . rw[s]at c;cases c
  exact c
 obtain⟨N,J,O,g,V,D⟩:=(h.c1 (F2 E) F).1;have j:=h.locs p;rw[l]at j;obtain⟨M,r,U⟩:=j;have b:=r.own;have u:J=I.length:=by
  rw[g]at b;rcases b.2 with⟨c,_⟩ | ⟨_,_,_,c,_⟩<;>cases c
  rfl
 subst u;have G:i<M.length:=by have:=b.1;omega
 have n:=qM G;have k:=Iq b g i _ n;rw[K5,sD]at k;obtain⟨B',o⟩:=h.take t d l f.2 (qO f.1) H b n;refine⟨_,B',lR D y ?_,o⟩;rw[(ω:i*1+0=i)];exact k
def A4i {s:SV} {r:Nat} {v:Value} (h:RS w Z B s v) (a:VT s=some r):v=B r:=by
 unfold VT at a;split at a
 . cases a;obtain⟨u,d,b,c,_⟩:=h;cases b;exact c
 . cases a;obtain⟨u,d,b,c,_⟩:=h;cases b;exact c
 cases a
def B5n (h:C3 za w0 st E w Z B) (H:za.b0=0) (V:G7 cx.P cx.tys=true) {T:TypeId} {ti:TI} {x v:Operand} {p r i:Nat} (R:cx.ti T=some ti) (F:ti.ty.size=1) (Y:(st.ev [] x).bind c1=some (.elp p 1 i 0)) (W:(st.ev [] v).bind VT=some r) (a:ZR st p r i=some (φ,st')) (k:FL φ):
 ∃w',Gw.KM cx.P E ty (.store T x v) w w'/\C3 za w0 st' E w' Z B:=by
 unfold ZR at a;split at a
 case h_2=>cases a
 rename_i a3 e A y l z t;split at a
 case h_2=>cases a
 rename_i a4 a0;obtain⟨Q,N⟩:=pQ a0;obtain⟨d,a⟩:=H5 a;simp only[qC,rN]at d;have u:=(J4 (B9 V R)).1;rw[F]at u;obtain⟨sv,O,U⟩:=bind_some.1 W;have X:=A4i (h.ev (F2 E) O).1 U;obtain⟨a5,a2,a6,f,I,M⟩:=(h.c1 (F2 E) Y).1;have s:=h.locs p;rw[t]at s;obtain⟨a9,G,a7⟩:=s;have c:=G.own;rw[f]at c;have a8:a2=y.length:=by
  rcases c.2 with⟨b,_⟩ | ⟨_,_,_,b,_⟩<;>cases b
  rfl
 obtain⟨w',n,D,o⟩:=pU (P:=cx.P) (ty:=ty) u c I M X (h.bone r);rw[<-f]at c o;have fin:∀dd',(∀j,j≠i->H7 [] dd' j=false->H7 l z j=false)->C3 za w0 (((st.setL r .none).setL p .none).setL p (.nest a3 e A (y.set i a4) [] dd')) E w' Z B:=λdd' hgo=>
  h.put H t N Q (uK d.2) (qO d.1.1) (qO d.1.2) ω hgo c (by rw[f];rfl) D o
 rcases l with _ | ⟨⟨a1,q⟩,_ | ⟨_,_⟩⟩
 . cases a;exact⟨w',n,fin _ λj g b=>Dd.2 λJ=>Dd.1 b (aQ.2 ⟨J,g⟩)⟩
 . cases a;have k:i=a1:=k;subst k;exact⟨w',n,fin _ λj g b=>LO.2 ⟨g,Dd.1 b⟩⟩
 cases a
def B3s {i:Int} (h:isZ i=true):i=0:=by
 unfold isZ at h;split at h
 . rfl
 cases h
def B5g {d e sz n m:Nat} {g a:Nat} {xs:List Value} (h:w.ownsRow d e sz (.slice (some ⟨g,0,none⟩) n a) n xs) (c:m<=n):w.ownsRow d e sz (.slice (some ⟨g,0,none⟩) m a) m (xs.take (m*sz)):=by
 have i:=h.1;refine⟨by rw[qZ,i];exact tI (rL _ c),?_⟩;rcases h.2 with⟨b,_⟩ | ⟨u,t,f,b,j,k,l,o,r,s⟩
 . cases b
 cases b;refine .inr ⟨g,a,f,rfl,j,k,qX c l,o,r,?_⟩;rw[<-s,g1i,tI (rL _ c)]
def B0n (h:C3 za w0 st E w Z B) (a8:za.b0=0) (aw:G7 cx.P cx.tys=true) {T:TypeId} {ti:TI} {t:Ty} {x y:Operand} {b:C} {p sz:Nat} {lo f:Int} {l k:List t.den} (au:cx.ti T=some ti) (ar:ti.ty= .sl t) (az:(st.ev [] x).bind c1=some (.win p sz lo f)) (b1:(st.ev [] y).bind c1=some b) (b2:XK st t b=some k) (af:Wu st t ti.elem p=some l) (ag:lo=0) (aq:sz=t.size) (aj:1<=t.size) (bf:st.nm<=p)
 (a3:(f.toNat+k.length)*ti.bytes<=140737488355328) (a4:f.toNat+k.length<=9223372036854775807):
 ∃v w' B',Gw.E2 cx.P E ty (.call ⟨.builtin .append, #[x,y], #[T,T]⟩) w v w'/\C3 za w0 (rowS (st.setL p .none) d t ti.elem (l.take f.toNat++k)) (upd E d v) w' Z B':=by
 subst ag aq;obtain⟨bi,bj,ax,ae,M,an,bh,b4,a7,bg⟩:=Gt (B9 aw au) ar;have W:=Jq af;have Q:=h.locs p;rw[W]at Q;obtain⟨b7,n,ac,V⟩:=Q;obtain⟨i,b5,a0,o,N,O,b8,b9,ba,bb,bc,ay⟩:=(h.c1 (F2 E) az).1;obtain⟨ao,a1,a2,b3,be,ah,aa,A⟩:=XM h (h.c1 (F2 E) b1).1 b2;have ad:=G5.length (R:=C9 t w Z) (s:=t.size) (λ_ _ h=>C9.length h) A;have D:Gw.ev E x= .slice i f.toNat a0:=by
  rw[ay];cases i with
  |none=>simp[O rfl]
  |some r=>obtain⟨g,rfl⟩:=N r rfl;simp[K5]
 have H:b5=l.length:=by
  rw[o]at n;rcases n.2 with⟨r,G⟩ | ⟨_,_,_,r,_⟩
  . cases r;exact G.symm
  cases r;rfl
 subst H;have ak:=E7 n;have X:w.ownsRow w0.heap.size ti.elem t.size (Gw.ev E x) f.toNat (b7.take (f.toNat*t.size)):=by
  cases i with
  |none=>
   have r:=O rfl;have:f.toNat=0:=ω
   rw[D,this,r,xV];exact World.ownsRow_nil _ _ _ _
  |some G=>
   obtain⟨g,rfl⟩:=N G rfl;rw[o]at n;rw[D];refine kR (B5g n ω) λq a=>?_
   rcases(V q (by rw[o];exact a)).1 with r|r
   . exact r.2
   have:=h.nms.1;omega
 have Y:∀q,(Gw.ev E x).ownBlock=some q->(B p).ownBlock=some q:=λq a=>by
  rw[D]at a;rw[o];cases i<;>exact a
 have u:∀q,(Gw.ev E x).ownBlock=some q->¬Z q/\w0.heap.size<=q/\∀j,¬B4 w (B j) ((st.setL p .none).L j) q:=λq a=>by
  refine⟨(V q (Y q a)).2,(World.ownsRow.lt X q a).1,λj r=>?_⟩;rw[St.L_setL]at r;split at r
  . exact r.elim
  rename_i G;exact h.disj j p q G r (by rw[W];exact ak.trans (Y q a))
 have I:=h.drop p;obtain⟨b6,z,am,ai,F,a9,ab⟩:=HZ (P:=cx.P) (ty:=ty) ax ae M an b4 aj X (ao:=ao) (m:=k.length) (c:=a1) (news:=a2) ad (λi ha=>aa i ha) (λH=>by have:=ah H;omega) (G5.oneCell A) a4 (by rw[a7];exact a3) h.ext.size;have J:∀q,(Z q\/∃j,B4 w (B j) ((st.setL p .none).L j) q)->z.heap[q]? =w.heap[q]?:=λq a=>by
  refine F.block q ?_ (λG=>?_)
  . rcases a with a| ⟨j,r⟩
    . exact h.zlt q a
    exact((I.locs j).root r).2.1
  have:=u q G.symm;rcases a with a| ⟨j,r⟩
  . exact this.1 a
  exact this.2.2 j r
 have a5:=I.keep (Z':=Z) (h.ext.grown F ab (λq a=> .inl (u q a).2.1)) F.size J (λ_=>id) (λ_=> .inl);have ap:O6 Z w z:=λq a=>J q (.inl a)
 have U:∀j q,B4 z (B j) ((st.setL p .none).L j) q->B4 w (B j) ((st.setL p .none).L j) q:=λj q hf=>(B4.iff λc hc=>J c (.inr ⟨j,hc⟩)).1 hf
 have av:(l.take f.toNat).length=f.toNat:=by rw[qZ];omega
 obtain⟨B',a6⟩:=a5.newRow d (t:=t) (e:=ti.elem) (l:=l.take f.toNat++k) (by rw[rQ,av];exact ai) (((G5.take (λ_ _ h=>C9.length h) f.toNat ac).append A).mono λ_ _=>C9.mono (λ_=>id) ap) (λq a=>by
  rcases a9 with r|r
  . rw[r]at a;exact⟨(u q a).1,λj G=>(u q a).2.2 j (U j q G)⟩
  rw[r]at a;cases a;exact⟨λM=>absurd (h.zlt _ M) (uT _),λj G=>absurd ((I.locs j).root (U j _ G)).2.1 (uT _)⟩) (λq _ _=>by rw[a8];exact rS _)
 refine⟨b6,z,B',λ_ _ _ _=>?_,a6⟩;simp[execOp,resolve,invoke,builtin,b3,am]
def kF {T:TypeId} {p v:Operand} (b:Ve st (.store T p v)=false):Ov cx st none (.store T p v)=none:=by
 cases c:Ov cx st none (.store T p v)with
 |none=>rfl
 |some y=>
  exfalso;simp only[Ov,qH,bind_some]at c;obtain⟨ti,i,g,d,r,h,a⟩:=c;split at a
  . have a:=(H5 a).2;simp only[Ve,bind_some.2 d]at b;unfold ZR at a;split at a
    . rename_i f;rw[f]at b;cases b
    cases a
  cases a
def A3e {M:Op} {Y:Option Tmp} (h:C3 za w0 st E w Z B) (c:za.b0=0\/Ve st M=false) (D:G7 cx.P cx.tys=true) (a:Ov cx st Y M=some (φ,st')) (J:FL φ) (y:k st') (u:E1 all ⟨Y,M,ty,pos,aft,g⟩ E=true):K4 cx.P all ⟨Y,M,ty,pos,aft,g⟩ (eC za w0 w (wrB M) k) E w:=by
 unfold Ov at a;split at a
 . simp only[qH,bind_some]at a;obtain⟨d,t,ti,l,a⟩:=a;subst t;obtain⟨_,a⟩:=H5 a;simp only[bind_some]at a;obtain⟨X,z,bg,_,b5,a7,s,b,a⟩:=a;obtain⟨ax,a⟩:=H5 a;cases a;obtain⟨v,w',B',j,n,an⟩:=B4d (ty:=ty) h D l (Jy z) a7 b ax J;exact S4 j u ⟨λ_=>n,_,_,_,an,y⟩
 . simp only[qH,bind_some]at a;obtain⟨d,t,ti,l,s,b,a⟩:=a;subst t;split at a
   . rename_i p sz b4 ak;obtain⟨f,o⟩:=H5 a;clear a;simp only[qC,rN]at f;have a0:=qD f.1.1;have a1:=qD f.1.2;subst a0 a1;have r:za.b0=0:=by
      rcases c with c|c
      . exact c
      exfalso;simp only[Ve,bind_some.2 b]at c;unfold gX at o;split at o
      . rename_i a6;have:∃X e ah aj af ag,st.L p= .nest X e ah aj af ag:=by
         unfold giveS at a6;split at a6
         . exact⟨_,_,_,_,_,_, ‹_›⟩
         exact⟨_,_,_,_,_,_,a6⟩
        obtain⟨X,e,ah,aj,af,ag,i⟩:=this;rw[i]at c;cases c
      cases o
     have ao:=h.giveS r p;obtain⟨v,B',j,n⟩:=B6g (ty:=ty) ao r D l f.2 (by rw[B3d];exact bind_some.2 b) o J;exact S4 j u ⟨λ_=>R5.refl w,_,_,_,n,y⟩
   cases a
 . split at a
   . simp only[qH,bind_some]at a;obtain⟨ti,l,s,b,b6,W,a⟩:=a;split at a
     . rename_i p sz b4 ak;obtain⟨f,o⟩:=H5 a;clear a;simp only[qC]at f;have a0:=qD f.1.1;have a1:=qD f.1.2;have am:=qD f.2;subst a0 a1;have r:za.b0=0:=by
        rcases c with c|c
        . exact c
        exfalso;simp only[Ve,bind_some.2 b]at c;unfold ZR at o;split at o
        . rename_i a6;rw[a6]at c;cases c
        cases o
       obtain⟨w',j,n⟩:=B5n (ty:=ty) h r D l am (bind_some.2 b) (bind_some.2 W) o J;exact Wa j u ⟨λi=>(by cases i),_,_,_,n,y⟩
     cases a
   cases a
 . simp only[qH,bind_some]at a;obtain⟨d,t,ti,l,s,b,a⟩:=a;subst t;have r:za.b0=0:=c.resolve_right (λi=>by cases i);split at a
   . rename_i ab ac ad ae q a3;simp only[bind_some]at a;obtain⟨ai,a5,a⟩:=a;obtain⟨f,a⟩:=H5 a;cases a;simp only[qC]at f;obtain⟨b2,_⟩:=Wd (B9 D l) a3;have V:=VJ a5;have aa:=(h.c1 (F2 E) (bind_some.2 b)).1;have H:=h.locs q;rw[V]at H;obtain⟨G,a2,Q,R,_,_,i,aw,a4⟩:=H;have aq:Gw.ev E _= .map (some G):=(show _=B q from aa).trans R;obtain⟨B',j⟩:=h.rangeM r d V (qO f.2) R i aw a4;have a8:=run_range_map (P:=cx.P) w _ _ _ G a2 Q b2 i;exact S4 (v:= .pointer (some ⟨w.heap.size,0,none⟩)) (λ_ _ _ _=>by simp[execOp,aq,a8]) u ⟨λ_=>R5.alloc w _,_,_,_,j,y⟩
   cases a
 . simp only[qH,bind_some]at a;obtain⟨d,t,s,b,a⟩:=a;subst t;split at a
   . rename_i q ak;split at a
     . rename_i ab ac ad ae ai left O bc V;obtain⟨f,a⟩:=H5 a;cases a;have ay:=qD f;subst ay;obtain⟨G,R,aa⟩:=(h.c1 (F2 E) (bind_some.2 b)).1;have H:=h.locs q;rw[V]at H;obtain⟨b6,m,seen,a2,Q,W,b9,I,_⟩:=H;rw[R]at W;cases W;obtain⟨e,a4,⟨b7,az⟩,ar,au⟩:=I.cur O rfl;subst az;have a8:=run_entry_at (P:=cx.P) w G m Q b7 a2 Q e I.it I.mp a4 I.ok.2;refine S4 (v:= .tuple #[e.key,e.val]) (w':=w) (λ_ _ _ _=>by simp[execOp,aa,a8]) u ⟨λ_=>R5.refl w,_,_,_,h.setS d (x:= .tup [⟨ab,explode ac O.1⟩,⟨ad,explode ae O.2⟩]) ⟨[e.key,e.val],rfl,_,_,rfl,Bl.explode ar,_,_,rfl,Bl.explode au,rfl⟩ (λbe a s b=>?_),y⟩;simp only[qW,vP,g0e]at a;rcases a with rfl|rfl<;>exact F3 s b
     cases a
   cases a
 . rename_i F N;split at a
   . rename_i m x T T' U a9;simp only[qH,bind_some]at a;obtain⟨ti,l,s,b,bf,b1,a⟩:=a;split at a
     . rename_i ab ac ad ae q a3;simp only[bind_some]at a;obtain⟨ai,a5,ba,av,a⟩:=a;cases a;obtain⟨v,w',j,n⟩:=C2m (ty:=ty) (T':=T') h D l a3 (bind_some.2 b) b1 a5 av;have A:F= #[m,x]:=by rw[<-uA (xs:=F),U]
       have z:N= #[T,T']:=by rw[<-uA (xs:=N),a9]
       subst A z;exact A7l j u ⟨λi=>(by cases i),_,_,_,n,y⟩
     cases a
   cases a
 . rename_i F N;split at a
   . rename_i d x O T T' U a9;simp only[qH,bind_some]at a;obtain⟨ti,l,X,z,b8,A,G,f,bh,b3,a⟩:=a;split at a
     . rename_i p sz bb I;simp only[bind_some]at a;obtain⟨b5,a7,a⟩:=a;obtain⟨b,a⟩:=H5 a;cases a;simp only[qC]at b;have ap:=qD b.1.1.1.1;subst ap;have r:za.b0=0:=by
        rcases c with c|c
        . exact c
        exfalso;simp only[Ve,U,bind_some.2 A]at c;cases c
       obtain⟨v,w',B',j,n⟩:=B0n (ty:=ty) (d:=d) h r D l (Jy z) (bind_some.2 A) (bind_some.2 f) b3 a7 (B3s b.1.1.1.2) (qD b.1.1.2) (qO b.1.2) (qO b.2) J.1 J.2;have A:F= #[x,O]:=by rw[<-uA (xs:=F),U]
       have z:N= #[T,T]:=by rw[<-uA (xs:=N),a9]
       subst A z;exact S4 j u ⟨λi=>(by cases i),_,_,_,n,y⟩
     cases a
   cases a
 cases a
end
def gL (a:St) (t:Ty) (e e':TypeId):C->Option (List (List t.den))
 | .row k=>bif Nat.ble a.nm k then rowsAt a t e e' k else none
 | .raw v=>bif Uw v then some []else none
 | _=>none
def C0b:Ty->Option Ty
 | .sl (.sl t)=>some t
 | _=>none
def B5b (q:Nat):List (Nat×Nat)->Option Nat
 | []=>none
 | (_,p)::r=>bif Nat.beq p q then B5b q r else some p
def YO (a:St) (k r i:Nat):Option (Option Prop×St):=match a.L k with
 | .rows t e d c al none=>match GW r al,B5b r al with
  |some j,some q=>match a.L r,a.L q,GW q al with
   | .al _, .al f,some b=>bif Nat.beq f k&&Nat.ble a.nm k&&Nat.ble a.nm q then
    some (some (i=b/\i≠j),((a.setL k (.rows t e d c [] (some b))).setL q (.row t d (c.getD b []))).setL k (.rows t e d (c.set b (c.getD j [])) [] (some j)))else none
   | _,_,_=>none
  | _,_=>none
 | _=>none
def AS (cx:Cx) (a:St) (b:Option Tmp):Op->Option (Option Prop×St)
 | .buildSlice T len c=>match b,c.toList with
  |some f,[(p,x)]=>do
   let ti<-cx.ti T
   bif ti.rows&&Nat.beq len 1&&Nat.beq p 0 then do
    let t<-C0b ti.ty
    let c<-cx.ti ti.elem
    let d<-(a.ev [] x).bind c1
    match d with
    | .row r=>do
     let l<-Wu a t c.elem r
     bif Nat.ble a.nm r then some (none,gK (a.setL r .none) f t ti.elem c.elem [l])else none
    | _=>none
   else none
  | _,_=>none
 | .store T p v=>match b with
  |none=>do
   let ti<-cx.ti T
   let c<-(a.ev [] p).bind c1
   let r<-(a.ev [] v).bind Sm
   match c with
   | .elp k sz i c=>bif Nat.beq sz 1&&Nat.beq c 0&&Nat.beq ti.ty.size 1 then YO a k r i else none
   | _=>none
  |some _=>none
 | .call ⟨.builtin .append,c,d⟩=>match b,c.toList,d.toList with
  |some g,[x,y],[T,T']=>do
   let ti<-cx.ti T
   bif ti.rows&&Nat.beq T T' then do
    let t<-C0b ti.ty
    let d<-cx.ti ti.elem
    let b<-(a.ev [] x).bind c1
    let f<-(a.ev [] y).bind c1
    let c<-gL a t ti.elem d.elem b
    match f with
    | .row q=>do
     let f<-rowsAt a t ti.elem d.elem q
     bif IK b (.row q)&&Nat.ble a.nm q then some (some ((c.length+f.length)*ti.bytes<=140737488355328/\c.length+f.length<=9223372036854775807),gK ((dropR a b).setL q .none) g t ti.elem d.elem (c++f))else none
    | _=>none
   else none
  | _,_,_=>none
 | _=>none
def JI (a:St):Op->Bool
 | .store _ p v=>match(a.ev [] p).bind c1,(a.ev [] v).bind Sm with
  |some (.elp k _ _ _),some r=>(match a.L k,a.L r with| .rows _ _ _ _ _ _, .al _=>true| _,_=>false)
  | _,_=>false
 | .buildSlice _ _ b=>match b.toList with
  | [(_,x)]=>(match(a.ev [] x).bind c1 with
   |some (.row r)=>(match a.L r with| .row _ _ _=>true| _=>false)
   | _=>false)
  | _=>false
 | .call ⟨.builtin .append,b,_⟩=>match b.toList with
  | [_,y]=>(match(a.ev [] y).bind c1 with
   |some (.row q)=>(match a.L q with| .rows _ _ _ _ _ _=>true| _=>false)
   | _=>false)
  | _=>false
 | _=>false
section
variable {za:Zn} {w0 w w':World} {Z Z':Nat->Prop} {B:Nat->Value} {st st':St} {E:G8} {cx:Cx} {φ:Option Prop} {d:Tmp} {all:List Oper} {ty:TypeId} {pos:String} {aft:Array Edge} {g:Option (Nat×Bool)} {k:St->Prop}
def B2t {c d e n b:Nat} {t:Ty} {v:Value} {xs:List Value} {ls:List (List t.den)} {al:List (Nat×Nat)} {a:Option Nat} (f:w.ownsRow 0 e 1 v n xs) (h:B4 w v (.rows t c d ls al a) b):root v=some b\/∃i x,Eo a i=false/\xs[i]? =some x/\root x=some b:=by
 rcases h with a| ⟨g,m,o,r,s,i,x,k,c,j,d,l,a⟩
 . exact .inl a
 exact .inr ⟨i,x,d,A0b f k c j l,a⟩
def gS {ty t:Ty} (h:C0b ty=some t):ty= .sl (.sl t):=by
 unfold C0b at h;split at h
 . cases h;rfl
 cases h
def A9n {s:SV} {r:Nat} {v:Value} (h:RS w Z B s v) (a:Sm s=some r):v=B r:=by
 unfold Sm at a;split at a
 . cases a;obtain⟨u,d,b,c,_⟩:=h;cases b;exact c
 cases a
def B8r (h:C3 za w0 st E w Z B) (a2:za.b0=0) (ae:G7 cx.P cx.tys=true) {T:TypeId} {ti:TI} {t:Ty} {e' r:Nat} {x:Operand} {l:List t.den} (ad:cx.ti T=some ti) (ac:ti.ty= .sl (.sl t)) (ag:(st.ev [] x).bind c1=some (.row r)) (M:st.L r= .row t e' l) (ao:st.nm<=r):
 ∃v w' B',Gw.E2 cx.P E ty (.buildSlice T 1 #[(0,x)]) w v w'/\R5 w w'/\C3 za w0 (gK (st.setL r .none) d t ti.elem e' [l]) (upd E d v) w' Z B':=by
 obtain⟨i,an,c,a6,F,ap,aq,aj,a,ab⟩:=Gt (B9 ae ad) ac;have af:Gw.ev E x=B r:=(h.c1 (F2 E) ag).1;have ai:Fq cx.P ti.elem=some an:=by simp[Fq,a6,F]
 have a8:(B r).oneCell'=true:=h.bone r;have H:(B r).cells.toList= [B r]:=PE a8;have a4:(B r).cells.size=1:=by rw[<-sB,H];rfl
 obtain⟨f,s,ah⟩:=Ra (E:=E) (P:=cx.P) (w:=w) (ty:=ty) (len:=1) (parts:= [(0,x)]) [B r] ab ai (by show 1*1<=16777216;decide) (by show 1<=1;decide) aj (by simp[af]) (λu c=>by simp at c;subst c;exact a4) rfl;have s:f.toList= [B r]:=by rw[s];simp[H]
 have a3:f.size=1:=by rw[<-sB,s];rfl
 have G:=h.locs r;rw[M]at G;obtain⟨am,R,ak,ar⟩:=G;have a9:=E7 R;have Q:∀b,root (B r)=some b->B4 w (B r) (st.L r) b:=λb a=>by rw[M];exact a
 have D:∀b,root (B r)=some b->up za w0 r b/\b<w.heap.size/\¬Z b:=λb a=>(h.locs r).root (Q b a)
 have g:R5 w (w.alloc (.cells f ti.elem)):=R5.alloc w _;have Y:=(h.drop r).more (Z':=Z) g (λ_=>id) (λ_=> .inl);have aa:O6 Z w (w.alloc (.cells f ti.elem)):=λb a=>g.block b (h.zlt b a)
 have O:(w.alloc (.cells f ti.elem)).ownsRow 0 ti.elem 1 (.slice (some ⟨w.heap.size,0,none⟩) 1 1) [l].length [B r]:=
  ⟨rfl, .inr ⟨w.heap.size,1,f,rfl,rS _,Fz w _ _,qV _,by simp[maxLen],by rw[a3],by rw[s];rfl⟩⟩
 have I:∀b,B4 (w.alloc (.cells f ti.elem)) (.slice (some ⟨w.heap.size,0,none⟩) 1 1) (.rows t ti.elem e' [l] [] none) b->b=w.heap.size\/root (B r)=some b:=λb a=>by
  rcases B2t O a with a| ⟨i,u,_,c,a⟩
  . simp[root]at a;exact .inl a.symm
  cases i with
  |zero=>simp at c;subst c;exact .inr a
  |succ i=>simp at c
 have a7:∀j b,B4 (w.alloc (.cells f ti.elem)) (B j) ((st.setL r .none).L j) b->j≠r/\B4 w (B j) (st.L j) b:=λj b a=>by
  have a:=(h.drop r).ft g a;rw[St.L_setL]at a;split at a
  . exact a.elim
  rename_i z;exact⟨z,a⟩
 have a0:=Y.new (v:= .slice (some ⟨w.heap.size,0,none⟩) 1 1) (lc:= .rows t ti.elem e' [l] [] none) ⟨[B r],by rw[C2];exact O,⟨λp A=>(by cases A),λi l' u _ hl' c=>?_,λi j u v b hij _ _ c hv _=>?_⟩,λi u b _ c a=>?_,λb a=>?_⟩
  (λj b a a1=>?_) (λp A=>by cases A) rfl (λb _ _=>by rw[a2];exact rS _)
 . refine⟨_,_,_,ah,g,a0.setS d (x:=one1 (.row st.nx)) ⟨_,[],rfl,(C2 _ _ _).symm,rfl⟩ (λy o=>?_)⟩;simp at o;subst o;exact rR _
 . cases i with
   |zero=>
    simp at hl' c;subst hl' c;exact⟨am,Bq R (λy o=>g.block y (D y (a9.trans o)).2.1),ak.mono λ_ _=>C9.mono (λ_=>id) aa⟩
   |succ i=>simp at c
 . have W:=(sR.1 c).1;have X:=(sR.1 hv).1;simp at W X;omega
 . rw[C2];cases i with
   |zero=>
    simp at c;subst c;intro a5;simp[root]at a5;have:=(D b a).2.1;omega
   |succ i=>simp at c
 . rw[C2]at a;have N:za.n<=(st.setL r .none).nx:=h.nms.2;rcases I b a with a|a
   . subst a;exact⟨.inl ⟨N,h.ext.size⟩,λF=>absurd (h.zlt _ F) (uT _),(rV.1 (show _= _ from Fz w f ti.elem)).1⟩
   obtain⟨k,U,V⟩:=D b a;refine⟨.inl ⟨N,?_⟩,V,rJ U g.size⟩;rcases k with k|k
   . exact k.2
   have:=h.nms.1;omega
 obtain⟨z,J⟩:=a7 j b a1;rcases I b a with a|a
 . subst a;exact absurd ((h.locs j).root J).2.1 (uT _)
 exact h.disj j r b z J (Q b a)
def YU {v:Value} {t:Ty} {e e' b:Nat} {ls:List (List t.den)} {al:List (Nat×Nat)} {f:Option Nat} (a:v= .slice none 0 0):¬B4 w v (.rows t e e' ls al f) b:=λd=>by
 subst a;rcases d with c| ⟨g,m,h,i,j,k,x,a,_⟩
 . simp[root]at c
 cases a
def C3.rowsAt (h:C3 za w0 st E w Z B) {k:Nat} {t:Ty} {e e':TypeId} {ls:List (List t.den)} {al:List (Nat×Nat)} (f:st.L k= .rows t e e' ls al none) (l:st.nm<=k):
 Ct w Z t e e' (B k) ls/\∀b,B4 w (B k) (.rows t e e' ls [] none) b->¬Z b/\w0.heap.size<=b/\b<w.heap.size/\B4 w (B k) (st.L k) b:=by
 have c:=h.locs k;rw[f]at c;refine⟨c.rowsR,λb j=>?_⟩;have d:B4 w (B k) (st.L k) b:=by rw[f];exact(W5 λ_ _=>rfl).1 j
 obtain⟨a,g,i⟩:=(h.locs k).root d;refine⟨i,?_,g,d⟩;rcases a with a|a
 . exact a.2
 have:=h.nms.1;omega
def Ct.one {t:Ty} {e e':Nat} {v:Value} {ls:List (List t.den)} {xs:List Value} (f:w.ownsRow 0 e 1 v ls.length xs) (h:∀(i:Nat) (l:List t.den) (x:Value),ls[i]? =some l->xs[i]? =some x->∃a,w.ownsRow 0 e' t.size x l.length a/\G5 (C9 t w Z) a l):∀u∈xs,u.oneCell'=true:=λu g=>by
 obtain⟨i,d,rfl⟩:=g0x g;have j:xs.length=ls.length:=by have:=f.1;omega
 obtain⟨a,c,_⟩:=h i _ _ (qM ω) (qM d);rcases c.2 with⟨b,_⟩ | ⟨_,_,_,b,_⟩<;>rw[b]<;>rfl
def B7g (h:C3 za w0 st E w Z B) (b9:za.b0=0) (c0:G7 cx.P cx.tys=true) {T:TypeId} {ti:TI} {t:Ty} {e' q:Nat} {x y:Operand} {a:C} {ls r:List (List t.den)} (bz:cx.ti T=some ti) (bx:ti.ty= .sl (.sl t)) (ay:(st.ev [] x).bind c1=some a) (c4:(st.ev [] y).bind c1=some (.row q)) (H:gL st t ti.elem e' a=some ls) (bs:st.nm<=q) (c5:Vc.rowsAt st t ti.elem e' q=some r) (aa:IK a (.row q)=true)
 (b3:(ls.length+r.length)*ti.bytes<=140737488355328) (b4:ls.length+r.length<=9223372036854775807):
 ∃v w' B',Gw.E2 cx.P E ty (.call ⟨.builtin .append, #[x,y], #[T,T]⟩) w v w'/\C3 za w0 (gK ((dropR st a).setL q .none) d t ti.elem e' (ls++r)) (upd E d v) w' Z B':=by
 obtain⟨l,ci,i,bh,an,aw,ce,az,b8,cd⟩:=Gt (B9 c0 bz) bx;obtain⟨cc,bq⟩:=Ad c5;obtain⟨b7,ap⟩:=h.rowsAt bq bs;have c6:Gw.ev E y=B q:=(h.c1 (F2 E) c4).1;have bu:Ct w Z t ti.elem e' (Gw.ev E x) ls/\C3 za w0 (dropR st a) E w Z B/\(∀j,(dropR st a).L j= .none\/(dropR st a).L j=st.L j)/\(dropR st a).nx=st.nx/\(dropR st a).L q=st.L q/\∀b,B4 w (Gw.ev E x) (.rows t ti.elem e' ls [] none) b->¬Z b/\w0.heap.size<=b/\b<w.heap.size/\(∀j,¬B4 w (B j) ((dropR st a).L j) b):=by
  unfold gL at H;split at H
  . rename_i k;obtain⟨ag,H⟩:=H5 H;have ag:=qO ag;obtain⟨al,bj⟩:=Ad H;obtain⟨Y,a0⟩:=h.rowsAt bj ag;have bk:q≠k:=by
     simp only[IK,rN]at aa;exact Ne.symm (uK aa)
    have ab:Gw.ev E x=B k:=(h.c1 (F2 E) ay).1;rw[ab];refine⟨Y,h.drop k,λj=>?_,rfl,?_,λb ac=>?_⟩
    . simp only[dropR,St.L_setL];split
      . exact .inl rfl
      exact .inr rfl
    . simp only[dropR,St.L_setL];rw[qL bk]
    obtain⟨A,D,F,b2⟩:=a0 b ac;refine⟨A,D,F,λj n=>?_⟩;simp only[dropR,St.L_setL]at n;split at n
    . exact n.elim
    rename_i bi;exact h.disj j k b bi n b2
  . rename_i cg;obtain⟨bl,H⟩:=H5 H;cases H;have ab:Gw.ev E x= .slice none 0 0:=by rw[(h.c1 (F2 E) ay).1.1];exact Gv bl
    refine⟨⟨[],by rw[ab];exact World.ownsRow_nil _ _ _ _,λl a5 u U=>(by simp at U),λl j u v b _ i=>(by simp at i),λl u b i=>(by simp at i)⟩,h,λj=> .inr rfl,rfl,rfl,λb ac=>absurd ac (YU ab)⟩
  cases H
 obtain⟨⟨I,a6,c8,c9,ca⟩,bt,bb,bn,bc,a1⟩:=bu;obtain⟨J,W,b1,cb,ch⟩:=b7;have aj:=bt.drop q;have bw:(Ty.sl t).size=1:=rfl;rw[bw]at aw az;have a4:∀b,(Gw.ev E x).ownBlock=some b->B4 w (Gw.ev E x) (.rows t ti.elem e' ls [] none) b:=λb f=> .inl ((E7 a6).trans f)
 have bp:w.ownsRow w0.heap.size ti.elem 1 (Gw.ev E x) ls.length I:=kR a6 λb f=>(a1 b (a4 b f)).2.1
 have af:∀(l:Nat) (u:Value) (b:Nat),I[l]? =some u->root u=some b->B4 w (Gw.ev E x) (.rows t ti.elem e' ls [] none) b:=λl u b i f=>Vr a6 i f
 have a9:∀(l:Nat) (u:Value) (b:Nat),J[l]? =some u->root u=some b->B4 w (B q) (.rows t ti.elem e' r [] none) b:=λl u b i f=>Vr W i f
 have ae:∀b,B4 w (Gw.ev E x) (.rows t ti.elem e' ls [] none) b->¬B4 w (B q) (.rows t ti.elem e' r [] none) b:=λb hb1 hb2=>(a1 b hb1).2.2.2 q (by rw[bc];exact(ap b hb2).2.2.2)
 obtain⟨ao,Q,c7,ba,bm⟩:∃ao Q,B q= .slice ao r.length Q/\(∀a,ao=some a->I6 w a J)/\(ao=none->r.length=0/\Q=0):=by
  rcases W.2 with⟨s,ac⟩ | ⟨g,Q,ag,s,_⟩
  . exact⟨none,0,by rw[s,ac],λa ab=>(by cases ab),λ_=>⟨ac,rfl⟩⟩
  exact⟨_,Q,s,λa ab=>(by cases ab;exact Iq W s),λo=>(by cases o)⟩
 obtain⟨V,z,bv,a3,a8,aq,be⟩:=HZ (P:=cx.P) (ty:=ty) i bh an aw az δ bp (ao:=ao) (m:=r.length) (c:=Q) (news:=J) (by have:=W.1;omega) ba bm (Ct.one W b1) b4 (by rw[b8];exact b3) h.ext.size;have au:∀b,b<w.heap.size->(∀O,(Gw.ev E x).ownBlock=some O->O≠b)->z.heap[b]? =w.heap[b]?:=λb ah aa=>a8.block b ah (λo=>aa b o.symm rfl)
 have ak:∀b,(Z b\/∃j,B4 w (B j) (((dropR st a).setL q .none).L j) b)->z.heap[b]? =w.heap[b]?:=λb f=>by
  refine au b ?_ (λO a2 o=>?_)
  . rcases f with f| ⟨j,n⟩
    . exact h.zlt b f
    exact((aj.locs j).root n).2.1
  subst o;have:=a1 O (a4 O a2);rcases f with f| ⟨j,n⟩
  . exact this.1 f
  rw[St.L_setL]at n;split at n
  . exact n.elim
  exact this.2.2.2 j n
 have b5:=aj.keep (Z':=Z) (h.ext.grown a8 be (λb f=> .inl (a1 b (a4 b f)).2.1)) a8.size ak (λ_=>id) (λ_=> .inl);have ax:O6 Z w z:=λb f=>ak b (.inl f)
 have c3:I.length=ls.length:=by have:=a6.1;omega
 have cf:J.length=r.length:=by have:=W.1;omega
 have a7:∀(l:Nat) (u:Value),(I++J)[l]? =some u->(l<ls.length/\I[l]? =some u)\/(ls.length<=l/\J[l-ls.length]? =some u):=λl u i=>by
  by_cases N:l<I.length
  . rw[vF N]at i;exact .inl ⟨ω,i⟩
  rw[tS ω,c3]at i;exact .inr ⟨ω,i⟩
 have G:∀(l:Nat) (u:Value) (b:Nat),(I++J)[l]? =some u->root u=some b->(B4 w (Gw.ev E x) (.rows t ti.elem e' ls [] none) b\/B4 w (B q) (.rows t ti.elem e' r [] none) b)/\(Gw.ev E x).ownBlock≠some b:=λl u b i f=>by
  rcases a7 l u i with⟨_,i⟩ | ⟨_,i⟩
  . exact⟨.inl (af l u b i f),λo=>ca l u b i f ((E7 a6).trans o)⟩
  exact⟨.inr (a9 _ u b i f),λo=>ae b (a4 b o) (a9 _ u b i f)⟩
 have ad:∀b,(B4 w (Gw.ev E x) (.rows t ti.elem e' ls [] none) b\/B4 w (B q) (.rows t ti.elem e' r [] none) b)->¬Z b/\w0.heap.size<=b/\b<w.heap.size/\∀j,¬B4 w (B j) (((dropR st a).setL q .none).L j) b:=λb f=>by
  rcases f with f|f
  . obtain⟨A,D,F,ab⟩:=a1 b f;refine⟨A,D,F,λj n=>?_⟩;rw[St.L_setL]at n;split at n
    . exact n.elim
    exact ab j n
  obtain⟨A,D,F,ab⟩:=ap b f;refine⟨A,D,F,λj n=>?_⟩;rw[St.L_setL]at n;split at n
  . exact n.elim
  rename_i ag;rcases bb j with ac|ac
  . rw[ac]at n;exact n.elim
  rw[ac]at n;exact h.disj j q b ag n ab
 have av:=E7 a3;have bf:∀b,B4 z V (.rows t ti.elem e' (ls++r) [] none) b->V.ownBlock=some b\/B4 w (Gw.ev E x) (.rows t ti.elem e' ls [] none) b\/B4 w (B q) (.rows t ti.elem e' r [] none) b:=λb f=>by
  rcases B2t (Ml a3 (rS _)) f with f| ⟨l,u,_,i,f⟩
  . exact .inl (av.symm.trans f)
  exact .inr (G l u b i f).1
 have ar:∀b,B4 z V (.rows t ti.elem e' (ls++r) [] none) b->¬Z b/\w0.heap.size<=b/\b<z.heap.size/\∀j,¬B4 w (B j) (((dropR st a).setL q .none).L j) b:=λb f=>by
  have ab:(B4 w (Gw.ev E x) (.rows t ti.elem e' ls [] none) b\/B4 w (B q) (.rows t ti.elem e' r [] none) b)->¬Z b/\w0.heap.size<=b/\b<z.heap.size/\∀j,¬B4 w (B j) (((dropR st a).setL q .none).L j) b:=λo=>by
   obtain⟨A,D,F,ac⟩:=ad b o;exact⟨A,D,rJ F a8.size,ac⟩
  rcases bf b f with o|o
  . rcases aq with M|M
    . rw[M]at o;exact ab (.inl (a4 b o))
    have ah:=World.ownsRow.lt a3 b o;rw[M]at o;cases o;exact⟨λan=>absurd (h.zlt _ an) (uT _),h.ext.size,ah.2,λj n=>absurd ((aj.locs j).root n).2.1 (uT _)⟩
  exact ab o
 have bg:∀j b,B4 z (B j) (((dropR st a).setL q .none).L j) b->B4 w (B j) (((dropR st a).setL q .none).L j) b:=λj b hf=>(B4.iff λc R=>ak c (.inr ⟨j,R⟩)).1 hf
 have bo:((dropR st a).setL q .none).nx=st.nx:=bn;have c2:V.oneCell'=true:=by rcases a3.2 with⟨s,_⟩ | ⟨_,_,_,s,_⟩<;>rw[s]<;>rfl
 have b6:=b5.new (v:=V) (lc:= .rows t ti.elem e' (ls++r) [] none) ⟨I++J,by rw[C2,rQ];exact Ml a3 (rS _),⟨λp ai=>(by cases ai),λl a5 u _ U i=>?_,λl j u v b hij _ _ i s hb1 hb2=>?_⟩,λl u b _ i f=>?_,λb f=>?_⟩
  (λj b f a2=>(ar b f).2.2.2 j (bg j b a2)) (λp ai=>by cases ai) c2 (λb _ _=>by rw[b9];exact rS _)
 . refine⟨V,z,_,λ_ _ _ _=>?_,b6.setS d (x:=one1 (.row ((dropR st a).setL q .none).nx)) ⟨_,[],rfl,(C2 _ _ _).symm,rfl⟩ (λc R=>?_)⟩
   . simp[execOp,resolve,invoke,builtin,c6,c7,bv]
   simp at R;subst R;exact rR _
 . have keep:∀ {X:List Value},w.ownsRow 0 e' t.size u a5.length X->z.ownsRow 0 e' t.size u a5.length X:=λg=>Bq g λc R=>by
    have G:=G l u c i ((E7 g).trans R);exact au c (ad c G.1).2.2.1 (λO a2 o=>G.2 (o▸a2))
   rcases a7 l u i with⟨N,am⟩ | ⟨N,am⟩
   . rw[vF N]at U;obtain⟨X,Y,a0⟩:=c8 l a5 u U am;exact⟨X,keep Y,a0.mono λ_ _=>C9.mono (λ_=>id) ax⟩
   rw[tS N]at U;obtain⟨X,Y,a0⟩:=b1 _ a5 u U am;exact⟨X,keep Y,a0.mono λ_ _=>C9.mono (λ_=>id) ax⟩
 . rcases a7 l u i with⟨N,i⟩ | ⟨N,i⟩<;>rcases a7 j v s with⟨n,s⟩ | ⟨n,s⟩
   . exact c9 l j u v b hij i s hb1 hb2
   . exact ae b (af l u b i hb1) (a9 _ v b s hb2)
   . exact ae b (af j v b s hb2) (a9 _ u b i hb1)
   exact cb _ _ u v b ω i s hb1 hb2
 . rw[C2];intro o;have G:=G l u b i f;rw[av]at o;rcases aq with M|M
   . rw[M]at o;exact G.2 o
   rw[M]at o;cases o;exact absurd (ad _ G.1).2.2.1 (uT _)
 rw[C2]at f;obtain⟨A,D,F,_⟩:=ar b f;exact⟨.inl ⟨by rw[bo];exact h.nms.2,D⟩,A,F⟩
def C3.move (h:C3 za w0 st E w Z B) {k r i j g:Nat} {t:Ty} {e e':TypeId} {ls:List (List t.den)} {xs:List Value} (F:st.L k= .rows t e e' ls [] (some i)) (V:i≠j) (a5:i<ls.length) (y:AtV xs j (B r)) (a7:w.ownsRow 0 e 1 (B k) ls.length xs) (T:root (B k)=some g) (H:VX g w w') (W:w'.ownsRow 0 e 1 (B k) ls.length (xs.set i (B r))):
 C3 za w0 (st.setL k (.rows t e e' (ls.set i (ls.getD j [])) [] (some j))) E w' Z B:=by
 have Q:=h.locs k;rw[F]at Q;obtain⟨af,G,⟨_,a0,a1⟩,P,ac⟩:=Q;have:=Sf a7 G;subst this;have ae:xs.length=ls.length:=by have:=G.1;omega
 have U:B4 w (B k) (st.L k) g:=by rw[F];exact .inl T
 have a4:¬Z g:=((h.locs k).root U).2.2;have a8:O6 Z w w':=λx hc'=>H.2.2.2.2 x (λe=>a4 (e▸hc'))
 have z:∀m,m≠i->Eo (some i) m=false:=λm d=>E9 (Ne.symm d)
 have A:∀m,Eo (some j) m=false->m≠j:=λm d e=>by subst e;simp[Eo]at d
 have I:∀(m:Nat) (u:Value) (b:Nat),m≠j->(xs.set i (B r))[m]? =some u->root u=some b->∃f,f≠i/\xs[f]? =some u/\((m=i/\f=j)\/(m≠i/\f=m)):=λm u b d a c=>by
  by_cases n:m=i
  . subst n;rw[sU ω]at a;cases a;rcases y with y| ⟨_,M⟩
    . exact⟨j,Ne.symm V,y, .inl ⟨rfl,rfl⟩⟩
    rw[M]at c;simp[root]at c
  rw[tC (Ne.symm n)]at a;exact⟨m,n,a, .inr ⟨n,rfl⟩⟩
 have R:∀b,B4 w' (B k) (.rows t e e' (ls.set i (ls.getD j [])) [] (some j)) b->root (B k)=some b\/B4 w (B k) (st.L k) b:=λb c=>by
  rcases B2t W c with c| ⟨m,u,d,a,c⟩
  . exact .inl c
  obtain⟨f,o,s,_⟩:=I m u b (A m d) a c;exact .inr (by rw[F];exact Rr G (z f o) s c)
 have keep:∀ {m:Nat} {l:List t.den} {u:Value},m≠i->ls[m]? =some l->xs[m]? =some u->∃J,w'.ownsRow 0 e' t.size u l.length J/\G5 (C9 t w' Z) J l:=λ{m l u} d hl a=>by
  obtain⟨J,X,a9⟩:=a0 m l u (z m d) hl a;refine⟨J,Bq X (λx a2=>H.2.2.2.2 x ?_),a9.mono λ_ _=>C9.mono (λ_=>id) a8⟩;exact λe=>P m u x (z m d) a ((E7 X).trans a2) (by rw[e];exact T)
 refine h.chg (k:=k) (b:=g) (by rw[F];trivial) U H ⟨_,by rw[qT];exact W,⟨λp N=>(by cases N),λm l u d hl a=>?_,λm f u v b hmm d hm' a hv c hb'=>?_⟩,λm u b d a c=>?_,λb c=>?_⟩ (λp N=>by cases N) R
 . by_cases n:m=i
   . subst n;rw[sU a5]at hl;rw[sU ω]at a;cases hl;cases a;rcases y with y| ⟨ad,M⟩
     . have a6:j<ls.length:=by have:=(sR.1 y).1;omega
       exact keep (Ne.symm V) (by rw[qE,qM a6];rfl) y
     rw[M,qE,rT ω];exact⟨[],World.ownsRow_nil _ _ _ _,rfl⟩
   rw[tC (Ne.symm n)]at hl a;exact keep n hl a
 . obtain⟨D,o,s,O⟩:=I m u b (A m d) a c;obtain⟨x,c1,Y,aa⟩:=I f v b (A f hm') hv hb';have G:=A m d;have ab:=A f hm';exact a1 D x u v b ω (z D o) (z x c1) s Y c hb'
 . obtain⟨D,o,s,_⟩:=I m u b (A m d) a c;exact P D u b (z D o) s c
 rw[H.2.2.2.1];have a3:B4 w (B k) (st.L k) b:=(R b c).elim (B4.of (by rw[F];trivial)) id;obtain⟨o,s,O⟩:=(h.locs k).root a3;exact⟨o,O,s⟩
def B4m (h:C3 za w0 st E w Z B) (F:za.b0=0) (U:G7 cx.P cx.tys=true) {T:TypeId} {ti:TI} {x v:Operand} {p r i:Nat} (Q:cx.ti T=some ti) (A:ti.ty.size=1) (X:(st.ev [] x).bind c1=some (.elp p 1 i 0)) (V:(st.ev [] v).bind Sm=some r) (a:YO st p r i=some (φ,st')) (a0:FL φ):
 ∃w',Gw.KM cx.P E ty (.store T x v) w w'/\C3 za w0 st' E w' Z B:=by
 unfold YO at a;split at a
 case h_2=>cases a
 rename_i ad e a8 ls al d;split at a
 case h_2=>cases a
 rename_i j q I a9;split at a
 case h_2=>cases a
 rename_i ab ac a1 aa l G;obtain⟨b,a⟩:=H5 a;cases a;simp only[qC]at b;rw[qD b.1.1]at l;obtain⟨y,H⟩:i=a1/\i≠j:=a0;subst y;have t:=(J4 (B9 U Q)).1;rw[A]at t;obtain⟨sv,O,R⟩:=bind_some.1 V;have W:=A9n (h.ev (F2 E) O).1 R;obtain⟨a6,a2,a7,g,s,M⟩:=(h.c1 (F2 E) X).1;have o:=h.locs p;rw[d]at o;obtain⟨a5,n,⟨z,_,_⟩,_,_⟩:=o;have Y:AtV a5 j (B r):=z (j,r) (Ll I);have f:=n;rw[g]at f;have J:a2=ls.length:=by
  rcases f.2 with⟨c,_⟩ | ⟨_,_,_,c,_⟩<;>cases c
  rfl
 subst J;obtain⟨w',a3,a4,u⟩:=pU (P:=cx.P) (ty:=ty) t f s M W (h.bone r);rw[<-g]at u;have D:=h.detach d l G (qO b.1.2) (qO b.2) F;have N:p≠q:=λc=>by rw[c,l]at d;cases d
 refine⟨w',a3,D.move (k:=p) (i:=i) (j:=j) (ls:=ls) (by rw[St.L_setL,qL N,St.L_setL,qR rfl]) H s Y n (by rw[g];rfl) a4 u⟩
def pZ {T:TypeId} {p v:Operand} (b:JI st (.store T p v)=false):AS cx st none (.store T p v)=none:=by
 cases c:AS cx st none (.store T p v)with
 |none=>rfl
 |some y=>
  exfalso;simp only[AS,qH,bind_some]at c;obtain⟨ti,j,i,d,r,g,a⟩:=c;split at a
  . have a:=(H5 a).2;simp only[JI,bind_some.2 d,bind_some.2 g]at b;unfold YO at a;split at a
    . rename_i f;split at a
      . split at a
        . rename_i h _ _;rw[f,h]at b;cases b
        cases a
      cases a
    cases a
  cases a
def A9p {t:Op} {u:Option Tmp} (h:C3 za w0 st E w Z B) (b:za.b0=0\/JI st t=false) (D:G7 cx.P cx.tys=true) (a:AS cx st u t=some (φ,st')) (F:FL φ) (A:k st') (y:E1 all ⟨u,t,ty,pos,aft,g⟩ E=true):K4 cx.P all ⟨u,t,ty,pos,aft,g⟩ (eC za w0 w (wrB t) k) E w:=by
 unfold AS at a;split at a
 . rename_i T len R;split at a
   . rename_i d p G N;simp only[qH,bind_some]at a;obtain⟨ti,s,a⟩:=a;obtain⟨c,a⟩:=H5 a;simp only[bind_some]at a;obtain⟨a7,r,a8,_,V,f,a⟩:=a;split at a
     . rename_i a6;simp only[bind_some]at a;obtain⟨ae,a1,a⟩:=a;obtain⟨a4,a⟩:=H5 a;cases a;simp only[qC]at c;have v:=qD c.1.2;have x:=qD c.2;subst v x;have M:=Jq a1;have o:za.b0=0:=by
        rcases b with b|b
        . exact b
        simp only[JI,N,bind_some.2 f,M]at b;cases b
       obtain⟨a9,w',B',j,l,X⟩:=B8r (ty:=ty) (d:=d) h o D s (gS r) (bind_some.2 f) M (qO a4);have n:R= #[(0,G)]:=by rw[<-uA (xs:=R),N]
       subst n;exact S4 j y ⟨λ_=>l,_,_,_,X,A⟩
     cases a
   cases a
 . split at a
   . simp only[qH,bind_some]at a;obtain⟨ti,s,V,f,a6,O,a⟩:=a;split at a
     . rename_i p sz ad ag;obtain⟨c,i⟩:=H5 a;clear a;simp only[qC]at c;have v:=qD c.1.1;have x:=qD c.1.2;have W:=qD c.2;subst v x;have o:za.b0=0:=by
        rcases b with b|b
        . exact b
        exfalso;simp only[JI,bind_some.2 f,bind_some.2 O]at b;unfold YO at i;split at i
        . rename_i a0;split at i
          . split at i
            . rename_i a3 _ _;rw[a0,a3]at b;cases b
            cases i
          cases i
        cases i
       obtain⟨w',j,l⟩:=B4m (ty:=ty) h o D s W (bind_some.2 f) (bind_some.2 O) i F;exact Wa j y ⟨λz=>(by cases z),_,_,_,l,A⟩
     cases a
   cases a
 . rename_i H U;split at a
   . rename_i d G aa T T' I a5;simp only[qH,bind_some]at a;obtain⟨ti,s,a⟩:=a;obtain⟨c,a⟩:=H5 a;simp only[bind_some]at a;obtain⟨a7,r,a8,_,ab,n,ac,J,af,a2,a⟩:=a;split at a
     . rename_i q;simp only[bind_some]at a;obtain⟨ah,Q,a⟩:=a;obtain⟨f,a⟩:=H5 a;cases a;simp only[qC]at c f;have Y:=qD c.2;subst Y;have o:za.b0=0:=by
        rcases b with b|b
        . exact b
        exfalso;obtain⟨al,a0⟩:=Ad Q;simp only[JI,I,bind_some.2 J,a0]at b;cases b
       obtain⟨a9,w',B',j,l⟩:=B7g (ty:=ty) (d:=d) h o D s (gS r) (bind_some.2 n) (bind_some.2 J) a2 (qO f.2) Q f.1 F.1 F.2;have n:H= #[G,aa]:=by rw[<-uA (xs:=H),I]
       have r:U= #[T,T]:=by rw[<-uA (xs:=U),a5]
       subst n r;exact S4 j y ⟨λz=>(by cases z),_,_,_,l,A⟩
     cases a
   cases a
 cases a
def Zx (cx:Cx) (st:St) (a:Option Tmp) (op:Op):Option (Option Prop×St):=match Ov cx st a op with
 |some x=>some x
 |none=>AS cx st a op
def II (st:St) (op:Op):Bool:=Ve st op||JI st op
def pJ {T:TypeId} {p v:Operand} (a:II st (.store T p v)=false):Zx cx st none (.store T p v)=none:=by
 simp only[II,rE]at a;unfold Zx;rw[kF a.1];exact pZ a.2
def A9e {b:Op} {d:Option Tmp} (h:C3 za w0 st E w Z B) (j:za.b0=0\/II st b=false) (l:G7 cx.P cx.tys=true) (c:Zx cx st d b=some (φ,st')) (n:FL φ) (i:k st') (f:E1 all ⟨d,b,ty,pos,aft,g⟩ E=true):K4 cx.P all ⟨d,b,ty,pos,aft,g⟩ (eC za w0 w (wrB b) k) E w:=by
 unfold Zx at c;split at c
 . rename_i y o;cases c;exact A3e h (j.imp id λa=>by simp only[II,rE]at a;exact a.1) l o n i f
 exact A9p h (j.imp id λa=>by simp only[II,rE]at a;exact a.2) l c n i f
def fL (cx:Cx) (st:St) (ctx:Ia) (s:Tmp) (b:Bool) (d:Tmp) (T:TypeId) (x:Operand):Option St:=do
 let ti<-cx.ti T
 let c<-(st.ev ctx x).bind c1
 match c with
 | .elp k sz i f=>match st.L k with
  | .rows t e a c al none=>bif Nat.beq sz 1&&Nat.beq f 0&& !ti.agg then some (((st.newL (.al k)).setL k (.rows t e a c ((i,st.nx)::al) none)).setS d (.cnd s b ⟨false,[.row st.nx]⟩))else none
  | _=>none
 | _=>none
def pC (h:C3 za w0 st E w Z B) (a4:G7 cx.P cx.tys=true) {ctx:Ia} {s:Tmp} {b:Bool} {T:TypeId} {x:Operand} (J:s≠d) (f:fL cx st ctx s b d T x=some st'):
 (E s= .bool b->Q3 E ctx->∃v B',(∀w',R5 w w'->Gw.E2 cx.P E ty (.load T x) w' v w')/\C3 za w0 st' (upd E d v) w Z B')/\(E s≠ .bool b->∃B',C3 za w0 st' (upd E d undef) w Z B'):=by
 simp only[fL,qH,bind_some]at f;obtain⟨ti,a3,Q,o,f⟩:=f;split at f
 case h_2=>cases f
 rename_i q sz i ae;split at f
 case h_2=>cases f
 rename_i N e D y al t;obtain⟨r,a0⟩:=H5 f;clear f;cases a0;simp only[qC,rN]at r;have a2:=qD r.1.1;have X:=qD r.1.2;subst a2 X;have F:=h.locs q;rw[t]at F;obtain⟨g,c,⟨a9,R,aa⟩,ab,ac⟩:=F;have ad:g.length=y.length:=by have:=c.1;omega
 have I:∀u∈g,u.oneCell'=true:=Ct.one c (λi l u hl hu=>R i l u rfl hl hu);have fin:∀v u (B':Nat->Value),C3 za w0 ((st.newL (.al q)).setL q (.rows N e D y ((i,st.nx)::al) none)) E w Z B'->((E s= .bool b/\u=v/\B' st.nx=v)\/(E s≠ .bool b/\u=undef))->C3 za w0 (((st.newL (.al q)).setL q (.rows N e D y ((i,st.nx)::al) none)).setS d (.cnd s b ⟨false,[.row st.nx]⟩)) (upd E d u) w Z B':=λv u B' hr hu=>by
  refine hr.setS d (x:= .cnd s b ⟨false,[.row st.nx]⟩) ?_ (λQ o=>?_)
  . rcases hu with⟨n,z,O⟩ | ⟨n,z⟩
    . subst z;refine .inl ⟨?_,⟨u,[],rfl,O.symm,rfl⟩⟩;rw[C5 _ _ _ _ J];exact n
    refine .inr ⟨?_,z⟩;rw[C5 _ _ _ _ J];exact n
  simp at o;subst o;exact rR _
 refine⟨λk V=>?_,λk=>?_⟩
 . have a1:Ei cx.P T=true:=by
    rcases(J4 (B9 a4 a3)).2.1 with⟨n,_⟩ | ⟨_,n,_⟩
    . rw[r.2]at n;cases n
    exact n
   obtain⟨j,a7,a8,A,H,a5⟩:=(h.c1 V (bind_some.2 o)).1;have W:a7=y.length:=by
    rw[A]at c;rcases c.2 with⟨n,_⟩ | ⟨_,_,_,n,_⟩<;>cases n
    rfl
   subst W;have M:=qM (ω:i<g.length);have G:=Iq c A i _ M;rw[K5,sD]at G;have Y:=h.aliasL (i:=i) t c (.inl M) (I _ (wC _));have U:j<w.heap.size:=by rw[A]at c;exact(World.ownsRow.lt c j rfl).2
   refine⟨g[i],_,λw' a6=>lR a5 a1 ?_,fin _ _ _ Y (.inl ⟨k,rfl,C2 _ _ _⟩)⟩;have e:=World.cell?_of_block (a:=⟨j,i,none⟩) (a6.block j U);rw[(ω:i*1+0=i),e];exact G
 by_cases H:i<g.length
 . exact⟨_,fin g[i] _ _ (h.aliasL (i:=i) t c (.inl (qM H)) (I _ (wC _))) (.inr ⟨k,rfl⟩)⟩
 exact⟨_,fin (.slice none 0 0) _ _ (h.aliasL (i:=i) t c (v:= .slice none 0 0) (.inr ⟨ω,rfl⟩) rfl) (.inr ⟨k,rfl⟩)⟩
end
def E6 {α:Type} {c:Bool} {a:Option α} {x:α} (h:(bif c then a else none)=some x):c=true/\a=some x:=by
 cases c
 . cases h
 exact⟨rfl,h⟩
def C0 {c:Bool} {p:Prop} (h:bif c then p else False):c=true/\p:=by
 cases c
 . exact h.elim
 exact⟨rfl,h⟩
def Ol (a:St):Nat->Tmp->Bool
 |0,_=>false
 |n+1,t=>match a.S t with
  | .one v=>(RU v).isSome
  | .cnd b _ v=>(RU v).isSome&&Ol a n b
  | _=>false
def Ic:List RT->Bool
 | []=>true
 |r::a=> !(Bn r)&&Ic a
def Lx (a:St) (ctx:Ia) (f:Operand) (args:List Operand):Option (FuncId×List SV):=do
 let c<-(a.ev ctx f).bind c1
 let d<-evL a ctx args
 match c with
 | .fn g b=>bif b.all (λk=>Qf (a.L k))then some (g,d++b.map λk=>⟨false,[.box k 0]⟩)else none
 | _=>none
def thaw (a:St) (k:Nat):St:=match a.L k with
 | .rows t e _ b _ none=>bif Nat.ble a.nm k then(a.setL k .none).setL k (.row (.sl t) e b)else a
 | _=>a
def thawS (a:St):SV->St
 | ⟨false,[.row k]⟩=>thaw a k
 | _=>a
def settleA:St->List AM->List SV->St
 |b, .val _ _::r,s::a=>settleA (settle b s.cs) r a
 |b, .row _ _::r,s::a=>settleA (thawS b s) r a
 |b, .box _ _::r,_::a=>settleA b r a
 |b, .fn _ _ _::r,_::a=>settleA b r a
 |b, .rows _ _ _::r,_::a=>settleA b r a
 |a,_,_=>a
def dropM:St->List Nat->St
 |a,[]=>a
 |b,k::a=>dropM (b.setL k .none) a
def addM:(as:List AM)->Od as->List Nat->St->St
 | .row t e::r,o,k::a,b=>addM r o.2 a (b.setL k (.row t e o.1))
 | .box T t::r,o,k::a,b=>addM r o.2 a (b.setL k (.box T (explode t o.1)))
 | .val _ _::r,o,a,b=>addM r o a b
 | .fn _ _ _::r,o,a,b=>addM r o a b
 | .rows t e a::r,o,k::b,c=>addM r o.2 b (c.setL k (.rows t e a o.1 [] none))
 | _,_,_,a=>a
def Zh (cx:Cx) (sp:G1) (b:St) (d:Tmp) (s:A8) (ss:List SV) (k:St->Prop):Prop:=
 match Y7 s.args ss with
 |some a=>bif IJ a then
  (bif Q7 s.args then O1 cx sp b a s.shared s.args ss λx=>s.pre x/\∀r o,rwf s.res r->owf s.args o->s.post x r->s.mpost x r o->k ((addM s.args o a (G2 s.res r (dropM b a)).2).setS d (B2j (G2 s.res r (dropM b a)).1))
   else O1 cx sp b a s.shared s.args ss λx=>s.pre x/\∀r,rwf s.res r->s.post x r->k ((G2 s.res r b).2.setS d (B2j (G2 s.res r b).1)))
  else False
 |none=>False
def stillF (cx:Cx):St->List AM->List SV->St
 |a,b::r,s::c=>stillF cx (match b,c1 s with
  | .fn _ _ _,some (.fn _ b)=>b.foldl (stillB cx) a
  | _,_=>a) r c
 |a,_,_=>a
def pS (a:St) (sh:Bool):(as:List (Bool×Ty))->List SV->Option (Z4 as)
 | [],[]=>some ()
 | (b,t)::r,s::c=>(gD a [] sh b t s).bind λx=>(pS a sh r c).map λy=>(x,y)
 | _,_=>none
def Um (cx:Cx) (sp:G1) (a:St) (d:Tmp) (f:Operand) (args:List Operand) (k:St->Prop):Prop:=
 match(a.ev [] f).bind c1 with
 |some (.fv P as g r c b)=>(match evL a [] args with
  |some h=>(match pS a (!(Mb r)) as h with
   |some y=>P=cx.P/\c y/\(r.wf (b y)->k (a.setS d (.one ⟨g,explode r (b y)⟩)))
   |none=>False)
  |none=>False)
 | _=>match Lx a [] f args with
  |some (g,b)=>match V3 g sp with
   |some s=>bif Gq cx.P g then
    (match s.inl.filter λc=>c.has d with
    |some c=>c.run d a b λi h=>k (i.setS d (B2j h))
    |none=>bif s.shared then
     (match Lx (settleA (stillF cx a s.args b) s.args b) [] f args with
      |some (c,h)=>bif Nat.beq c g then Zh cx sp (settleA (stillF cx a s.args b) s.args b) d s h k else False
      |none=>False)
    else Zh cx sp a d s b k)
    else False
   |none=>False
  |none=>False
def VK (sp:G1) (a:St) (o:Oper):Bool:=match o.op with
 | .call ⟨.value f,_,_⟩=>match(a.ev [] f).bind c1 with
  |some (.fn g _)=>(match V3 g sp with
   |some s=>s.inl.isSome||Q7 s.args
   |none=>true)
  |some (.fv _ _ _ _ _ _)=>false
  | _=>o.guard.isNone
 | _=>false
def B3q (q:Nat):DV->Bool
 | .one ⟨false,[.box k 0]⟩=>Nat.beq k q
 | _=>false
def C1k (a:St) (ts:List Nat) (q:Nat):Bool:=ts.any λs=>B3q q (a.S s)
def C2g:AM->Bool
 | .row _ _=>false
 | .rows _ _ _=>false
 | _=>true
def kMu (b:St) (ts:List Nat) (as:List AM) (ss:List SV):Bool:=as.all C2g&&(match Y7 as ss with
 |some a=>a.all (C1k b ts)
 |none=>false)
def oU (cx:Cx) (sp:G1) (b:St) (ts:List Nat) (o:Oper):Bool:=match o.op with
 | .call ⟨.value f,c,_⟩=>o.guard.isNone&&(match Lx b [] f c.toList with
  |some (g,a)=>(match V3 g sp with
   |some s=> !s.inl.isSome&&(bif s.shared then(match Lx (settleA (stillF cx b s.args a) s.args a) [] f c.toList with
    |some (_,c)=>kMu (settleA (stillF cx b s.args a) s.args a) ts s.args c
    |none=>false)else kMu b ts s.args a)
   |none=>false)
  |none=>false)
 | _=>false
def C3e (sp:G1) (a:St):Op->Bool
 | .call ⟨.value f,_,_⟩=>match(a.ev [] f).bind c1 with
  |some (.fn g _)=>(match V3 g sp with
   |some s=>s.inl.isSome
   |none=>false)
  | _=>false
 | _=>false
def kM (sp:G1) (n0:Nat) (a:St) (op:Op):Bool:=kK n0 a op&& !(C3e sp a op)&& !(II a op)
def cA (sp:G1) (a:St) (o:Oper):Bool:=wrB o.op||VK sp a o
def C5t (a:St) (f:Operand) (g:Nat):Bool:=match(a.ev [] f).bind c1 with
 |some (.fn a _)=>Nat.beq a g
 | _=>false
def iX (cx:Cx) (sp:G1) (a:St) (ctx:Ia) (t:Tmp) (b:Bool) (d:Tmp) (s:A8) (ss:List SV) (k:St->Prop):Prop:=
 match Y7 s.args ss with
 |some c=>bif IJ c then
  O1 cx sp a c s.shared s.args ss λx=>(ctxP a ctx->s.pre x/\∀r o,rwf s.res r->owf s.args o->s.post x r->s.mpost x r o->(match(G2 s.res r (dropM a c)).1 with
   | [sv]=>k ((addM s.args o c (G2 s.res r (dropM a c)).2).setS d (.cnd t b sv))
   | _=>False))/\((ctxP a ctx->False)->(match(G2 s.res (ZT s.res) a).1 with
   | [sv]=>k (a.setS d (.cnd t b sv))
   | _=>False))
  else False
 |none=>False
def B5t (n:Nat):C->Bool
 | .row k=>Nat.blt k n
 | .box k _=>Nat.blt k n
 | .elp k _ _ _=>Nat.blt k n
 | .win k _ _ _=>Nat.blt k n
 | .mp k=>Nat.blt k n
 | .fn _ a=>a.all λk=>Nat.blt k n
 | _=>true
def Zf {a b:Nat} (h:Nat.blt a b=true):a<b:=qO h
def kY {n:Nat} {c:C} (h:B5t n c=true):Cz n c:=by
 cases c with
 |row k=>exact Zf h
 |box k _=>exact Zf h
 |elp k _ _ _=>exact Zf h
 |win k _ _ _=>exact Zf h
 |mp k=>exact Zf h
 |fn _ b=>exact λk a=>Zf (tH.1 h k a)
 | _=>trivial
def Rm (cx:Cx) (sp:G1) (a:St) (ctx:Ia) (t:Tmp) (b:Bool) (d:Tmp) (f:Operand) (args:List Operand) (k:St->Prop):Prop:=
 match(a.ev ctx f).bind c1 with
 |some (.fv P as h r g c)=>(match evL a ctx args with
  |some i=>(match pS a (!(Mb r)) as i with
   |some y=>P=cx.P/\(ctxP a ctx->g y)/\((ctxP a ctx->r.wf (c y))->k (a.setS d (.cnd t b ⟨h,explode r (c y)⟩)))
   |none=>False)
  |none=>False)
 | _=>match Lx a ctx f args with
 |some (g,c)=>match V3 g sp with
  |some s=>match s.inl with
   |some h=>(match h.res c with
    |some sv=>bif Gq cx.P g&&sv.cs.all (B5t a.nx)then k (a.setS d (.cnd t b sv))else False
    |none=>False)
   |none=>bif Gq cx.P g&&Ic s.res then
    (bif Q7 s.args then(bif C5t a f g then iX cx sp a ctx t b d s c k else False)
     else O1 cx sp a [] s.shared s.args c λx=>(ctxP a ctx->s.pre x)/\∀r,(ctxP a ctx->rwf s.res r/\s.post x r)->(match(G2 s.res r a).1 with
      | [sv]=>k (a.setS d (.cnd t b sv))
      | _=>False))
    else False
  |none=>False
 |none=>False
def iT (cx:Cx) (c:St) (ctx:Ia) (t:Tmp) (b:Bool) (d:Tmp) (T:TypeId) (len:Nat) (parts:List (Nat×Operand)):Option St:=do
 let ti<-cx.ti T
 let a<-slT ti.ty
 let g<-Le c ctx parts
 let f<-Sg a 0 g
 bif Nat.beq f.length len&&Nat.ble (len*a.size) 16777216&&Nat.ble 1 a.size then some (c.setS d (.cnd t b ⟨false,[.val (.sl a) f]⟩))else none
def EC (a:St) (d:Tmp) (x:Operand) (k:St->Prop):Prop:=match(a.ev [] x).bind c1 with
 |some (.box q 0)=>match a.L q with
  | .itM _ _ _ _ _ _ _ _=>fU a d q k
  | _=>False
 | _=>False
def C1z (all:List Oper) (d:Option Tmp):Bool:=all.any λp=>match p.op with
 | .call ⟨.builtin .append,a,_⟩=>(match a.toList,d with
  | .tmp t:: _,some d=>Nat.beq t d
  | _,_=>false)
 | _=>false
def C2j (T:TypeId) (l:List (Nat×TI)):List (Nat×TI):=match V3 T l with
 |some ti=>(T,{ti with rows:=false})::l
 |none=>l
def A2y (cx:Cx) (all:List Oper) (o:Oper):Cx:=match o.op with
 | .lookup T _ _ _=>bif C1z all o.dst then cx else⟨cx.P,C2j T cx.tys⟩
 | _=>cx
def Wv (cx:Cx) (sp:G1) (all:List Oper) (o:Oper) (k:St->Prop) (a:St):Prop:=
 match o.guard with
 |none=>match Vn (A2y cx all o) a [] o.op with
  |some (b,v)=>match o.dst with
   |some d=>cN b (k (a.setS d v))
   |none=>False
  |none=>match Zx cx a o.dst o.op with
   |some (c,b)=>cN c (k b)
   |none=>match o.op with
    | .store T p v=>match o.dst with
     |none=>match aI cx a T p v with
      |some (c,b)=>cN c (k b)
      |none=>False
     |some _=>False
    | .mapUpdate T m x y=>match o.dst with
     |none=>match PV cx a T m x y with
      |some b=>k b
      |none=>False
     |some _=>False
    | .insert T m x y=>match o.dst with
     |none=>match PV cx a T m x y with
      |some b=>k b
      |none=>False
     |some _=>False
    | .call ⟨.value f,b,_⟩=>match o.dst with
     |some d=>Um cx sp a d f b.toList k
     |none=>False
    | .next x str=>match o.dst with
     |some d=>bif str then False else EC a d x k
     |none=>False
    | .mapEntry T m x=>match o.dst with
     |some d=>match YI cx a d T m x with
      |some b=>k b
      |none=>False
     |none=>False
    | .entryStore _ m s y=>match o.dst with
     |none=>match XN a m s y with
      |some b=>k b
      |none=>False
     |some _=>False
    | .call ⟨.builtin .clear,b,c⟩=>match o.dst,b.toList,c.toList with
     |none,[x],[T]=>(match WZ cx a T x with
      |some b=>k b
      |none=>False)
     | _,_,_=>False
    |op=>match o.dst with
     |some d=>match B2k cx a d op with
      |some (c,b)=>cN c (k b)
      |none=>False
     |none=>False
 |some (j,b)=>match(all[j]?).bind (·.dst)with
  |some t=>bif Ol a 20 t then(match o.dst with
   |some d=>bif !(Nat.beq t d)then(match Vn cx a (gctx a 20 t b) o.op with
    |some (c, .one s)=>bif s.cs.all (B5t a.nx)then cN (B8e (ctxP a (gctx a 20 t b)) c) (k (a.setS d (.cnd t b s)))else False
    |some _=>False
    |none=>match o.op with
     | .call ⟨.value f,c,_⟩=>Rm cx sp a (gctx a 20 t b) t b d f c.toList k
     | .buildSlice T len c=>(match iT cx a (gctx a 20 t b) t b d T len c.toList with
      |some c=>k c
      |none=>False)
     | .load T x=>(match fL cx a (gctx a 20 t b) t b d T x with
      |some a=>k a
      |none=>False)
     | _=>False)else False
   |none=>False)else False
  |none=>False
def aB (cx:Cx) (sp:G1) (all:List Oper):List Oper->(St->Prop)->St->Prop
 | [],k=>k
 |o::r,k=>Wv cx sp all o (aB cx sp all r k)
section
variable {za:Zn} {w0 w w':World} {Z:Nat->Prop} {B:Nat->Value} {st:St} {E:G8} {cx:Cx} {sp:G1} {all:List Oper} {k:St->Prop}
def VA (h:C3 za w0 st E w Z B):∀ {n:Nat} {t:Tmp} {b:Bool},Ol st n t=true->E t≠ .bool b->¬ctxP st (gctx st n t b)
 |0,_,_,a,_=>by cases a
 |n+1,t,b,a,f=>by
  have c:=h.slots t;unfold Ol at a;unfold gctx;cases d:st.S t with
  |one v=>
   rw[d]at c a;simp only at a;obtain⟨e,g⟩:=zK.1 a;have k:=Rl c g;have i:gval st t=some e:=by unfold gval;rw[d];exact g
   intro j;obtain⟨rfl,_⟩:=(PG i).1 j;exact f k
  |cnd o l v=>
   rw[d]at c a;simp only[qC]at a;obtain⟨e,g⟩:=zK.1 a.1;have i:gval st t=some e:=by unfold gval;rw[d];exact g
   intro j;obtain⟨rfl,k⟩:=(PG i).1 j;rcases c with⟨_,c⟩ | ⟨c,_⟩
   . exact f (Rl c g)
   exact VA h a.2 c k
  |tup _=>rw[d]at a;cases a
  |dead=>rw[d]at a;cases a
def Ga (h:C3 za w0 st E w Z B) {ctx:Ia} (b:Q3 E ctx) {f:Operand} {args:List Operand} {g:FuncId} {ss:List SV} (a:Lx st ctx f args=some (g,ss)):
 ∃d:List Value,Gw.ev E f= .func (.func g) #[] d.toArray/\Nz w Z B ss (args.map (Gw.ev E)++d)/\∀s∈ss,Mp st.nx s:=by
 simp only[Lx,qH,bind_some]at a;obtain⟨l,⟨x,u,r⟩,z,v,a⟩:=a;have i:=h.c1 b (bind_some.2 ⟨x,u,r⟩);obtain⟨n,o⟩:=XO h b v;split at a
 . rename_i y j;cases c:j.all (λk=>Qf (st.L k))with
   |false=>simp[c]at a
   |true=>
    simp only[c,qS]at a;cases a;refine⟨j.map B,i.1,n.append (iZ h c),λs a=>?_⟩
    rcases qU.1 a with a|a
    . exact o s a
    obtain⟨k,t,rfl⟩:=tT.1 a;intro l b;simp at b;subst b;exact i.2 k t
 cases a
def C3.thaw (h:C3 za w0 st E w Z B) (k:Nat):∃Z',C3 za w0 (thaw st k) E w Z' B:=by
 unfold Vc.thaw;split
 . rename_i R e T Q al f;cases v:Nat.ble st.nm k with
   |false=>exact⟨Z,h⟩
   |true=>
    simp only[qS];have v:=qO v;have r:=h.locs k;rw[f]at r;have H:=r.rowsR;obtain⟨o,j,F,U,G⟩:=H;have s:∀ {i:Nat} {x:Value} {b:Nat},o[i]? =some x->root x=some b->B4 w (B k) (st.L k) b:=λd a=>by rw[f];exact Vr j d a
    have z:C3 za w0 (st.setL k .none) E w (λb=>Z b\/∃(i:Nat) (x:Value),o[i]? =some x/\root x=some b) B:=by
     refine(h.drop k).keep h.ext (qV _) (λ_ _=>rfl) (λ_=> .inl) (λb a=>?_);rcases a with a| ⟨i,x,d,a⟩
     . exact .inl a
     obtain⟨c,l,_⟩:=(h.locs k).root (s d a);refine .inr ⟨l,?_,λq g=>?_⟩
     . rcases c with c|c
       . exact c.2
       have:=h.nms.1;omega
     rw[St.L_setL]at g;by_cases n:q=k
     . rw[qR n]at g;exact g.elim
     rw[qL n]at g;exact h.disj q k b n g (s d a)
    have y:=E7 j;have A:=z.addL (k:=k) (lc:= .row (.sl R) e Q) (Fs h (by rw[f];trivial)) ⟨o,j,XI (by have:=j.1;omega) λi P x M d=>?_,λb a=>?_⟩ (λO b u a t=>?_) trivial (λb J a=>h.mrk.2 k b J (by rw[f];exact .inl a))
    . exact⟨_,A⟩
    . obtain⟨V,c,l⟩:=F i P x M d;exact Cv c (l.mono λ_ _=>C9.mono (λ_=> .inl) (λ_ _=>rfl)) (λb a=> .inr ⟨i,x,d,(E7 c).trans a⟩)
    . have I:B4 w (B k) (st.L k) b:=by rw[f];exact .inl (y.trans a)
      obtain⟨c,_,D⟩:=(h.locs k).root I;exact⟨c,λN=>N.elim D fun⟨i,x,d,hxb⟩=>G i x b d hxb (y.trans a)⟩
    rw[St.L_setL,qL u]at t;exact h.disj O k b u t (by rw[f];exact .inl a)
 exact⟨Z,h⟩
def C3.thawS (h:C3 za w0 st E w Z B) (s:SV):∃Z',C3 za w0 (thawS st s) E w Z' B:=by
 unfold Vc.thawS;split
 . exact h.thaw _
 exact⟨Z,h⟩
def C3.stillL (h:C3 za w0 st E w Z B) (cx:Cx):∀a:List Nat,∃Z',C3 za w0 (a.foldl (Vc.stillB cx) st) E w Z' B:=by
 intro a
 induction a generalizing st Z with
 |nil=>exact⟨Z,h⟩
 |cons k a b=>
  obtain⟨Z1,a⟩:=h.stillB cx k;exact b a
def C3.stillF (h:C3 za w0 st E w Z B) (cx:Cx):∀(as:List AM) (ss:List SV),∃Z',C3 za w0 (stillF cx st as ss) E w Z' B:=by
 intro as
 induction as generalizing st Z with
 |nil=>intro ss;exact⟨Z,h⟩
 |cons d as a=>
  intro ss;cases ss with
  |nil=>exact⟨Z,h⟩
  |cons s ss=>
   simp only[Vc.stillF];split
   . rename_i c _;obtain⟨Z1,b⟩:=h.stillL cx c;exact a b ss
   exact a h ss
def C3.settleA (h:C3 za w0 st E w Z B):∀ {as:List AM} {ss:List SV},∃Z',C3 za w0 (settleA st as ss) E w Z' B:=by
 intro as
 induction as generalizing st Z with
 |nil=>intro ss;exact⟨Z,h⟩
 |cons b as a=>
  intro ss;cases ss with
  |nil=>cases b<;>exact⟨Z,h⟩
  |cons s ss=>
   cases b with
   |val _ _=>obtain⟨Z1,c⟩:=h.settle s.cs;exact a c
   |row _ _=>obtain⟨Z1,c⟩:=h.thawS s;exact a c
   | _=>exact a h
def Us (st:St):∀(a:List Nat) (q:Nat),(dropM st a).L q=if q∈a then .none else st.L q:=by
 intro a
 induction a generalizing st with
 |nil=>intro q;simp[dropM]
 |cons k a b=>
  intro q;simp only[dropM,b,St.L_setL];by_cases b:q∈a
  . simp[b]
  by_cases a:q=k
  . simp[a]
  simp[b,a]
def XG (st:St):∀(a:List Nat),(dropM st a).nx=st.nx:=by
 intro a
 induction a generalizing st with
 |nil=>rfl
 |cons k a b=>simp only[dropM,b];rfl
def C3.dropM (h:C3 za w0 st E w Z B):∀a:List Nat,C3 za w0 (dropM st a) E w Z B:=by
 intro a
 induction a generalizing st with
 |nil=>exact h
 |cons k a b=>exact b (h.drop k)
def Zv {as:List AM} :∀ {ss:List SV} {vs:List Value} {mu:List Nat},Nz w Z B ss vs->Y7 as ss=some mu->(∀k∈mu,Qf (st.L k)=true->∃b,B k= .pointer (some ⟨b,0,none⟩))->D9 as vs=mu.map B:=by
 induction as with
 |nil=>
  intro ss vs mu c a _;cases ss with
  |nil=>cases a;rw[show vs= []from c];rfl
  |cons _ _=>cases a
 |cons h as g=>
  intro ss vs mu s a f;cases ss with
  |nil=>cases h<;>cases a
  |cons u ss=>
   obtain⟨v,x,e,c,d⟩:=s;subst e;cases h with
   |val _ _=>exact g d a f
   |fn _ _ _=>exact g d a f
   |row _ _=>
    simp only[Y7,bind_some,qK]at a;obtain⟨q,o,r,n,rfl⟩:=a;rw[Sn o]at c;obtain⟨_,_,i,j,_⟩:=c;cases i;simp only[D9,N0,qS,rW,g d n (λk l=>f k (by simp[l]))];rw[show v=B q from j]
   |rows _ _ _=>
    simp only[Y7,bind_some,qK]at a;obtain⟨q,o,r,n,rfl⟩:=a;rw[Sn o]at c;obtain⟨_,_,i,j,_⟩:=c;cases i;simp only[D9,N0,qS,rW,g d n (λk l=>f k (by simp[l]))];rw[show v=B q from j]
   |box _ _=>
    simp only[Y7,bind_some,qK]at a;obtain⟨q,r,t,o,rfl⟩:=a;rw[WX r]at c;obtain⟨_,_,i,⟨b,j,l⟩,_⟩:=c;cases i;simp only[D9,N0,qS,rW,g d o (λk n=>f k (by simp[n]))];rw[l,j]
def Jl:∀ {l:List Nat},IJ l=true->l.Nodup
 | [],_=>wT
 |k::l,h=>by
  simp only[IJ,qC,rN]at h;refine sP.2 ⟨λa=>?_,Jl h.2⟩;have:=zZ.1 h.1 k a;simp at this
def Bi {sh:Bool} {l:List Nat} :∀ {as:List AM} {ss:List SV} {k:A3 as->Prop} {mu:List Nat},O1 cx sp st l sh as ss k->Y7 as ss=some mu->∀q∈mu,live (st.L q)
 | [],[],_,mu,_,b=>by cases b;simp
 | [],_:: _,_,_,b,_=>b.elim
 |a::r,[],_,_,b,_=>by cases a<;>exact b.elim
 | .val a t::r,s::ss,k,mu,b,c=>by
  simp only[O1]at b;split at b
  . exact Bi b c
  exact b.elim
 | .row t i::r,s::ss,k,mu,b,d=>by
  simp only[O1]at b;simp only[Y7,bind_some,qK]at d;obtain⟨q,h,o,g,rfl⟩:=d;rw[h]at b;simp only at b;split at b
  . rename_i n f;obtain⟨_,b⟩:=C0 b;intro j c;rcases qW.1 c with rfl|c
    . rw[Jq f];trivial
    exact Bi b g j c
  exact b.elim
 | .box T u::s,t::ss,k,mu,b,d=>by
  simp only[O1]at b;simp only[Y7,bind_some,qK]at d;obtain⟨q,i,r,h,rfl⟩:=d;rw[i]at b;simp only at b;split at b
  . rename_i o g;obtain⟨_,b⟩:=C0 b;intro j c;rcases qW.1 c with rfl|c
    . obtain⟨n,f,_⟩:=Zg g;rw[f];trivial
    exact Bi b h j c
  exact b.elim
 | .fn d g f::r,s::ss,k,mu,b,c=>by
  simp only[O1]at b;split at b
  . split at b
    . obtain⟨_,b⟩:=C0 b;obtain⟨_,_,_,b⟩:=b;exact Bi b c
    exact b.elim
  . split at b
    . exact Bi b.2.2 c
    exact b.elim
  exact b.elim
 | .rows v n o::t,u::ss,k,mu,b,d=>by
  simp only[O1]at b;simp only[Y7,bind_some,qK]at d;obtain⟨q,i,s,h,rfl⟩:=d;rw[i]at b;simp only at b;split at b
  . rename_i r g;obtain⟨_,b⟩:=C0 b;intro j c;rcases qW.1 c with rfl|c
    . obtain⟨al,f⟩:=Ad g;rw[f];trivial
    exact Bi b h j c
  exact b.elim
def Mts (w:World) (B:Nat->Value) (st:St):List (AM×Value)->List Nat->Prop
 | [],[]=>True
 |p::a,q::qs=>(p.2=B q/\∀b,B4 w p.2 (lcA p.1) b->B4 w (B q) (st.L q) b)/\Mts w B st a qs
 | _,_=>False
def Eg {sh:Bool} {u:List Nat} (h:C3 za w0 st E w Z B):∀ {as:List AM} {ss:List SV} {vs:List Value} {k:A3 as->Prop} {mu:List Nat},Nz w Z B ss vs->O1 cx sp st u sh as ss k->Y7 as ss=some mu->Mts w B st (R1 as vs) mu
 | [],[],_,_,mu,c,_,b=>by cases b;rw[show _= _ from c];trivial
 | [],_:: _,_,_,_,_,b,_=>b.elim
 |a::r,[],_,_,_,_,b,_=>by cases a<;>exact b.elim
 | .val a t::r,s::ss,_,k,mu,⟨v,g,e,f,c⟩,b,d=>by
  subst e;simp only[O1]at b;split at b
  . exact Eg h (as:=r) c b d
  exact b.elim
 | .row A s::y,z::ss,_,k,mu,⟨v,D,e,d,j⟩,b,f=>by
  subst e;simp only[O1]at b;simp only[Y7,bind_some,qK]at f;obtain⟨q,g,x,o,rfl⟩:=f;rw[g]at b;simp only at b;split at b
  . rename_i t n;obtain⟨_,b⟩:=C0 b;rw[Sn g]at d;obtain⟨_,_,i,c,_⟩:=d;cases i;have c:v=B q:=c;exact⟨⟨c,λr l=>by rw[Jq n];rw[<-c];exact l⟩,Eg h j b o⟩
  exact b.elim
 | .box T D::z,A::ss,_,k,mu,⟨F,G,e,f,n⟩,b,g=>by
  subst e;simp only[O1]at b;simp only[Y7,bind_some,qK]at g;obtain⟨q,i,y,t,rfl⟩:=g;rw[i]at b;simp only at b;split at b
  . rename_i x s;obtain⟨_,b⟩:=C0 b;rw[WX i]at f;obtain⟨_,_,l,⟨j,c,d⟩,_⟩:=f;cases l;obtain⟨v,r,_⟩:=Zg s;exact⟨⟨d.trans c.symm,λj o=>by rw[r];rw[c, <-d];exact o⟩,Eg h n b t⟩
  exact b.elim
 | .rows D t d::z,A::ss,_,k,mu,⟨v,F,e,f,j⟩,b,g=>by
  subst e;simp only[O1]at b;simp only[Y7,bind_some,qK]at g;obtain⟨q,i,y,r,rfl⟩:=g;rw[i]at b;simp only at b;split at b
  . rename_i x o;obtain⟨_,b⟩:=C0 b;rw[Sn i]at f;obtain⟨_,_,d,c,_⟩:=f;cases d;have c:v=B q:=c;obtain⟨al,l⟩:=Ad o;exact⟨⟨c,λs n=>by rw[l, <-c];exact(W5 λ_ _=>rfl).1 n⟩,Eg h j b r⟩
  exact b.elim
 | .fn f j i::r,s::ss,_,k,mu,⟨v,l,e,g,c⟩,b,d=>by
  subst e;simp only[O1]at b;split at b
  . split at b
    . obtain⟨_,b⟩:=C0 b;obtain⟨_,_,_,b⟩:=b;exact Eg h (as:=r) c b d
    exact b.elim
  . split at b
    . exact Eg h (as:=r) c b.2.2 d
    exact b.elim
  exact b.elim
def Mts.mem:∀ {c:List (AM×Value)} {mu:List Nat} {p:AM×Value},Mts w B st c mu->p∈c->∃q∈mu,∀b,B4 w p.2 (lcA p.1) b->B4 w (B q) (st.L q) b
 | _:: _,_:: _,_,⟨d,f⟩,a=>by
  rcases qW.1 a with rfl|a
  . exact⟨_,by simp,d.2⟩
  obtain⟨q,g,h⟩:=Mts.mem f a;exact⟨q,by simp[g],h⟩
def B2f (h:C3 za w0 st E w Z B):∀ {a:List (AM×Value)} {mu:List Nat},mu.Nodup->Mts w B st a mu->Dis w a
 | [],_,_,_=>trivial
 | _:: _,q::mu,a,⟨d,c⟩=>by
  rw[sP]at a;refine⟨λb f i j g=>?_,B2f h a.2 c⟩;obtain⟨l,k,i⟩:=c.mem j;exact h.disj q l b (λe=>a.1 (e▸k)) (d.2 b f) (i b g)
def Y6.transM {m d:Nat->Prop} {a b c:World} (h:Y6 m a b) (k:Y6 d b c) (l:∀q,d q->a.heap.size<=q\/m q):Y6 m a c:=
 ⟨k.os.trans h.os,k.tape.trans h.tape,k.output.trans h.output,qX h.size k.size,λi d f=>(k.block i (rJ d h.size) (λj=>by rcases l i j with g|g;exact absurd d ω;exact f g)).trans (h.block i d f),trivial⟩
def B7e {c:St} {Zn Z':Nat->Prop} {B':Nat->Value} (l:C3 za w0 c E w Z B) (z:∀k,k<c.nx->B' k=B k) (O:∀b,Zn b->Z' b) (N:∀k b,B4 w (B k) (c.L k) b->¬Z' b) (a3:w.heap.size<=w'.heap.size):
 ∀ {as:List AM} {vs:List Value} {o:Od as} {mu:List Nat} {i:St},C3 za w0 i E w' Z' B'->c.nx<=i.nx->mu.Nodup->(∀q∈mu,live (c.L q))->D9 as vs=mu.map B->Mts w B c (R1 as vs) mu->Xr w w' Zn as vs o->(∀j b,B4 w' (B' j) (i.L j) b->w.heap.size<=b\/(j<c.nx/\B4 w (B j) (c.L j) b/\j∉mu))->
  C3 za w0 (addM as o mu i) E w' Z' B'/\(addM as o mu i).nx=i.nx:=by
 intro as
 induction as with
 |nil=>intro vs o mu i a h g d s f n r;cases mu<;>exact⟨a,rfl⟩
 |cons Q as P=>
  intro vs o mu i I G v n a x f t;cases vs with
  |nil=>cases Q<;>exact f.elim
  |cons X vs=>
   have step:∀(k:Nat) (g:List Nat) (lc:LC) (H:Od as),(k::g).Nodup->(∀q∈k::g,live (c.L q))->D9 as vs=g.map B->Mts w B c (R1 as vs) g->Xr w w' Zn as vs H->(∀b,B4 w' (B' k) lc b->B4 w (B k) (c.L k) b)->RL (up za w0 k) w' Z' B' k lc->AQ i.nx lc->(∀j b,B4 w' (B' j) (i.L j) b->w.heap.size<=b\/(j<c.nx/\B4 w (B j) (c.L j) b/\j∉k::g))->
    C3 za w0 (addM as H g (i.setL k lc)) E w' Z' B'/\(addM as H g (i.setL k lc)).nx=i.nx:=λk g lc H v n a x f M a2 a1 t=>by
    have h:=n k (by simp);have s:k<c.nx:=Fs l h;rw[sP]at v;have Y:=I.addL (k:=k) (lc:=lc) (rJ s G) a2 (λj b F d y=>by
     have d:=M b d;rcases t j b y with R| ⟨r,u,D⟩
     . have:=((l.locs k).root d).2.1;omega
     exact l.disj j k b F u d) a1 (λb J d=>l.mrk.2 k b J (M b d))
    refine P Y G v.2 (λq t=>n q (by simp[t])) a x f (λj b y=>?_);rw[St.L_setL]at y;by_cases F:j=k
    . subst F;rw[qR rfl]at y;exact .inr ⟨s,M b y,v.1⟩
    rw[qL F]at y;exact(t j b y).imp id fun⟨r,u,D⟩=>⟨r,u,λA=>D (by simp[A])⟩
   cases Q with
   |val _ _=>exact P I G v n a x f t
   |fn _ _ _=>exact P I G v n a x f t
   |row U e=>
    cases mu with
    |nil=>simp[D9,N0]at a
    |cons k g=>
     simp only[D9,N0,qS,rW,sJ]at a;obtain⟨⟨V,r,u⟩,f⟩:=f;have h:=n k (by simp);have s:k<c.nx:=Fs l h;have J:B' k=X:=by rw[z k s,a.1]
     refine step k g (.row U e o.1) o.2 v n a.2 x.2 f (λb A=>B4.of h (by rw[<-z k s];exact A)) ⟨V,by rw[J];exact r,u.mono λ_ _=>C9.mono O (λ_ _=>rfl),λb d=>?_⟩ trivial t;rw[J]at d;have R:root (B k)=some b:=by rw[<-a.1,E7 r];exact d
     exact⟨((l.locs k).root (B4.of h R)).1,N k b (B4.of h R)⟩
   |box T U=>
    cases mu with
    |nil=>simp[D9,N0]at a
    |cons k g=>
     simp only[D9,N0,qS,rW,sJ]at a;obtain⟨⟨b,V,r,u,D⟩,f⟩:=f;have h:=n k (by simp);have s:k<c.nx:=Fs l h;have R:B' k= .pointer (some ⟨b,0,none⟩):=by rw[z k s, <-a.1,r]
     have J:root (B k)=some b:=by rw[<-a.1,r];rfl
     exact step k g (.box T (explode U o.1)) o.2 v n a.2 x.2 f (λb A=>B4.of h (by rw[<-z k s];exact A)) ⟨b,V,R,((l.locs k).root (B4.of h J)).1,N k b (B4.of h J),u,O7 (D.mono O (λ_ _=>rfl))⟩ F3 t
   |rows W e R=>
    cases mu with
    |nil=>simp[D9,N0]at a
    |cons k g=>
     simp only[D9,N0,qS,rW,sJ]at a;obtain⟨⟨r,u⟩,f⟩:=f;have h:=n k (by simp);have s:k<c.nx:=Fs l h;have U:B' k=X:=by rw[z k s,a.1]
     have V:∀b,B4 w' (B' k) (.rows W e R o.1 [] none) b->B4 w (B k) (c.L k) b:=λb d=>by
      rw[U]at d;exact x.1.2 b (u b ((W5 λ_ _=>rfl).1 d))
     refine step k g (.rows W e R o.1 [] none) o.2 v n a.2 x.2 f V (Ct.rl (by rw[U];exact r.mono O) λb d=>?_) (λp a0=>by cases a0) t;have J:=V b d;exact⟨((l.locs k).root J).1,N k b J,rJ ((l.locs k).root J).2.1 a3⟩
def B1b (P:Program) (g:FuncId) (s:A8) (vs:List Value) (w:World) (Z:Nat->Prop) (x:A3 s.args):Prop:=
 Gw.cD P g vs w λv w'=>Y6 (YQ w s.args vs) w w'/\∃(r:Br s.res) (o:Od s.args) (a:List Value) (Zn:Nat->Prop),s.post x r/\(Q7 s.args=true->s.mpost x r o)/\v=BB a/\(∀b,Zn b->(w.heap.size<=b/\b<w'.heap.size)\/(s.shared=true/\Z b))/\Oj w.heap.size w' Zn s.res a r/\Xr w w' Zn s.args vs o
def PC (h:C3 za w0 st E w Z B) {s:A8} {x:A3 s.args} {vs:List Value} {g:FuncId} {mu:List Nat} (Y:B1b cx.P g s vs w (lz w st mu B Z s.shared) x) (V:D9 s.args vs=mu.map B) (H:Mts w B st (R1 s.args vs) mu) (W:mu.Nodup) (U:∀q∈mu,live (st.L q)):
 Gw.cD cx.P g vs w λv w'=>Y6 (YQ w s.args vs) w w'/\∃r o us,rwf s.res r/\owf s.args o/\s.post x r/\(Q7 s.args=true->s.mpost x r o)/\v=BB us/\∃Z' B',C3 za w0 (addM s.args o mu (G2 s.res r (dropM st mu)).2) E w' Z' B'/\Nz w' Z' B' (G2 s.res r (dropM st mu)).1 us/\(∀q∈(G2 s.res r (dropM st mu)).1,Mp (addM s.args o mu (G2 s.res r (dropM st mu)).2).nx q):=by
 refine Gw.cD.mono Y λv w' ⟨n,r,o,us,Zn,hpost,hmpost,hv,hzn,hrep,hro⟩=>?_
 have F:∀b,YQ w s.args vs b->∃q∈mu,B4 w (B q) (st.L q) b:=λb ⟨u,hu,a⟩=>by
  obtain⟨q,d,f⟩:=H.mem hu;exact⟨q,d,f b a⟩
 have I:∀b,Zn b->Z b\/(w.heap.size<=b/\b<w'.heap.size):=λb a=>by
  rcases hzn b a with a| ⟨f,a⟩
  . exact .inr a
  rcases a with a| ⟨t,_⟩
  . exact .inl a
  rw[f]at t;cases t
 have R:C3 za w0 (dropM st mu) E w' (λb=>Z b\/Zn b) B:=by
  refine(h.dropM mu).keep (h.ext.transM n λb a=>?_) n.size (λb a=>n.block b ?_ ?_) (λ_=> .inl) (λb a=>?_)
  . obtain⟨q,d,y⟩:=F b a;exact((h.locs q).root y).1.m
  . rcases a with a| ⟨k,f⟩
    . exact h.zlt b a
    rw[Us]at f;split at f
    . exact f.elim
    exact((h.locs k).root f).2.1
  . intro D;obtain⟨q,d,y⟩:=F b D;rcases a with a| ⟨k,f⟩
    . exact((h.locs q).root y).2.2 a
    rw[Us]at f;split at f
    . exact f.elim
    rename_i T;exact h.disj k q b (λe=>T (e▸d)) f y
  rcases a with a|a
  . exact .inl a
  rcases I b a with a|a
  . exact .inl a
  refine .inr ⟨a.2,qX h.ext.size a.1,λk f=>?_⟩;rw[Us]at f;split at f
  . exact f.elim
  have:=((h.locs k).root f).2.1;omega
 have A:∀j b,B4 w' (B j) ((Vc.dropM st mu).L j) b->B4 w (B j) ((Vc.dropM st mu).L j) b:=λj b t=>(B4.iff λc hc=>n.block c ((((h.dropM mu).locs j).root hc).2.1) λD=>by
  obtain⟨q,d,y⟩:=F c D;rw[Us]at hc;split at hc
  . exact hc.elim
  rename_i f;exact h.disj j q c (λe=>f (e▸d)) hc y).1 t
 obtain⟨B',J,M,N,z,G,O,Q⟩:=C3.place R h.ext.size h.mrk.1 (λ_=> .inr) (λb a i=>by
  rcases i with i|i
  . have:=h.zlt b i;omega
  exact i) (λb a q d=>by
  have d:=A q b d;rw[Us]at d;split at d
  . exact d.elim
  . have:=((h.locs q).root d).2.1;omega) (λ_ b a q d=>by
  have d:=A q b d;rw[Us]at d;split at d
  . exact d.elim
  have:=((h.locs q).root d).2.1;omega) hrep
 rw[XG]at z G;have X:∀j b,B4 w' (B' j) ((G2 s.res r (dropM st mu)).2.L j) b->w.heap.size<=b\/(j<st.nx/\B4 w (B j) (st.L j) b/\j∉mu):=λj b l=>by
  by_cases f:j<st.nx
  . have:=O j (by rw[XG];exact f);rw[this,z j f]at l;have l:=A j b l;rw[Us]at l;split at l
    . exact l.elim
    rename_i y;exact .inr ⟨f,l,y⟩
  exact .inl (Q j b (by rw[XG];omega) l)
 obtain⟨a0,a1⟩:=B7e (Z':=λb=>Z b\/Zn b) h z (λ_=> .inr) (λk b a i=>by
  rcases i with i|i
  . exact((h.locs k).root a).2.2 i
  have f:=(h.locs k).root a;rcases I b i with i|i
  . exact f.2.2 i
  omega) n.size J G W U V H hro X
 exact⟨n,r,o,us,hrep.rwf,hro.owf,hpost,hmpost,hv,_,B',a0,M,λq d=>by rw[a1];exact N q d⟩
def CZ (h:C3 za w0 st E w Z B) {s:A8} {x:A3 s.args} {vs:List Value} {g:FuncId} {mu:List Nat} (d:B7 cx.P g s) (j:Z9 cx.P w (lz w st mu B Z s.shared) s.args vs x) (f:D9 s.args vs=mu.map B) (a:Mts w B st (R1 s.args vs) mu) (b:mu.Nodup) (c:∀q∈mu,live (st.L q)) (i:s.pre x):
 Gw.cD cx.P g vs w λv w'=>Y6 (YQ w s.args vs) w w'/\∃r o us,rwf s.res r/\owf s.args o/\s.post x r/\(Q7 s.args=true->s.mpost x r o)/\v=BB us/\∃Z' B',C3 za w0 (addM s.args o mu (G2 s.res r (dropM st mu)).2) E w' Z' B'/\Nz w' Z' B' (G2 s.res r (dropM st mu)).1 us/\(∀q∈(G2 s.res r (dropM st mu)).1,Mp (addM s.args o mu (G2 s.res r (dropM st mu)).2).nx q):=
 PC h (d w _ vs x (B4c h) j (B2f h b a) i) f a b c
variable {d:Tmp} {ty:TypeId} {pos:String} {aft:Array Edge} {gd:Option (Nat×Bool)}
def ZM (h:C3 za w0 st E w Z B) {sh:Bool} :∀ {as:List (Bool×Ty)} {ss:List SV} {vs:List Value} {y:Z4 as},Nz w Z B ss vs->pS st sh as ss=some y->VY w (lz w st [] B Z sh) as vs y
 | [],[],vs,_,a,_=>a
 | [],_:: _,_,_,_,a=>by cases a
 | (b,t)::r,[],_,_,_,a=>by cases a
 | (i,t)::r,s::ss,_,x,⟨v,g,e,b,c⟩,a=>by
  simp only[pS,bind_some,qK]at a;obtain⟨y,d,z,f,rfl⟩:=a;exact⟨v,g,e,ZN h b d,ZM h c f⟩
def WY (h:C3 za w0 st E w Z B) (t:Lw cx.P sp) {g:FuncId} {s:A8} {ss:List SV} {f:Operand} {args:List Operand} {ts:Array TypeId} {vs:List Value} (y:Gw.A1g cx.P E ty (.call ⟨.value f,args.toArray,ts⟩) w g vs) (l:Nz w Z B ss vs) (z:V3 g sp=some s) (a:Zh cx sp st d s ss k) (A:E1 all ⟨some d, .call ⟨.value f,args.toArray,ts⟩,ty,pos,aft,gd⟩ E=true):
 K4 cx.P all ⟨some d, .call ⟨.value f,args.toArray,ts⟩,ty,pos,aft,gd⟩ (λE' w'=>Y6 (YQ w s.args vs) w w'/\eC za w0 w (Q7 s.args) k E' w') E w:=by
 unfold Zh at a;split at a
 . rename_i G j;obtain⟨r,a⟩:=C0 a;have r:=Jl r;have M:∀k∈G,Qf (st.L k)=true->∃b,B k= .pointer (some ⟨b,0,none⟩):=λk _ hk=>by
    have c:=h.locs k;cases n:st.L k<;>rw[n]at hk c<;>try (cases hk)
    . obtain⟨b,_,e,_⟩:=c;exact⟨b,e⟩
    obtain⟨rfl,_,b,e⟩:=c;exact⟨b,e⟩
   have u:=Zv l j M;cases i:Q7 s.args with
   |true=>
    simp only[i,qS]at a;have x:=Bi a j;have F:=Eg h l a j;obtain⟨W,N,J,a⟩:=Ew h t l a;refine AX y (CZ h (t g s z).1 N u F r x J) A ?_;rintro V w' ⟨Q,T,R,U,O,H,I,D,rfl,Z',B',c,n,o⟩;exact⟨Q,λv=>(by cases v),_,_,_,c.setS d (aT n _) (XH o),a T R O H I (D i)⟩
   |false=>
    simp only[i,rI]at a;have N:=Bi a j;have Q:=Eg h l a j;obtain⟨a4,U,T,V⟩:=Ew h t l a;have O:G= []:=by
     have:=fV i vs;rw[u]at this;simpa using this
    subst O;refine AX y (CZ h (t g s z).1 U u Q r N T) A ?_;rintro a3 w' ⟨D,X,o,a2,W,a0,R,Y,rfl,Z',B',v,I,x⟩;have J:∀(as:List AM) (o:Od as) (n:St),Q7 as=false->addM as o [] n=n:=by
     intro as
     induction as with
     |nil=>intros;rfl
     |cons H as F=>
      intro o n c;simp only[Q7,yH,rE]at c;cases H with
      |val _ _=>exact F o n c.2
      |fn _ _ _=>exact F o n c.2
      |row _ _=>cases c.1
      |box _ _=>cases c.1
      |rows _ _ _=>cases c.1
    rw[J _ _ _ i]at v x;refine⟨D,λ_=>D.ext (λb ⟨a1,hu,_⟩=>by rw[YV i]at hu;cases hu),_,_,_,v.setS d (aT I _) (XH x),V X W R⟩
 exact a.elim
def eI (h:C3 za w0 st E w Z B) (r:Lw cx.P sp) {g:FuncId} {s:A8} {ss:List SV} {f:Operand} {args:List Operand} {ts:Array TypeId} {a:List Value} (c:Gw.ev E f= .func (.func g) #[] a.toArray) (n:Nz w Z B ss (args.map (Gw.ev E)++a)) (i:V3 g sp=some s) (b:Gq cx.P g=true) (o:Zh cx sp st d s ss k) (j:E1 all ⟨some d, .call ⟨.value f,args.toArray,ts⟩,ty,pos,aft,gd⟩ E=true):
 K4 cx.P all ⟨some d, .call ⟨.value f,args.toArray,ts⟩,ty,pos,aft,gd⟩ (eC za w0 w (Q7 s.args) k) E w:=by
 exact J3 (λ_ _ l=>l.2) (WY h r (Ed c b rfl) n i o j)
def A2d (h:C3 za w0 st E w Z B) (G:Lw cx.P sp) {f:Operand} {args:List Operand} {ts:Array TypeId} (l:za.b0=0\/C3e sp st (.call ⟨.value f,args.toArray,ts⟩)=false) (g:Um cx sp st d f args k) (y:E1 all ⟨some d, .call ⟨.value f,args.toArray,ts⟩,ty,pos,aft,none⟩ E=true):
 K4 cx.P all ⟨some d, .call ⟨.value f,args.toArray,ts⟩,ty,pos,aft,none⟩ (eC za w0 w (cA sp st ⟨some d, .call ⟨.value f,args.toArray,ts⟩,ty,pos,aft,none⟩) k) E w:=by
 unfold Um at g;split at g
 . rename_i P' as D H ah Q a2;split at g
   . rename_i ss a8;split at g
     . rename_i I ab;obtain⟨rfl,a4,g⟩:=g;obtain⟨M,ad,n,u,a1⟩:=(h.c1 (F2 E) a2).1;have r:=(XO h (F2 E) a8).1;have a5:=ZM h r ab;refine AX (Ed n u rfl) (a1 w _ _ I (λ_ _=>rfl) h.zlt (B4c h) a5 a4) y ?_;rintro ac w' ⟨A,Zn,Y,z⟩;cases N:Mb H with
       |true=>
        have h1:=h.more (Z':=Z) A (λ_=>id) (λ_=> .inl);exact⟨λ_=>A,_,_,_,h1.setS d (x:= .one ⟨D,explode H (Q I)⟩) (Bl.explode (a:=D) (U9.mono (λ_ _=>C9.flat N) z)) F3,g (U9.wf' (λ_ _=>C9.wf) z)⟩
       |false=>
        have v:∀b,Zn b->(w.heap.size<=b/\b<w'.heap.size)\/Z b:=λb hb=>by
         rcases Y b hb with h1|h1|h1
         . exact .inl h1
         . exact .inr h1
         rcases h1 with h1| ⟨h1,_⟩
         . exact .inr h1
         rw[N]at h1;cases h1
        have h1:=h.more (Z':=λb=>Z b\/Zn b) A (λ_=> .inl) (λb hb=>hb.elim .inl (λhb=>(v b hb).symm));exact⟨λ_=>A,_,_,_,h1.setS d (x:= .one ⟨D,explode H (Q I)⟩) (Bl.explode (a:=D) (U9.mono (λ_ _=>C9.mono (λ_=> .inr) (λ_ _=>rfl)) z)) F3,g (U9.wf' (λ_ _=>C9.wf) z)⟩
     exact g.elim
   exact g.elim
 rename_i af;split at g
 . rename_i M ss c;split at g
   . rename_i s t;obtain⟨u,g⟩:=C0 g;have aa:cA sp st ⟨some d, .call ⟨.value f,args.toArray,ts⟩,ty,pos,aft,none⟩=false->Q7 s.args=false:=λo=>by
      simp only[cA,rE]at o;have v:=o.2;simp only[VK]at v;simp only[Lx,qH,bind_some]at c;obtain⟨R,a0,F,ae,c⟩:=c;rw[show(st.ev [] f).bind c1=some R from bind_some.2 a0]at v;split at c
      . rename_i a7 ag;obtain⟨_,c⟩:=E6 c;cases c;simp only[t,rE]at v;exact v.2
      cases c
     have a3:∀j,s.inl=some j->za.b0=0:=λj i=>by
      rcases l with l|l
      . exact l
      simp only[Lx,qH,bind_some]at c;obtain⟨v,R,F,a7,c⟩:=c;simp only[C3e]at l;rw[show(st.ev [] f).bind c1=some v from bind_some.2 R]at l;split at c
      . rename_i a0 ae;obtain⟨_,c⟩:=E6 c;cases c;simp only[t,i]at l;cases l
      cases c
     have a9:∀j,s.inl=some j->cA sp st ⟨some d, .call ⟨.value f,args.toArray,ts⟩,ty,pos,aft,none⟩=true:=λj i=>by
      simp only[cA,VK];simp only[Lx,qH,bind_some]at c;obtain⟨v,R,F,a7,c⟩:=c;rw[show(st.ev [] f).bind c1=some v from bind_some.2 R];split at c
      . rename_i a0 ae;obtain⟨_,c⟩:=E6 c;cases c;simp only[t,i,Option.isSome_some,g2d,g4f]
      cases c
     split at g
     . rename_i j i;replace i:=(Option.filter_eq_some_iff.1 i).1;obtain⟨J,n,r,a6⟩:=Ga h (F2 E) c;refine AX (Ed n u rfl) (((G M s t).2 j i).go (a3 j i) h r a6 g) y ?_;rintro ac w' ⟨ai,Z',B',F,aj,T,U,V,W,X⟩;subst U;exact⟨λo=>(by rw[a9 j i]at o;cases o),_,_,_,T.setS d (aT V _) (XH W),X⟩
     have conv:∀ {E':G8} {w':World},eC za w0 w (Q7 s.args) k E' w'->eC za w0 w (cA sp st ⟨some d, .call ⟨.value f,args.toArray,ts⟩,ty,pos,aft,none⟩) k E' w':=fun⟨a,b⟩=>⟨λo=>a (aa o),b⟩
     cases O:s.shared with
     |true=>
      simp only[O,qS]at g;obtain⟨Z0,v⟩:=h.stillF cx s.args ss;obtain⟨Z1,h1⟩:=v.settleA (as:=s.args) (ss:=ss);split at g
      . rename_i ae F R;obtain⟨a0,a7⟩:=C0 g;have:=qD a0;subst this;obtain⟨J,n,r,_⟩:=Ga h1 (F2 E) R;exact J3 (λ_ _=>conv) (eI h1 G n r t u a7 y)
      exact g.elim
     |false=>
      simp only[O,rI]at g;obtain⟨J,n,r,_⟩:=Ga h (F2 E) c;exact J3 (λ_ _=>conv) (eI h G n r t u g y)
   exact g.elim
 exact g.elim
def Dj {sh:Bool} {mu:List Nat} :∀ {as:List AM} {ss:List SV} {k:A3 as->Prop},O1 cx sp st mu sh as ss k->∃x,k x
 | [],[],_,h=>⟨_,h⟩
 | [],_:: _,_,h=>h.elim
 |a::r,[],_,h=>by cases a<;>exact h.elim
 | .val a t::r,s::ss,_,h=>by
  simp only[O1]at h;split at h
  . obtain⟨y,b⟩:=Dj h;exact⟨_,b⟩
  exact h.elim
 | .row t c::r,s::ss,_,h=>by
  simp only[O1]at h;split at h
  . split at h
    . obtain⟨_,h⟩:=C0 h;obtain⟨y,b⟩:=Dj h;exact⟨_,b⟩
    exact h.elim
  exact h.elim
 | .box t c::r,s::ss,_,h=>by
  simp only[O1]at h;split at h
  . split at h
    . obtain⟨_,h⟩:=C0 h;obtain⟨y,b⟩:=Dj h;exact⟨_,b⟩
    exact h.elim
  exact h.elim
 | .rows t c d::r,s::ss,_,h=>by
  simp only[O1]at h;split at h
  . split at h
    . obtain⟨_,h⟩:=C0 h;obtain⟨y,b⟩:=Dj h;exact⟨_,b⟩
    exact h.elim
  exact h.elim
 | .fn c i g::r,s::ss,_,h=>by
  simp only[O1]at h;split at h
  . split at h
    . obtain⟨_,h⟩:=C0 h;obtain⟨f,j,d,h⟩:=h;obtain⟨y,b⟩:=Dj h;exact⟨_,b⟩
    exact h.elim
  . split at h
    . obtain⟨y,b⟩:=Dj h.2.2;exact⟨_,b⟩
    exact h.elim
  exact h.elim
def Zy:∀ {rs:List RT} {r:Br rs} {st:St},Ic rs=true->(G2 rs r st).2=st
 | [],_,_,_=>rfl
 | .val a t::rs,r,st,h=>by
  simp only[Ic,Bn,qC]at h;exact Zy (rs:=rs) h.2
 | .own _ _:: _,_,_,h=>by simp[Ic,Bn]at h
 | .obox _ _:: _,_,_,h=>by simp[Ic,Bn]at h
 | .rows _ _ _:: _,_,_,h=>by simp[Ic,Bn]at h
def A8a (h:C3 za w0 st E w Z B) (a5:G7 cx.P cx.tys=true) {t:Tmp} {b:Bool} {j:Nat} {T:TypeId} {len:Nat} {parts:List (Nat×Operand)} {I:St} (F:(all[j]?).bind (·.dst)=some t) (ae:Ol st 20 t=true) (H:t≠d) (i:iT cx st (gctx st 20 t b) t b d T len parts=some I) (G:k I):
 K4 cx.P all ⟨some d, .buildSlice T len parts.toArray,ty,pos,aft,some (j,b)⟩ (eC za w0 w false k) E w:=by
 simp only[iT,qH,bind_some]at i;obtain⟨ti,a4,l,v,aj,a0,r,a6,i⟩:=i;have v:=Jy v;obtain⟨g,i⟩:=E6 i;cases i;simp only[qC]at g;by_cases o:E t= .bool b
 . have U:=h.gctx (n:=20) o;obtain⟨ai,ab,ag,W,a8,af,ah,aa,A,a3⟩:=Gt (B9 a5 a4) v;obtain⟨O,ad⟩:=Ma h U a0;obtain⟨J,M,N,z⟩:=Vl O a6;have s:=qD g.1.1;have a9:Fq cx.P ti.elem=some ab:=by simp[Fq,W,a8]
   obtain⟨f,D,a7⟩:=Ra (w:=w) (ty:=ty) (len:=len) _ a3 a9 (qO g.1.2) (qO g.2) aa J M (by rw[tG, <-N,s]);have y:R5 w (w.alloc (.cells f ti.elem)):=R5.alloc w _;have Q:=h.more (Z':=λc=>Z c\/c=w.heap.size) y (λ_=> .inl) (λc a=>a.imp id (λa=>by subst a;exact⟨qV _,by simp⟩));have a2:O6 Z w (w.alloc (.cells f ti.elem)):=λb A=>y.block b (h.zlt b A)
   have u:f.toList.length=len*l.size:=by rw[D,G5.length (λ_ _ h=>C9.length h) z,s]
   have Y:(w.alloc (.cells f ti.elem)).ownsRow w0.heap.size ti.elem l.size (.slice (some ⟨w.heap.size,0,none⟩) len len) r.length f.toList:=by
    rw[s];refine⟨u, .inr ⟨w.heap.size,len,f,rfl,h.ext.size,Fz w _ _,qV _,?_,by simpa using u,by rw[<-u,vD]⟩⟩;have V:=qO g.1.2;have R:=qO g.2;have:len*1<=len*l.size:=sI _ R;simp only[maxLen];omega
   have a1:C9 (.sl l) (w.alloc (.cells f ti.elem)) (λc=>Z c\/c=w.heap.size) [.slice (some ⟨w.heap.size,0,none⟩) len len] r:=
    Cv Y (by rw[D];exact z.mono λ_ _=>C9.mono (λ_=> .inl) a2) (λc a=>by simp only[Value.ownBlock,rF]at a;exact .inr a.symm)
   refine S4 a7 (MH F o) ⟨λ_=>y,_,_,_,Q.setS d (x:= .cnd t b ⟨false,[.val (.sl l) r]⟩) (.inl ⟨?_,⟨_,[],rfl,a1,rfl⟩⟩) (λc a=>by simp at a;subst a;trivial),G⟩;rw[C5 _ _ _ _ H];exact o
 have X:E1 all ⟨some d, .buildSlice T len parts.toArray,ty,pos,aft,some (j,b)⟩ E=false:=by
  unfold E1 Bc;simp only[F];cases R:E t with
  |bool ac=>simp only[vC,g4q,rF];intro V;exact o (by rw[R,V])
  | _=>rfl
 refine Ng X ⟨λ_=>R5.refl w,_,_,_,h.setS d (x:= .cnd t b ⟨false,[.val (.sl l) r]⟩) (.inr ⟨?_,rfl⟩) (λc a=>by simp at a;subst a;trivial),G⟩;rw[C5 _ _ _ _ H];exact o
def nA (h:C3 za w0 st E w Z B) (a0:Lw cx.P sp) {t:Tmp} {b:Bool} {j:Nat} {f:Operand} {args:List Operand} {ts:Array TypeId} (G:(all[j]?).bind (·.dst)=some t) (a8:Ol st 20 t=true) (D:t≠d) (g:Rm cx sp st (gctx st 20 t b) t b d f args k):
 K4 cx.P all ⟨some d, .call ⟨.value f,args.toArray,ts⟩,ty,pos,aft,some (j,b)⟩ (eC za w0 w (cA sp st ⟨some d, .call ⟨.value f,args.toArray,ts⟩,ty,pos,aft,some (j,b)⟩) k) E w:=by
 unfold Rm at g;split at g
 . rename_i P' as a1 r bk ah au;split at g
   . rename_i be b7;split at g
     . rename_i a6 b9;obtain⟨rfl,b1,g⟩:=g;by_cases i:E t= .bool b
       . have y:=h.gctx (n:=20) i;have W:=h.ctxP y;obtain⟨U,bg,J,s,ar⟩:=(h.c1 y au).1;have z:=(XO h y b7).1;have X:=ZM h z b9;refine AX (Ed J s rfl) (ar w _ _ a6 (λ_ _=>rfl) h.zlt (B4c h) X (b1 W)) (MH G i) ?_;rintro ag w' ⟨v,Zn,ao,Y⟩;have T:=g (λ_=>U9.wf' (λ_ _=>C9.wf) Y);cases aj:Mb r with
         |true=>
          have h1:=h.more (Z':=Z) v (λ_=>id) (λ_=> .inl);refine⟨λ_=>v,_,_,_,h1.setS d (x:= .cnd t b ⟨a1,explode r (ah a6)⟩) (.inl ⟨?_,Bl.explode (a:=a1) (U9.mono (λ_ _=>C9.flat aj) Y)⟩) F3,T⟩;rw[C5 _ _ _ _ D];exact i
         |false=>
          have u:∀b,Zn b->(w.heap.size<=b/\b<w'.heap.size)\/Z b:=λb hb=>by
           rcases ao b hb with h1|h1|h1
           . exact .inl h1
           . exact .inr h1
           rcases h1 with h1| ⟨h1,_⟩
           . exact .inr h1
           rw[aj]at h1;cases h1
          have h1:=h.more (Z':=λb=>Z b\/Zn b) v (λ_=> .inl) (λb hb=>hb.elim .inl (λhb=>(u b hb).symm));refine⟨λ_=>v,_,_,_,h1.setS d (x:= .cnd t b ⟨a1,explode r (ah a6)⟩) (.inl ⟨?_,Bl.explode (a:=a1) (U9.mono (λ_ _=>C9.mono (λ_=> .inr) (λ_ _=>rfl)) Y)⟩) F3,T⟩;rw[C5 _ _ _ _ D];exact i
       have V:=VA h a8 i;have l:=g (λo=>absurd o V);have M:E1 all ⟨some d, .call ⟨.value f,args.toArray,ts⟩,ty,pos,aft,some (j,b)⟩ E=false:=by
        unfold E1 Bc;simp only[G];cases u:E t with
        |bool F=>simp only[vC,g4q,rF];intro o;exact i (by rw[u,o])
        | _=>rfl
       refine Ng M ⟨λ_=>R5.refl w,_,_,_,h.setS d (x:= .cnd t b ⟨a1,explode r (ah a6)⟩) (.inr ⟨?_,rfl⟩) F3,l⟩;rw[C5 _ _ _ _ D];exact i
     exact g.elim
   exact g.elim
 split at g
 . rename_i U be a7;split at g
   . rename_i H a3;split at g
     . rename_i bc b5;split at g
       . rename_i sv A;obtain⟨s,g⟩:=C0 g;simp only[qC]at s;have ak:Mp st.nx sv:=λc hc=>kY (tH.1 s.2 c hc)
         by_cases i:E t= .bool b
         . have y:=h.gctx (n:=20) i;obtain⟨ai,J,z,bi⟩:=Ga h y a7;refine AX (Ed J s.1 rfl) (((a0 U H a3).2 bc b5).res h z A) (MH G i) ?_;rintro ag w' ⟨v,Z',ba,bb,Y⟩;have h1:=h.more v ba bb;refine⟨λ_=>v,_,_,_,h1.setS d (x:= .cnd t b sv) (.inl ⟨?_,Y⟩) ak,g⟩;rw[C5 _ _ _ _ D];exact i
         have M:E1 all ⟨some d, .call ⟨.value f,args.toArray,ts⟩,ty,pos,aft,some (j,b)⟩ E=false:=by
          unfold E1 Bc;simp only[G];cases u:E t with
          |bool F=>simp only[vC,g4q,rF];intro o;exact i (by rw[u,o])
          | _=>rfl
         refine Ng M ⟨λ_=>R5.refl w,_,_,_,h.setS d (x:= .cnd t b sv) (.inr ⟨?_,rfl⟩) ak,g⟩;rw[C5 _ _ _ _ D];exact i
       exact g.elim
     rename_i bh;cases s:Gq cx.P U&&Ic H.res with
     |false=>simp[s]at g
     |true=>
      simp only[s,qS]at g;simp only[qC]at s;obtain⟨s,a4⟩:=s;have b4:∀ {u:List RT} {r:Br u},Ic u=true->∀q∈(G2 u r st).1,Mp st.nx q:=by
       intro u
       induction u with
       |nil=>intro r _ q R;simp[G2]at R
       |cons aa u a9=>
        intro r R q a5;cases aa with
        |own _ _=>simp[Ic,Bn]at R
        |obox _ _=>simp[Ic,Bn]at R
        |rows _ _ _=>simp[Ic,Bn]at R
        |val a t=>
         simp only[Ic,Bn,qC]at R;simp only[G2,qW]at a5;rcases a5 with rfl|a5
         . exact F3
         exact a9 R.2 q a5
      have M:E t≠ .bool b->E1 all ⟨some d, .call ⟨.value f,args.toArray,ts⟩,ty,pos,aft,some (j,b)⟩ E=false:=λi=>by
       unfold E1 Bc;simp only[G];cases R:E t with
       |bool a5=>simp only[vC,g4q,rF];intro o;exact i (by rw[R,o])
       | _=>rfl
      cases F:Q7 H.args with
      |true=>
       simp only[F,qS]at g;obtain⟨R,g⟩:=C0 g;have b8:cA sp st ⟨some d, .call ⟨.value f,args.toArray,ts⟩,ty,pos,aft,some (j,b)⟩=true:=by
        simp only[cA,VK];unfold C5t at R;split at R
        . rename_i av bj a5;have:=qD R;subst this;rw[a5];simp only[a3,F,g4f]
        cases R
       rw[b8];unfold iX at g;split at g
       . rename_i mu a9;obtain⟨aa,g⟩:=C0 g;have aa:=Jl aa;by_cases i:E t= .bool b
         . have y:=h.gctx (n:=20) i;have W:=h.ctxP y;obtain⟨ai,J,z,_⟩:=Ga h y a7;have aq:∀k∈mu,Qf (st.L k)=true->∃b,B k= .pointer (some ⟨b,0,none⟩):=λk _ l=>by
            have a5:=h.locs k;cases av:st.L k<;>rw[av]at l a5<;>try (cases l)
            . obtain⟨b,_,e,_⟩:=a5;exact⟨b,e⟩
            obtain⟨rfl,_,b,e⟩:=a5;exact⟨b,e⟩
           have az:=Zv z a9 aq;have aw:=Bi g a9;have ay:=Eg h z g a9;obtain⟨x,X,ac,_⟩:=Ew h a0 z g;obtain⟨b3,ac⟩:=ac W;refine AX (Ed J s rfl) (CZ h (a0 U H a3).1 X az ay aa aw b3) (MH G i) ?_;rintro ag w' ⟨v,r,N,bf,T,b2,ab,ax,rfl,Z',B',O,Q,I⟩;have l:=ac r N T b2 ab (ax F);split at l
           . rename_i sv A;rw[A]at Q I;obtain⟨an,af,e,ad,ae⟩:=Q;rw[show af= []from ae]at e;subst e;refine⟨λo=>(by cases o),_,_,_,O.setS d (x:= .cnd t b sv) (.inl ⟨?_,ad⟩) (I sv (by simp)),l⟩;rw[C5 _ _ _ _ D];exact i
           exact l.elim
         have V:=VA h a8 i;obtain⟨x,_,b6⟩:=Dj g;have l:=b6 V;split at l
         . rename_i sv A;refine Ng (M i) ⟨λo=>(by cases o),_,_,_,h.setS d (x:= .cnd t b sv) (.inr ⟨?_,rfl⟩) (b4 (r:=ZT H.res) a4 sv (by rw[A];simp)),l⟩;rw[C5 _ _ _ _ D];exact i
         exact l.elim
       exact g.elim
      |false=>
      simp only[F,rI]at g;have am:=g
      by_cases i:E t= .bool b
      . have y:=h.gctx (n:=20) i;have W:=h.ctxP y;obtain⟨ai,J,z,_⟩:=Ga h y a7;obtain⟨x,X,g⟩:=Ew h a0 z am;refine AX (Ed J s rfl) (CZ (mu:= []) h (a0 U H a3).1 X (fV F _) (by rw[YV F];trivial) wT (λ_ o=>by cases o) (g.1 W)) (MH G i) ?_;rintro ag w' ⟨v,r,N,bf,T,_,ab,_,rfl,Z',B',O,Q,I⟩;replace v:R5 w w':=v.ext (λb ⟨an,hu,_⟩=>by rw[YV F]at hu;cases hu);have l:=g.2 r (λ_=>⟨T,ab⟩);have ap:∀(as:List AM) (N:Od as) (a2:St),Q7 as=false->addM as N [] a2=a2:=by
         intro as
         induction as with
         |nil=>intros;rfl
         |cons a as a5=>
          intro N a2 R;simp only[Q7,yH,rE]at R;cases a with
          |val _ _=>exact a5 N a2 R.2
          |fn _ _ _=>exact a5 N a2 R.2
          |row _ _=>cases R.1
          |box _ _=>cases R.1
          |rows _ _ _=>cases R.1
        rw[ap _ _ _ F]at O I;simp only[dropM]at O Q I;rw[Zy a4]at O;have b0:(G2 H.res r st).2.nx=st.nx:=by rw[Zy a4]
        split at l
        . rename_i sv A;rw[A]at Q I;obtain⟨an,af,e,ad,ae⟩:=Q;rw[show af= []from ae]at e;subst e;refine⟨λ_=>v,_,_,_,O.setS d (x:= .cnd t b sv) (.inl ⟨?_,ad⟩) (by have:=I sv (by simp);rwa[b0]at this),l⟩;rw[C5 _ _ _ _ D];exact i
        exact l.elim
      have V:=VA h a8 i;obtain⟨x,g⟩:=Dj am;have l:=g.2 (ZT H.res) (λo=>absurd o V);split at l
      . rename_i sv A;have M:E1 all ⟨some d, .call ⟨.value f,args.toArray,ts⟩,ty,pos,aft,some (j,b)⟩ E=false:=by
         unfold E1 Bc;simp only[G];cases R:E t with
         |bool a5=>simp only[vC,g4q,rF];intro o;exact i (by rw[R,o])
         | _=>rfl
        refine Ng M ⟨λ_=>R5.refl w,_,_,_,h.setS d (x:= .cnd t b sv) (.inr ⟨?_,rfl⟩) ?_,l⟩
        . rw[C5 _ _ _ _ D];exact i
        have:∀ {u:List RT} {r:Br u},Ic u=true->∀q∈(G2 u r st).1,Mp st.nx q:=by
         intro u
         induction u with
         |nil=>intro r _ q R;simp[G2]at R
         |cons aa u a9=>
          intro r R q a5;cases aa with
          |own _ _=>simp[Ic,Bn]at R
          |obox _ _=>simp[Ic,Bn]at R
          |rows _ _ _=>simp[Ic,Bn]at R
          |val a t=>
           simp only[Ic,Bn,qC]at R;simp only[G2,qW]at a5;rcases a5 with rfl|a5
           . exact F3
           exact a9 R.2 q a5
        exact this a4 sv (by rw[A];simp)
      exact l.elim
   exact g.elim
 exact g.elim
def A3h (h:C3 za w0 st E w Z B) {x:Operand} (a:EC st d x k) (b:E1 all ⟨some d, .next x false,ty,pos,aft,gd⟩ E=true):K4 cx.P all ⟨some d, .next x false,ty,pos,aft,gd⟩ (eC za w0 w true k) E w:=by
 unfold EC at a;split at a
 . rename_i q c;split at a
   . exact B4o h c a b
   exact a.elim
 exact a.elim
def B0l {P:Program} {T:TypeId} {l:List (Nat×TI)} (h:G7 P l=true):G7 P (C2j T l)=true:=by
 unfold C2j;split
 . rename_i ti b;have a:=B9 h b;simp only[G7,qC];exact⟨a,h⟩
 exact h
def C3m (cx:Cx) (all:List Oper) (o:Oper):(A2y cx all o).P=cx.P:=by
 unfold A2y;split
 . cases C1z all o.dst<;>rfl
 rfl
def B8s {cx:Cx} (all:List Oper) (o:Oper) (h:G7 cx.P cx.tys=true):G7 (A2y cx all o).P (A2y cx all o).tys=true:=by
 unfold A2y;split
 . cases C1z all o.dst with
   |true=>exact h
   |false=>exact B0l h
 exact h
def aA {o:Oper} (h:C3 za w0 st E w Z B) (M:za.b0=0\/kM sp za.k0 st o.op=true) (i:G7 cx.P cx.tys=true) (X:Lw cx.P sp) (a:Wv cx sp all o k st):K4 cx.P all o (eC za w0 w (cA sp st o) k) E w:=by
 obtain⟨G,z,ty,pos,aft,gd⟩:=o;unfold Wv at a;simp only at a;split at a
 . have l:∀G,E1 all ⟨G,z,ty,pos,aft,none⟩ E=true:=λ_=>rfl
   have a0:∀ {E':G8} {w':World},eC za w0 w (wrB z) k E' w'->eC za w0 w (cA sp st ⟨G,z,ty,pos,aft,none⟩) k E' w':=fun⟨v,c⟩=>⟨λb=>v (by simp only[cA,rE]at b;exact b.1),c⟩
   split at a
   . rename_i U a1 O;split at a
     . rename_i d;replace a:=F1.1 a;obtain⟨ag,D,H,I⟩:=EG (ty:=ty) h (B8s all _ i) (F2 E) O a.1;rw[C3m]at D;exact S4 (D w (λ_=>R5.refl w)) (l _) ⟨λ_=>R5.refl w,_,_,_,h.setS d (H _) I,a.2⟩
     exact a.elim
   split at a
   . rename_i U u f;replace a:=F1.1 a;exact J3 (λ_ _=>a0) (A9e h (M.imp id λb=>by simp only[kM,qC,rN]at b;exact b.2) i f a.1 a.2 (l _))
   rename_i a9;clear a9;split at a
   . split at a
     . split at a
       . rename_i U u f;replace a:=F1.1 a;refine J3 ?_ (gW h i f a.1 a.2 (l _));rintro E' w' ⟨_,n⟩;exact⟨λb=>(by simp[cA,wrB]at b),n⟩
       exact a.elim
     exact a.elim
   . split at a
     . split at a
       . rename_i u f;obtain⟨w',r,_,Z',B',g⟩:=fP (ty:=ty) h i f;exact Wa r (l _) ⟨λb=>(by simp[cA,wrB]at b),_,_,_,g,a⟩
       exact a.elim
     exact a.elim
   . split at a
     . split at a
       . rename_i u f;obtain⟨w',_,r,Z',B',g⟩:=fP (ty:=ty) h i f;exact Wa r (l _) ⟨λb=>(by simp[cA,wrB]at b),_,_,_,g,a⟩
       exact a.elim
     exact a.elim
   . split at a
     . rename_i a3 A ts W aj d;have:=A2d (ty:=ty) (pos:=pos) (aft:=aft) (all:=all) (ts:=ts) h X (M.imp id λb=>by simp only[kM,qC,rN]at b;simpa using b.1.2) a (by rfl);simpa using this
     exact a.elim
   . split at a
     . rename_i x str W ak d;cases str with
       |true=>exact a.elim
       |false=>exact J3 (λ_ _ ⟨v,c⟩=>⟨λb=>(by simp[cA,wrB]at b),c⟩) (A3h h a (l _))
     exact a.elim
   . split at a
     . split at a
       . rename_i u f;exact J3 (λ_ _ ⟨v,c⟩=>⟨λb=>(by simp[cA,wrB]at b),c⟩) (A9a h i f a (l _))
       exact a.elim
     exact a.elim
   . split at a
     . split at a
       . rename_i u f;obtain⟨w',r,Z',B',g⟩:=A8o (cx:=cx) (ty:=ty) h f;exact Wa r (l _) ⟨λb=>(by simp[cA,wrB]at b),_,_,_,g,a⟩
       exact a.elim
     exact a.elim
   . rename_i A ts _;split at a
     . rename_i x T a6 ac _;split at a
       . rename_i u f;obtain⟨a1,w',r,g⟩:=A8c (cx:=cx) (ty:=ty) h i f;have a5:A= #[x]:=by rw[<-uA (xs:=A),a6]
         have aa:ts= #[T]:=by rw[<-uA (xs:=ts),ac]
         subst a5 aa;exact A7l r (l _) ⟨λb=>(by simp[cA,wrB]at b),_,_,_,g,a⟩
       exact a.elim
     exact a.elim
   split at a
   . split at a
     . rename_i a8;replace a:=F1.1 a;exact J3 (λ_ _=>a0) (B7t h (M.imp id λb z e=>by subst e;simp only[kM,qC]at b;exact b.1.1) i a8 a.1 a.2 (l _))
     exact a.elim
   exact a.elim
 rename_i Y c;split at a
 . rename_i t s;cases F:Ol st 20 t with
   |false=>simp[F]at a
   |true=>
    simp only[F,qS]at a;split at a
    . rename_i d;obtain⟨ab,a⟩:=C0 a
      . have y:t≠d:=uK (by simpa using ab);split at a
        . rename_i U R O;cases Q:R.cs.all (B5t st.nx)with
          |false=>simp[Q]at a
          |true=>
          simp only[Q,qS]at a;replace a:=F1.1 a;rw[oN]at a;by_cases j:E t= .bool c
          . have V:=h.gctx (n:=20) j;obtain⟨ag,D,H,I⟩:=EG (ty:=ty) h i V O (a.1 (h.ctxP V));refine S4 (D w (λ_=>R5.refl w)) (MH s j) ⟨λ_=>R5.refl w,_,_,_,h.setS d (x:= .cnd t c R) (.inl ⟨?_,H E⟩) I,a.2⟩;rw[C5 _ _ _ _ y];exact j
          have N:E1 all ⟨some d,z,ty,pos,aft,some (Y,c)⟩ E=false:=by
           unfold E1 Bc;simp only[s];cases a4:E t with
           |bool ah=>simp only[vC,g4q,rF];intro b;exact j (by rw[a4,b])
           | _=>rfl
          refine Ng N ⟨λ_=>R5.refl w,_,_,_,h.setS d (x:= .cnd t c R) (.inr ⟨?_,rfl⟩) ?_,a.2⟩
          . rw[C5 _ _ _ _ y];exact j
          exact λa2 a7=>kY (tH.1 Q a2 a7)
        . exact a.elim
        split at a
        . rename_i a3 A ts _ W;have:=nA (ty:=ty) (pos:=pos) (aft:=aft) (d:=d) (all:=all) (ts:=ts) h X s F y a;simpa using this
        . rename_i T len ai _;split at a
          . rename_i af J;have:=A8a (ty:=ty) (pos:=pos) (aft:=aft) (d:=d) (all:=all) h i s F y J a;refine J3 (next:=eC za w0 w false k) ?_ (by simpa using this);rintro _ _ ⟨v,c⟩;exact⟨λ_=>v rfl,c⟩
          exact a.elim
        . rename_i T x _ _;split at a
          . rename_i af J;obtain⟨ad,ae⟩:=pC (ty:=ty) h i y J;by_cases j:E t= .bool c
            . obtain⟨a1,B',r,g⟩:=ad j (h.gctx (n:=20) j);exact S4 (r w (R5.refl w)) (MH s j) ⟨λ_=>R5.refl w,_,_,_,g,a⟩
            have N:E1 all ⟨some d, .load T x,ty,pos,aft,some (Y,c)⟩ E=false:=by
             unfold E1 Bc;simp only[s];cases a4:E t with
             |bool ah=>simp only[vC,g4q,rF];intro b;exact j (by rw[a4,b])
             | _=>rfl
            obtain⟨B',g⟩:=ae j;exact Ng N ⟨λ_=>R5.refl w,_,_,_,g,a⟩
          exact a.elim
        exact a.elim
    exact a.elim
 exact a.elim
def gO (a:za.b0=0) (c:G7 cx.P cx.tys=true) (b:Lw cx.P sp):∀ {d:List Oper} {st:St} {E:G8} {w:World} {Z:Nat->Prop} {B:Nat->Value},C3 za w0 st E w Z B->aB cx sp all d k st->B9c cx.P all (Nx za w0 k) d E w
 | [],_,_,_,_,_,h,d=>⟨_,_,_,h,d⟩
 |o::r,_,_,_,_,_,h,d=>by
  refine J3 ?_ (aA h (.inl a) c b d);rintro E' w' ⟨_,g,Z',B',d,f⟩;exact gO a c b d f
def Ux (E:G8) (ts:List Nat) (b:Nat):Prop:=∃s∈ts,root (E s)=some b
def B5m (h:C3 za w0 st E w Z B) {ts:List Nat} {q b:Nat} (j:C1k st ts q=true) (d:root (B q)=some b):Ux E ts b:=by
 obtain⟨s,l,a⟩:=xI.1 j;unfold B3q at a;split at a
 . rename_i k e;have:=qD a;subst this;have c:=h.slots s;rw[e]at c;obtain⟨v,_,f,⟨n,g,i⟩,o⟩:=c;cases f;exact⟨s,l,by rw[i];rw[g]at d;exact d⟩
 cases a
def C3i (h:C3 za w0 st E w Z B) {ts:List Nat} {as:List AM} {ss:List SV} {vs:List Value} (t:Nz w Z B ss vs) (o:kMu st ts as ss=true) (n:∀mu,Y7 as ss=some mu->∀k∈mu,Qf (st.L k)=true->∃b,B k= .pointer (some ⟨b,0,none⟩)) {b:Nat} (v:YQ w as vs b):Ux E ts b:=by
 simp only[kMu,qC]at o;obtain⟨j,f⟩:=o;split at f
 . rename_i mu i;have s:=Zv t i (n mu i);obtain⟨p,a,c⟩:=v;have g:p.2∈D9 as vs/\p.1∈as:=by
    clear s i c j t n
    induction as generalizing vs with
    |nil=>cases vs<;>cases a
    |cons u z d=>
     cases vs with
     |nil=>cases a
     |cons A vs=>
      simp only[R1,D9]at a|-;cases r:N0 u with
      |true=>
       simp only[r,qS]at a|-;rcases qW.1 a with rfl|a
       . exact⟨rD,rD⟩
       exact⟨qI _ (d a).1,qI _ (d a).2⟩
      |false=>
       simp only[r,rI]at a|-;exact⟨(d a).1,qI _ (d a).2⟩
   rw[s]at g;obtain⟨q,x,e⟩:=tT.1 g.1;have l:=tH.1 j _ g.2;have y:root p.2=some b:=by
    cases d:p.1<;>rw[d]at c l<;>first|exact c.elim|exact c|cases l
   exact B5m h (tH.1 f q x) (by rw[e];exact y)
 cases f
def B1o {o:Oper} {ts:List Nat} (h:C3 za w0 st E w Z B) (F:Lw cx.P sp) (a:oU cx sp st ts o=true) (b:Wv cx sp all o k st):K4 cx.P all o (λE' w'=>Y6 (Ux E ts) w w'/\Nx za w0 k E' w') E w:=by
 obtain⟨r,X,ty,pos,aft,gd⟩:=o;unfold oU at a;split at a
 . rename_i n c tys x;simp only at x;subst x;simp only[qC,vG]at a;obtain⟨rfl,a⟩:=a;unfold Wv at b;have R:Vn (A2y cx all ⟨r, .call ⟨.value n,c,tys⟩,ty,pos,aft,none⟩) st [] (.call ⟨.value n,c,tys⟩)=none:=rfl;have O:Zx cx st r (.call ⟨.value n,c,tys⟩)=none:=rfl;simp only[R,O]at b;cases r with
   |none=>exact b.elim
   |some d=>
    simp only at b;have G:E1 all ⟨some d, .call ⟨.value n,c,tys⟩,ty,pos,aft,none⟩ E=true:=rfl;obtain⟨c,rfl⟩:∃l:List Operand,c=l.toArray:=⟨c.toList,by simp⟩;simp only[zE]at a b;split at a
    . rename_i V ss i;split at a
      . rename_i s u;simp only[qC,rN,Option.isSome_eq_false_iff,vG]at a;obtain⟨N,a⟩:=a;have y:∀ {st1:St} {Z1:Nat->Prop} {ss1:List SV} {vs:List Value},C3 za w0 st1 E w Z1 B->Nz w Z1 B ss1 vs->kMu st1 ts s.args ss1=true->∀ {w':World},Y6 (YQ w s.args vs) w w'->Y6 (Ux E ts) w w':=λ{st1 Z1 ss1 vs} g f hk1 {w'} hx=>
         ⟨hx.os,hx.tape,hx.output,hx.size,λj H Q=>hx.block j H λM=>Q (C3i g f hk1 (λU _ k _ A=>by
          have t:=g.locs k;cases J:st1.L k<;>rw[J]at A t<;>try (cases A)
          . obtain⟨j,_,e,_⟩:=t;exact⟨j,e⟩
          obtain⟨rfl,_,j,e⟩:=t;exact⟨j,e⟩) M),trivial⟩
        unfold Um at b;split at b
        . rename_i z;simp only[Lx,qH,bind_some]at i;obtain⟨T,I,_,_,i⟩:=i;rw[bind_some.2 I]at z;cases z;cases i
        simp only[i,u,N,Option.filter_none]at b;obtain⟨v,b⟩:=C0 b;cases D:s.shared with
        |true=>
         simp only[D,qS]at b a;obtain⟨Z0,H⟩:=h.stillF cx s.args ss;obtain⟨Z1,g⟩:=H.settleA (as:=s.args) (ss:=ss);split at b
         . rename_i W Y j;obtain⟨M,Q⟩:=C0 b;have:=qD M;subst this;simp only[j]at a;obtain⟨U,J,f,_⟩:=Ga g (F2 E) j;exact J3 (λ_ _ ⟨t,A⟩=>⟨y g f a t,A.2⟩) (WY g F (Ed J v rfl) f u Q G)
         exact b.elim
        |false=>
         simp only[D,rI]at b a;obtain⟨H,A,f,_⟩:=Ga h (F2 E) i;exact J3 (λ_ _ ⟨j,t⟩=>⟨y h f a j,t.2⟩) (WY h F (Ed A v rfl) f u b G)
      cases a
    cases a
 cases a
end
end Go.Vc
