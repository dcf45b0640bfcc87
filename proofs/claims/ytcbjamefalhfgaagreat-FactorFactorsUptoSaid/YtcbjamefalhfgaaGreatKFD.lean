/- Part. -/
import Derived.Test.YtcbjamefalhfgaaGreatKFC
set_option linter.all false
namespace Go.Vc
open Go Go.RowKit Go.Gw
open Go.IntKind (i64 u64 u32)
def C4.trans {a b c:St} (h:C4 a b) (k:C4 b c):C4 a c:=by
 refine⟨qY h.ct k.ct,λs d g=>?_,λq d g=>?_,?_⟩
 . have e:=k.s s d (qY g h.ct);rw[e]at d g|-;exact h.s s d g
 . have e:=k.l q d (qY g h.ct);rw[e]at d g|-;exact h.l q d g
 exact h.f.trans h.ct k.f
def C4.setS (b:St) (d:Nat) (x:DV):C4 b (b.setS d x):=by
 refine⟨uI _,λs c a=>?_,λ_ _ _=>rfl,Bb.refl _ _⟩;rw[St.eS_setS]at c a|-;split at a
 . simp only at a;omega
 rename_i g;rw[qG g];cases f:HA d (b.S s)with
 |true=>simp only[f,qW]at a;omega
 |false=>rfl
def C4.setL (b:St) (k:Nat) (x:LC):C4 b (b.setL k x):=by
 refine⟨uI _,λ_ _ _=>rfl,λq c a=>?_,Bb.refl _ _⟩;rw[St.eL_setL]at c a|-;split at a
 . simp only at a;omega
 rename_i d;rw[qG d]
def C4.newL (b:St) (x:LC):C4 b (b.newL x):=by
 refine⟨uI _,λ_ _ _=>rfl,λq c a=>?_,Bb.refl _ _⟩;rw[St.eL_newL]at c a|-;split at a
 . simp only at a;omega
 rename_i d;rw[qG d]
def Q5.mapV (n:Nat) (p:DV->Bool) (f:DV->DV):∀l,Q5 n l (Vc.mapV p f (n+1) l)
 | []=>trivial
 | (s,x)::l=>by
  refine⟨rfl,λh=>?_,Q5.mapV n p f l⟩;cases a:p x.2 with
  |true=>simp only[a,qW]at h;omega
  |false=>rfl
def Bb.mapV (n:Nat) (p:DV->Bool) (f:DV->DV):∀l,Bb n l (l.map (Vc.mapV p f (n+1)))
 | []=>trivial
 |x::l=>⟨Q5.mapV n p f x,Bb.mapV n p f l⟩
def C4.freeze (b:St) (k:Nat) (c:C):C4 b (b.freeze k c):=by
 refine⟨uI _,λs f a=>?_,λq f a=>?_,Bb.mapV _ _ _ _⟩
 . rw[St.eS_freeze]at f a|-;cases d:AQ k (b.S s)with
   |true=>simp only[d,qW]at a;omega
   |false=>rfl
 rw[St.eL_freeze]at f a|-;cases d:gU k (if q=k then(b.ct+1,LC.none)else b.eL q).2 with
 |true=>simp only[d,qW]at a;omega
 |false=>
  simp only[d,rJ]at a|-;split at a
  . simp only at a;omega
  rename_i g;rw[qG g]
def C4.settle (a:St) (cs:List C):C4 a (settle a cs):=by
 induction cs generalizing a with
 |nil=>exact C4.refl _
 |cons c cs b=>
  cases c with
  |row k=>
   simp only[Vc.settle];cases g:a.L k with
   |row t e l=>
    cases Nat.ble a.nm k with
    |true=>exact(C4.freeze a k _).trans (b _)
    |false=>exact b a
   |rows t e f h al d=>
    cases d with
    |some _=>exact b a
    |none=>
     cases Nat.ble a.nm k with
     |true=>exact(C4.freeze a k _).trans (b _)
     |false=>exact b a
   | _=>exact b a
  |win k _ _ _=>
   simp only[Vc.settle];cases d:a.L k with
   |row t e l=>
    cases Nat.ble a.nm k with
    |true=>exact(C4.freeze a k _).trans (b _)
    |false=>exact b a
   | _=>exact b a
  |mp k=>
   simp only[Vc.settle];cases d:a.L k with
   |map _ _ _ _ _=>
    cases Nat.ble a.nm k with
    |true=>exact(C4.freeze a k _).trans (b _)
    |false=>exact b a
   | _=>exact b a
  | _=>exact b a
def C4.settleO (a:St) (x:Operand):C4 a (settleO a x):=by
 unfold Vc.settleO;split
 . exact C4.settle _ _
 exact C4.refl _
def C4.settleP (a:St) (b:List (Nat×Operand)):C4 a (settleP a b):=by
 induction b generalizing a with
 |nil=>exact C4.refl _
 |cons x b c=>exact(C4.settleO a x.2).trans (c _)
def C4.thawS (a:St) (s:SV):C4 a (thawS a s):=by
 unfold Vc.thawS;split
 . unfold thaw;split
   . cases Nat.ble a.nm _ with
     |true=>exact(C4.setL a _ _).trans (C4.setL _ _ _)
     |false=>exact C4.refl a
   exact C4.refl a
 exact C4.refl a
def C4.stillB (cx:Cx) (a:St) (k:Nat):C4 a (stillB cx a k):=by
 unfold Vc.stillB;split
 . rename_i T b _;cases Nat.ble a.nm k with
   |false=>exact C4.refl _
   |true=>
    simp only[qW];split
    . split
      . split
        . exact((C4.settle a b).trans (C4.setL _ _ _)).trans (C4.setL _ _ _)
        exact C4.refl _
      exact C4.refl _
    exact C4.refl _
 exact C4.refl _
def C4.stillL (cx:Cx):∀(b:List Nat) (a:St),C4 a (b.foldl (Vc.stillB cx) a)
 | [],a=>C4.refl a
 |k::b,a=>(C4.stillB cx a k).trans (C4.stillL cx b _)
def C4.stillF (cx:Cx):∀(a:St) (as:List AM) (ss:List SV),C4 a (stillF cx a as ss)
 |a,[],_=>C4.refl a
 |a,_:: _,[]=>C4.refl a
 |a,b::as,s::ss=>by
  simp only[Vc.stillF];split
  . exact(C4.stillL cx _ a).trans (C4.stillF cx _ as ss)
  exact C4.stillF cx a as ss
def C4.settleA:∀(as:List AM) (ss:List SV) (a:St),C4 a (settleA a as ss)
 | [],_,a=>C4.refl a
 | .val _ _::as,s::ss,a=>(C4.settle a s.cs).trans (C4.settleA as ss _)
 | .row _ _::as,s::ss,a=>(C4.thawS a s).trans (C4.settleA as ss _)
 | .rows _ _ _::as,_::ss,a=>C4.settleA as ss a
 | .rows _ _ _:: _,[],a=>C4.refl a
 | .box _ _::as,_::ss,a=>C4.settleA as ss a
 | .fn _ _ _::as,_::ss,a=>C4.settleA as ss a
 | .val _ _:: _,[],a=>C4.refl a
 | .row _ _:: _,[],a=>C4.refl a
 | .box _ _:: _,[],a=>C4.refl a
 | .fn _ _ _:: _,[],a=>C4.refl a
def C4.dropM:∀(b:List Nat) (a:St),C4 a (dropM a b)
 | [],a=>C4.refl a
 |k::b,a=>(C4.setL a k _).trans (C4.dropM b _)
def C4.addM:∀(as:List AM) (o:Ox as) (b:List Nat) (a:St),C4 a (addM as o b a)
 | [],_,b,a=>by cases b<;>exact C4.refl a
 | .row t e::as,o,[],a=>C4.refl a
 | .box t e::as,o,[],a=>C4.refl a
 | .row t e::as,o,k::b,a=>(C4.setL a k _).trans (C4.addM as o.2 b _)
 | .box t e::as,o,k::b,a=>(C4.setL a k _).trans (C4.addM as o.2 b _)
 | .val _ _::as,o,b,a=>C4.addM as o b a
 | .fn _ _ _::as,o,b,a=>C4.addM as o b a
 | .rows _ _ _::as,o,[],a=>C4.refl a
 | .rows _ _ _::as,o,k::b,a=>(C4.setL a k _).trans (C4.addM as o.2 b _)
def C4.place:∀(rs:List RT) (r:Br rs) (a:St),C4 a (G6 rs r a).2
 | [],_,a=>C4.refl a
 | .val _ _::rs,r,a=>C4.place rs r.2 a
 | .own t e::rs,r,a=>(C4.newL a (.row t e r.1)).trans (C4.place rs r.2 _)
 | .obox T t::rs,r,a=>(C4.newL a (.box T (explode t r.1))).trans (C4.place rs r.2 _)
 | .rows t e b::rs,r,a=>(C4.newL a (.rows t e b r.1 [] none)).trans (C4.place rs r.2 _)
def C4.boxS (a:St) (d:Tmp) (T:TypeId) (cs:List C):C4 a (boxS a d T cs):=(C4.newL _ _).trans (C4.setS _ _ _)
def C4.rowS (a:St) (d:Tmp) (t:Ty) (e:TypeId) (l:List t.den):C4 a (rowS a d t e l):=(C4.newL _ _).trans (C4.setS _ _ _)
def C4.dropR (a:St) (c:C):C4 a (dropR a c):=by
 cases c with
 |row k=>exact C4.setL _ _ _
 | _=>exact C4.refl _
section
variable {cx:Cx} {sp:G9} {all:List Oper} {k k':St->Prop} {st:St}
def C4.detO (st:St) (x:Operand):C4 st (detO st x):=by
 have c:∀(b:Bool) (a:St),C4 st a->C4 st (bif b then a else st):=by
  intro b a h;cases b
  . exact C4.refl _
  exact h
 unfold Vc.detO;split
 . unfold C0p;split
   . split
     . split
       . split
         . exact c _ _ ((C4.setL _ _ _).trans (C4.setL _ _ _))
         exact C4.refl _
       exact C4.refl _
     exact C4.refl _
   exact C4.refl _
 exact C4.refl _
def iJ {d:Tmp} {T:TypeId} {x:Operand} {a:St} (h:iI cx st d T x=some a):C4 st a:=by
 simp only[iI,qI,bind_some]at h;obtain⟨ti,_,c,_,h⟩:=h;split at h
 . split at h
   . obtain⟨_,h⟩:=E8 h;cases h;exact((C4.newL _ _).trans (C4.setL _ _ _)).trans (C4.setS _ _ _)
   cases h
 cases h
def B0x {d:Tmp} {T:TypeId} {x y:Operand} {a:St} (h:pN cx st d T x y=some a):C4 st a:=by
 simp only[pN,qI,bind_some]at h;obtain⟨ti,_,t,_,b,_,c,_,f,_,h⟩:=h;cases b with
 |row k=>
  simp only at h;split at h
  . split at h
    . obtain⟨_,h⟩:=E8 h;cases h;exact(C4.setL _ _ _).trans (C4.setS _ _ _)
    cases h
  cases h
 | _=>simp at h
def B5i {d:Tmp} {op:Op} {φ:Option Prop} {f:St} (h:B5h cx st d op=some (φ,f)):C4 st f:=by
 unfold B5h at h;split at h
 . simp only[qI,bind_some]at h;obtain⟨s,_,h⟩:=h;obtain⟨_,h⟩:=E8 h;cases h;exact C4.boxS _ _ _ _
 . simp only[qI,bind_some]at h;obtain⟨s,_,h⟩:=h;cases h;exact C4.boxS _ _ _ _
 . simp only[qI,bind_some]at h;obtain⟨ti,_,t,_,n,_,o,_,h⟩:=h;obtain⟨_,h⟩:=E8 h;cases h;exact(C4.settleP _ _).trans (C4.rowS _ _ _ _ _)
 . simp only[qI,bind_some]at h;obtain⟨ti,_,t,_,l,_,k,_,h⟩:=h;cases c:ti.rows with
   |true=>
    simp only[c,qW,qL]at h;obtain⟨g,a,h⟩:=h;cases h;unfold ZE at a;split at a
    . simp only[qL]at a;obtain⟨_,_,a⟩:=a;subst a;exact(C4.newL _ _).trans (C4.setS _ _ _)
    cases a
   |false=>
    simp only[c,rJ]at h;obtain⟨_,h⟩:=E8 h;cases h;exact C4.rowS _ _ _ _ _
 . split at h
   . obtain⟨_,h⟩:=E8 h;simp only[C4x,qI,bind_some]at h;obtain⟨ti,_,t,_,i,_,j,_,l,_,r,_,h⟩:=h;obtain⟨_,h⟩:=E8 h;cases h;exact(C4.detO _ _).trans ((C4.dropR _ _).trans (C4.rowS _ _ _ _ _))
   cases h
 . simp only[qI,bind_some]at h;obtain⟨ti,_,h⟩:=h;split at h
   . cases h;exact(C4.newL _ _).trans (C4.setS _ _ _)
   . simp only[qL]at h;obtain⟨_,_,h⟩:=h;cases h;exact(C4.newL _ _).trans (C4.setS _ _ _)
   cases h
 . split at h
   . simp only[qI,bind_some]at h;obtain⟨ti,_,h⟩:=h;split at h
     . simp only[bind_some]at h;obtain⟨_,_,_,_,h⟩:=h;cases h;exact C4.setS _ _ _
     cases h
   cases h
 . simp only[qL]at h;obtain⟨g,b,h⟩:=h;cases h;exact iJ b
 . simp only[qI,bind_some]at h;obtain⟨ti,_,h⟩:=h;split at h
   . simp only[bind_some]at h;obtain⟨_,_,_,_,h⟩:=h;cases h;exact(C4.settleO _ _).trans ((C4.newL _ _).trans (C4.setS _ _ _))
   cases h
 . simp only[qI,bind_some]at h;obtain⟨_,_,h⟩:=h;split at h
   . split at h
     . obtain⟨_,h⟩:=E8 h;cases h;exact C4.setS _ _ _
     cases h
   cases h
 . split at h
   . simp only[qL]at h;obtain⟨g,b,h⟩:=h;cases h;exact B0x b
   cases h
 cases h
def A4v {T:TypeId} {x:Operand} {a:St} (h:XY cx st T x=some a):C4 st a:=by unfold XY at h;cases h
def ZG {T:TypeId} {m x y:Operand} {a:St} (h:QX cx st T m x y=some a):C4 st a:=by
 simp only[QX,qI,bind_some]at h;obtain⟨ti,_,c,_,b,_,d,_,h⟩:=h;split at h
 . simp only[bind_some]at h;obtain⟨_,_,_,_,_,_,h⟩:=h;cases h;exact(C4.settleO _ _).trans (C4.setL _ _ _)
 cases h
def A6z {ti:TI} {s:SV} {k sz i off:Nat} {a:St} (h:nJ ti st s k sz i off=some a):C4 st a:=by
 unfold nJ at h;split at h
 . obtain⟨_,h⟩:=E8 h;split at h
   . cases h;exact C4.setL _ _ _
   cases h
 . split at h
   . split at h
     . obtain⟨_,h⟩:=E8 h;split at h
       . cases h;exact C4.setL _ _ _
       cases h
     cases h
   cases h
 cases h
def A7a {T:TypeId} {p v:Operand} {φ:Option Prop} {a:St} (h:bN cx st T p v=some (φ,a)):C4 st a:=by
 simp only[bN,qI,bind_some]at h;obtain⟨ti,_,c,_,h⟩:=h;split at h
 . simp only[bind_some]at h;obtain⟨s,_,h⟩:=h;split at h
   . obtain⟨_,h⟩:=E8 h;cases h;exact C4.setL _ _ _
   cases h
 . split at h
   . split at h
     . obtain⟨_,h⟩:=E8 h;unfold Vc.attach at h;split at h
       . split at h
         . obtain⟨_,h⟩:=E8 h;cases h;exact(((C4.setL _ _ _).trans (C4.setL _ _ _)).trans (C4.setL _ _ _)).trans (C4.setL _ _ _)
         cases h
       cases h
     cases h
   simp only[bind_some,qL]at h;obtain⟨s,_,d,b,h⟩:=h;cases h;exact(C4.settleO _ _).trans (A6z b)
 cases h
def Z6 {sh:Bool} {mu:List Nat} :∀ {as:List AM} {ss:List SV} {k k':A5 as->Prop},N9 cx sp st mu sh as ss k->(∀x,k x->k' x)->N9 cx sp st mu sh as ss k'
 | [],[],_,_,h,b=>b _ h
 | [],_:: _,_,_,h,_=>h.elim
 |a::r,[],_,_,h,_=>by cases a<;>exact h.elim
 | .val a t::r,s::ss,_,_,h,b=>by
  simp only[N9]at h|-;split at h
  . exact Z6 h λy=>b _
  exact h.elim
 | .row t d::r,s::ss,_,_,h,c=>by
  simp only[N9]at h|-;split at h
  . split at h
    . obtain⟨b,h⟩:=C0 h;simp only[b,qW];exact Z6 h λy=>c _
    exact h.elim
  exact h.elim
 | .box t d::r,s::ss,_,_,h,c=>by
  simp only[N9]at h|-;split at h
  . split at h
    . obtain⟨b,h⟩:=C0 h;simp only[b,qW];exact Z6 h λy=>c _
    exact h.elim
  exact h.elim
 | .rows t d f::r,s::ss,_,_,h,c=>by
  simp only[N9]at h|-;split at h
  . split at h
    . obtain⟨b,h⟩:=C0 h;simp only[b,qW];exact Z6 h λy=>c _
    exact h.elim
  exact h.elim
 | .fn j n l::r,s::ss,_,_,h,b=>by
  simp only[N9]at h|-;split at h
  . split at h
    . obtain⟨c,h⟩:=C0 h;simp only[c,qW];obtain⟨g,i,f,h⟩:=h;exact⟨g,i,f,Z6 h λy=>b _⟩
    exact h.elim
  . split at h
    . rename_i d;rw[dif_pos d];exact⟨h.1,h.2.1,Z6 h.2.2 λy=>b _⟩
    exact h.elim
  exact h.elim
def SY {d:Tmp} {s:A9} {ss:List SV} (h:AB cx sp st d s ss k) (g:∀f,C4 st f->k f->k' f):AB cx sp st d s ss k':=by
 unfold AB at h|-;split at h
 . obtain⟨i,h⟩:=C0 h;simp only[i,qW];cases j:Q6 s.args<;>simp only[j,rJ,qW]at h|-
   . exact Z6 h λx a=>⟨a.1,λr c b=>g _ ((C4.place _ _ _).trans (C4.setS _ _ _)) (a.2 r c b)⟩
   exact Z6 h λx a=>⟨a.1,λr o c l b n=>g _ ((C4.dropM _ _).trans ((C4.place _ _ _).trans ((C4.addM _ _ _ _).trans (C4.setS _ _ _)))) (a.2 r o c l b n)⟩
 exact h
def kV {d:Tmp} {f:Operand} {args:List Operand} (h:Vb cx sp st d f args k) (b:∀a,C4 st a->k a->k' a):Vb cx sp st d f args k':=by
 unfold Vb at h|-;split at h
 . split at h
   . split at h
     . exact⟨h.1,h.2.1,λn=>b _ (C4.setS _ _ _) (h.2.2 n)⟩
     exact h
   exact h
 split at h
 . split at h
   . obtain⟨g,h⟩:=C0 h;simp only[g,qW];rename_i s _ _;cases c:s.inl with
     |some o=>
      simp only[c]at h|-;exact o.step h λa r ev j=>b _ (ev.trans (C4.setS _ _ _)) j
     |none=>
     simp only[c]at h|-;cases l:s.shared<;>simp only[l,rJ,qW]at h|-
     . exact SY h b
     split at h
     . obtain⟨i,h⟩:=C0 h;simp only[i,qW];exact SY h λa ev=>b a (((C4.stillF _ _ _ _).trans (C4.settleA _ _ _)).trans ev)
     exact h
   exact h
 exact h
def eI {ctx:Jj} {t:Tmp} {b:Bool} {d:Tmp} {f:Operand} {args:List Operand} (h:Sb cx sp st ctx t b d f args k) (a:∀l,C4 st l->k l->k' l):Sb cx sp st ctx t b d f args k':=by
 unfold Sb at h|-;split at h
 . split at h
   . split at h
     . exact⟨h.1,h.2.1,λx=>a _ (C4.setS _ _ _) (h.2.2 x)⟩
     exact h
   exact h
 split at h
 . split at h
   . split at h
     . split at h
       . obtain⟨g,h⟩:=C0 h;simp only[g,qW];exact a _ (C4.setS _ _ _) h
       exact h
     obtain⟨g,h⟩:=C0 h;simp only[g,qW];rename_i z _ _ _ _;cases s:Q6 z.args<;>simp only[s,rJ,qW]at h|-
     case true=>
      obtain⟨o,h⟩:=C0 h;simp only[o,qW];unfold kU at h|-;split at h
      . obtain⟨n,h⟩:=C0 h;simp only[n,qW];refine Z6 h λA j=>⟨λc=>⟨(j.1 c).1,λr y i u v w=>?_⟩,λc=>?_⟩
        . have:=(j.1 c).2 r y i u v w;split at this
          . exact a _ ((C4.dropM _ _).trans ((C4.place _ _ _).trans ((C4.addM _ _ _ _).trans (C4.setS _ _ _)))) this
          exact this
        have:=j.2 c;split at this
        . exact a _ (C4.setS _ _ _) this
        exact this
      exact h
     refine Z6 h λA h=>⟨h.1,λr i=>?_⟩
     have:=h.2 r i;split at this
     . exact a _ (C4.setS _ _ _) this
     exact this
   exact h
 exact h
def A5t {d:Tmp} {T:TypeId} {m x:Operand} {a:St} (h:ZF cx st d T m x=some a):C4 st a:=by unfold ZF at h;cases h
def A5a {m s y:Operand} {a:St} (h:YI st m s y=some a):C4 st a:=by unfold YI at h;cases h
def P6 {α:Type} {c:Bool} {a:Option α} {x:α} (h:(bif c then a else none)=some x):a=some x:=by
 cases c with
 |true=>exact h
 |false=>cases h
def C4.giveS (st:St) (k:Nat):C4 st (giveS st k):=by
 unfold Vc.giveS;split
 . split
   . cases Nat.ble st.nm k&&Nat.ble st.nm _ && !(Nat.beq _ k)with
     |true=>exact(C4.setL _ _ _).trans (C4.setL _ _ _)
     |false=>exact C4.refl _
   exact C4.setL _ _ _
 exact C4.refl _
def B2w {φ:Option Prop} {b:St} {d:Tmp} {p i:Nat} (a:jU st d p i=some (φ,b)):C4 st b:=by
 unfold jU at a;split at a
 . have a:=P6 a;cases a;exact(((C4.setL _ _ _).trans (C4.newL _ _)).trans (C4.setL _ _ _)).trans (C4.setS _ _ _)
 cases a
def B2c {φ:Option Prop} {b:St} {p r i:Nat} (a:aW st p r i=some (φ,b)):C4 st b:=by
 unfold aW at a;split at a
 . split at a
   . have a:=P6 a;split at a
     . cases a;exact((C4.setL _ _ _).trans (C4.setL _ _ _)).trans (C4.setL _ _ _)
     . cases a;exact((C4.setL _ _ _).trans (C4.setL _ _ _)).trans (C4.setL _ _ _)
     cases a
   cases a
 cases a
def A1o {φ:Option Prop} {b:St} {op:Op} {f:Option Tmp} (a:Pm cx st f op=some (φ,b)):C4 st b:=by
 unfold Pm at a;split at a
 . simp only[qI,bind_some]at a;obtain⟨d,_,ti,_,a⟩:=a;have a:=P6 a;simp only[bind_some]at a;obtain⟨t,_,n,_,l,_,c,_,a⟩:=a;have a:=P6 a;cases a;exact(C4.newL _ _).trans (C4.setS _ _ _)
 . simp only[qI,bind_some]at a;obtain⟨d,_,ti,_,c,_,a⟩:=a;split at a
   . have a:=P6 a;exact(C4.giveS _ _).trans (B2w a)
   cases a
 . split at a
   . simp only[qI,bind_some]at a;obtain⟨ti,_,c,_,r,_,a⟩:=a;split at a
     . have a:=P6 a;exact B2c a
     cases a
   cases a
 . simp only[qI,bind_some]at a;obtain⟨d,_,ti,_,c,_,a⟩:=a;split at a
   . simp only[bind_some]at a;obtain⟨g,_,a⟩:=a;have a:=P6 a;cases a;exact((C4.setL _ _ _).trans (C4.newL _ _)).trans (C4.setS _ _ _)
   cases a
 . simp only[qI,bind_some]at a;obtain⟨d,_,c,_,a⟩:=a;split at a
   . split at a
     . have a:=P6 a;cases a;exact C4.setS _ _ _
     cases a
   cases a
 . split at a
   . simp only[qI,bind_some]at a;obtain⟨ti,_,c,_,k,_,a⟩:=a;split at a
     . simp only[bind_some]at a;obtain⟨g,_,j,_,a⟩:=a;cases a;exact C4.setL _ _ _
     cases a
   cases a
 . split at a
   . simp only[qI,bind_some]at a;obtain⟨ti,_,t,_,h,_,i,_,o,_,a⟩:=a;split at a
     . simp only[bind_some]at a;obtain⟨l,_,a⟩:=a;have a:=P6 a;cases a;exact((C4.setL _ _ _).trans (C4.newL _ _)).trans (C4.setS _ _ _)
     cases a
   cases a
 cases a
def B1t {φ:Option Prop} {b:St} {q r i:Nat} (a:ZL st q r i=some (φ,b)):C4 st b:=by
 unfold ZL at a;split at a
 . split at a
   . split at a
     . have a:=P6 a;cases a;exact((C4.setL _ _ _).trans (C4.setL _ _ _)).trans (C4.setL _ _ _)
     cases a
   cases a
 cases a
def A6s {φ:Option Prop} {b:St} {op:Op} {d:Option Tmp} (a:BL cx st d op=some (φ,b)):C4 st b:=by
 unfold BL at a;split at a
 . split at a
   . simp only[qI,bind_some]at a;obtain⟨ti,_,a⟩:=a;have a:=P6 a;simp only[bind_some]at a;obtain⟨t,_,f,_,c,_,a⟩:=a;split at a
     . simp only[bind_some]at a;obtain⟨l,_,a⟩:=a;have a:=P6 a;cases a;exact((C4.setL _ _ _).trans (C4.newL _ _)).trans (C4.setS _ _ _)
     cases a
   cases a
 . split at a
   . simp only[qI,bind_some]at a;obtain⟨ti,_,c,_,r,_,a⟩:=a;split at a
     . exact B1t (P6 a)
     cases a
   cases a
 . split at a
   . simp only[qI,bind_some]at a;obtain⟨ti,_,a⟩:=a;have a:=P6 a;simp only[bind_some]at a;obtain⟨t,_,f,_,g,_,h,_,i,_,a⟩:=a;split at a
     . simp only[bind_some]at a;obtain⟨j,_,a⟩:=a;have a:=P6 a;cases a;exact(((C4.dropR _ _).trans (C4.setL _ _ _)).trans (C4.newL _ _)).trans (C4.setS _ _ _)
     cases a
   cases a
 cases a
def A5z {φ:Option Prop} {b:St} {op:Op} {c:Option Tmp} (a:AX cx st c op=some (φ,b)):C4 st b:=by
 unfold AX at a;split at a
 . rename_i y d;cases a;exact A1o d
 exact A6s a
def iH {ctx:Jj} {s d:Tmp} {b:Bool} {T:TypeId} {x:Operand} {c:St} (a:iG cx st ctx s b d T x=some c):C4 st c:=by
 simp only[iG,qI,bind_some]at a;obtain⟨ti,_,f,_,a⟩:=a;split at a
 . split at a
   . have a:=P6 a;cases a;exact((C4.newL _ _).trans (C4.setL _ _ _)).trans (C4.setS _ _ _)
   cases a
 cases a
def A6a {d:Tmp} {p:Nat} (h:iR st d p k) (b:∀a,C4 st a->k a->k' a):iR st d p k':=by
 unfold iR at h|-;split at h
 . obtain⟨a,h⟩:=fY h;rw[a];exact⟨λa=>b _ (((C4.setL _ _ _).trans (C4.setL _ _ _)).trans (C4.setS _ _ _)) (h.1 a),λc y f a=>b _ ((C4.setL _ _ _).trans (C4.setS _ _ _)) (h.2 c y f a)⟩
 exact h
def mJ {d:Tmp} {x:Operand} (h:EW st d x k) (b:∀a,C4 st a->k a->k' a):EW st d x k':=by
 unfold EW at h|-;split at h
 . split at h
   . exact A6a h b
   exact h
 exact h
def JP {o:Oper} (h:Xi cx sp all o k st) (a:∀d,C4 st d->k d->k' d):Xi cx sp all o k' st:=by
 obtain⟨t,w,y,x,r,u⟩:=o;unfold Xi at h|-;simp only at h|-;split at h
 . split at h
   . split at h
     . exact F2.2 ⟨(F2.1 h).1,a _ (C4.setS _ _ _) (F2.1 h).2⟩
     exact h
   split at h
   . rename_i b;exact F2.2 ⟨(F2.1 h).1,a _ (A5z b) (F2.1 h).2⟩
   rename_i j;clear j;split at h
   . split at h
     . split at h
       . rename_i b;exact F2.2 ⟨(F2.1 h).1,a _ (A7a b) (F2.1 h).2⟩
       exact h
     exact h
   . split at h
     . split at h
       . rename_i b;exact a _ (ZG b) h
       exact h
     exact h
   . split at h
     . split at h
       . rename_i b;exact a _ (ZG b) h
       exact h
     exact h
   . split at h
     . exact kV h a
     exact h
   . split at h
     . rename_i z str v A s;cases str with
       |true=>exact h
       |false=>exact mJ h a
     exact h
   . split at h
     . split at h
       . rename_i b;exact a _ (A5t b) h
       exact h
     exact h
   . split at h
     . split at h
       . rename_i b;exact a _ (A5a b) h
       exact h
     exact h
   . split at h
     . split at h
       . rename_i b;exact a _ (A4v b) h
       exact h
     exact h
   split at h
   . split at h
     . rename_i f;exact F2.2 ⟨(F2.1 h).1,a _ (B5i f) (F2.1 h).2⟩
     exact h
   exact h
 split at h
 . obtain⟨g,h⟩:=C0 h;simp only[g,qW];split at h
   . obtain⟨n,h⟩:=C0 h;simp only[n,qW];split at h
     . obtain⟨l,h⟩:=C0 h;simp only[l,qW];exact F2.2 ⟨(F2.1 h).1,a _ (C4.setS _ _ _) (F2.1 h).2⟩
     . exact h
     split at h
     . exact eI h a
     . split at h
       . rename_i c;refine a _ ?_ h;simp only[kQ,qI,bind_some]at c;obtain⟨_,_,_,_,_,_,_,_,c⟩:=c;obtain⟨_,c⟩:=E8 c;cases c;exact C4.setS _ _ _
       exact h
     . split at h
       . rename_i i;exact a _ (iH i) h
       exact h
     exact h
   exact h
 exact h
def TP:∀ {ops:List Oper} {k k':St->Prop} {st:St},bH cx sp all ops k st->(∀a,C4 st a->k a->k' a)->bH cx sp all ops k' st
 | [],_,_,st,h,a=>a st (C4.refl st) h
 | _:: _,_,_,_,h,f=>JP h λb a c=>TP c λg b d=>f g (a.trans b) d
end
inductive Xc where
 |val (t:Ty)
 |own (t:Ty) (e:TypeId)
 |ownR (t:Ty) (e e':TypeId)
 |fix (k:Nat)
 |fixB (k:Nat)
def Xc.pin:Xc->Option Nat
 | .fix k=>some k
 | .fixB k=>some k
 | _=>none
@[reducible] def shD:List Xc->Type->Type
 | [],T=>T
 | .val t::r,T=>t.den×shD r T
 | .own t _::r,T=>List t.den×shD r T
 | .ownR t _ _::r,T=>List (List t.den)×shD r T
 | .fix _::r,T=>shD r T
 | .fixB _::r,T=>shD r T
inductive LT where
 |row (t:Ty) (e:TypeId)
 |map (ka:Bool) (kt:Ty) (va:Bool) (vt:Ty)
 |rows (t:Ty) (e e':TypeId)
 |iter (ka:Bool) (kt:Ty) (va:Bool) (vt:Ty)
 |nest (t:Ty) (e e':TypeId)
 |itM (ka:Bool) (kt:Ty) (va:Bool) (vt:Ty) (q:Nat)
@[reducible] def LT.den:LT->Type
 | .row t _=>List t.den
 | .map _ a _ b=>List (a.den×b.den)
 | .rows t _ _=>List (List t.den)
 | .iter _ a _ b=>List (a.den×b.den)
 | .nest t _ _=>List t.den×List Nat
 | .itM _ a _ b _=>List (a.den×b.den)×List (a.den×b.den)
def LT.wf:(l:LT)->l.den->Prop
 | .row t _,x=>(Ty.sl t).wf x
 | .map a b c d,x=>(Ty.mp a b c d).wf x
 | .rows t _ _,x=>(Ty.sl (Ty.sl t)).wf x
 | .iter a b c d,x=>(Ty.mp a b c d).wf x
 | .nest _ _ _,x=>x.1.length<=9223372036854775807
 | .itM a b c d _,x=>(Ty.mp a b c d).wf x.2
def LT.lc:(l:LT)->l.den->LC
 | .row t e,x=> .row t e x
 | .map a b c d,x=> .map a b c d x
 | .rows t e a,x=> .rows t e a x [] none
 | .iter a b c d,x=> .iter a b c d x none
 | .nest t e a,x=> .nest t e a x.1 [] x.2
 | .itM a b c d q,x=> .itM a b c d x.1 x.2 none q
def plugL:List (Nat×LT)->St->St
 | [],a=>a
 | (k, .nest _ _ _)::r,a=>plugL r (giveS a k)
 | (k, .row _ _)::r,a=>plugL r (thaw a k)
 | _::r,a=>plugL r a
def LT.need:LT->Option Nat
 | .itM _ _ _ _ q=>some q
 | _=>none
def A5x (a:St) (t:Ty) (e e':TypeId) (k:Nat):Option (List t.den×List Nat):=match a.L k with
 | .nest f d a c [] b=>if h:f=t then(bif Nat.beq d e&&Nat.beq a e' then some (h▸c,b)else none)else none
 | _=>none
def A5r (a:St) (k:Nat):(l:LT)->Option l.den
 | .row t e=>Xh a t e k
 | .map b c d f=>mapM a b c d f k
 | .rows t e b=>rowsAt a t e b k
 | .iter b d g i=>match a.L k with
  | .iter c f h j n _=>if o:Ty.mp c f h j=Ty.mp b d g i then some (o▸(show(Ty.mp c f h j).den from n):(Ty.mp b d g i).den)else none
  | _=>none
 | .nest t e b=>A5x a t e b k
 | .itM b c f h q=>match a.L k with
  | .itM a d g i j left _ o=>bif Nat.beq q o&&Nat.blt q k then(if n:Ty.mp a d g i=Ty.mp b c f h then some (n▸(show(Ty.mp a d g i).den×(Ty.mp a d g i).den from(j,left)):(Ty.mp b c f h).den×(Ty.mp b c f h).den)else none)else none
  | _=>none
@[reducible] def A2h:List (Nat×LT)->Type
 | []=>Unit
 | (_,t)::r=>t.den×A2h r
structure HT where
 keepS:List Nat
 keepL:List Nat
 modS:List (Nat×Bool×List Xc)
 boxL:List (Nat×TypeId×List Xc)
 rowL:List (Nat×LT)
def C9n:List (Nat×Bool×List Xc)->List Xc->List Xc
 | [],r=>r
 | (_,_,a)::l,r=>a++C9n l r
def C9m:List (Nat×TypeId×List Xc)->List Xc
 | []=> []
 | (_,_,a)::l=>a++C9m l
def HT.shs (A:HT):List Xc:=C9n A.modS (C9m A.boxL)
@[reducible] def HT.den (A:HT):Type:=shD A.shs (A2h A.rowL)
def shW:(shs:List Xc)-> {T:Type} ->(T->Prop)->shD shs T->Prop
 | [],_,q,x=>q x
 | .val t::r,_,q,x=>t.wf x.1/\shW r q x.2
 | .own t _::r,_,q,x=>(Ty.sl t).wf x.1/\shW r q x.2
 | .ownR t _ _::r,_,q,x=>(Ty.sl (Ty.sl t)).wf x.1/\shW r q x.2
 | .fix _::r,_,q,x=>shW r q x
 | .fixB _::r,_,q,x=>shW r q x
def C7d:(l:List (Nat×LT))->A2h l->Prop
 | [],_=>True
 | (_,t)::r,x=>t.wf x.1/\C7d r x.2
def HT.wf (A:HT) (p:A.den):Prop:=shW A.shs (C7d A.rowL) p
def kY (b:St):List (Nat×Bool×List Xc)->List C->Option (List C)
 | [],r=>some r
 | (s,d,shs)::l,r=>match b.S s with
  | .one ⟨c,a⟩=>bif(c==d)&&Nat.beq a.length shs.length then(kY b l r).map (a++ ·)else none
  | _=>none
def kX (b:St):List (Nat×TypeId×List Xc)->Option (List C)
 | []=>some []
 | (k,T,shs)::l=>match b.L k with
  | .box T' a=>bif Nat.beq T' T&&Nat.beq a.length shs.length then(kX b l).map (a++ ·)else none
  | _=>none
def HT.cells (A:HT) (a:St):Option (List C):=(kX a A.boxL).bind (kY a A.modS)
def settleSh:St->List Xc->List C->St
 |b, .val _::r,c::a=>settleSh (settle b [c]) r a
 |b, .own _ _::r,c::a=>settleSh (thawS b ⟨false,[c]⟩) r a
 |b, .ownR _ _ _::r,_::a=>settleSh b r a
 |b, .fix _::r,_::a=>settleSh b r a
 |b, .fixB _::r,_::a=>settleSh b r a
 |a,_,_=>a
def C9c (k:Nat):C->Bool
 | .row j=>Nat.beq j k
 | _=>false
def C9a (k:Nat):C->Bool
 | .box j 0=>Nat.beq j k
 | _=>false
def Ae (a:St):(shs:List Xc)-> {T:Type} ->T->List C->Option (shD shs T)
 | [],_,x,[]=>some x
 | .val t::r,_,x,c::b=>(XS t c).bind λy=>(Ae a r x b).map λz=>(y,z)
 | .own t e::r,_,x,c::b=>(SA a t e c).bind λy=>(Ae a r x b).map λz=>(y,z)
 | .ownR t e d::r,_,x,c::b=>(jG a t e d c).bind λy=>(Ae a r x b).map λz=>(y,z)
 | .fix k::r,_,x,c::b=>bif C9c k c then Ae a r x b else none
 | .fixB k::r,_,x,c::b=>bif C9a k c then Ae a r x b else none
 | _,_,_,_=>none
def B5s (l:List (Nat×LT)) (bl:List (Nat×TypeId×List Xc)):Xc->Bool
 | .fixB k=>bl.any λx=>Nat.beq x.1 k
 | .fix k=>l.any λx=>Nat.beq x.1 k
 | _=>true
def B2g (a:St):(l:List (Nat×LT))->Option (A2h l)
 | []=>some ()
 | (k,t)::r=>(A5r a k t).bind λy=>(B2g a r).map λz=>(y,z)
def O9:List Xc->List C->List Nat
 | .own _ _::r, .row k::a=>k::O9 r a
 | .ownR _ _ _::r, .row k::a=>k::O9 r a
 | _::r,_::a=>O9 r a
 | _,_=> []
def A1e {α:Type} (d:α) (l:List (Nat×α)):List Nat->List (Nat×α)
 | []=> []
 |s::r=>(s,find d s l)::A1e d l r
def gath (A:HT) (b:St):Option (St×A.den):=do
 let c<-A.cells (plugL A.rowL b)
 let a:=settleSh (plugL A.rowL b) A.shs c
 let b<-A.cells a
 let tl<-B2g a A.rowL
 let p<-Ae a A.shs tl b
 bif IX (A.keepL++(O9 A.shs b++((A.rowL.map λx=>x.1)++(A.boxL.map λx=>x.1))))&&A.shs.all (B5s A.rowL A.boxL)then some (a,p)else none
def C6u:(t:Ty)->t.den->C
 | .ptr t,x=> .pf t x 0
 |t,x=> .val t x
def placeSh:(shs:List Xc)-> {T:Type} ->shD shs T->St->List C×St×T
 | [],_,x,a=>([],a,x)
 | .val t::r,_,x,a=>(λp=>(C6u t x.1::p.1,p.2)) (placeSh r x.2 a)
 | .own t e::r,_,x,a=>(λp=>(C.row a.nx::p.1,p.2)) (placeSh r x.2 (a.newL (.row t e x.1)))
 | .ownR t e b::r,_,x,a=>(λp=>(C.row a.nx::p.1,p.2)) (placeSh r x.2 (a.newL (.rows t e b x.1 [] none)))
 | .fix k::r,_,x,a=>(λp=>(C.row k::p.1,p.2)) (placeSh r x a)
 | .fixB k::r,_,x,a=>(λp=>(C.box k 0::p.1,p.2)) (placeSh r x a)
def putRows:(l:List (Nat×LT))->A2h l->St->St
 | [],_,a=>a
 | (k,t)::r,x,a=>putRows r x.2 (a.setL k (t.lc x.1))
def putS:List (Nat×Bool×List Xc)->List C->St->List C×St
 | [],a,b=>(a,b)
 | (s,b,shs)::r,a,c=>putS r (a.drop shs.length) (c.setS s (.one ⟨b,a.take shs.length⟩))
def putB:List (Nat×TypeId×List Xc)->List C->St->St
 | [],_,a=>a
 | (k,T,shs)::r,a,b=>putB r (a.drop shs.length) (b.setL k (.box T (a.take shs.length)))
def B2x:List (Nat×TypeId×List Xc)->Nat->Nat
 | [],n=>n
 |y::r,n=>B2x r (bif Nat.blt y.1 n then n else y.1+1)
def Pu:∀(l:List (Nat×TypeId×List Xc)) (n:Nat),n<=B2x l n
 | [],n=>qT n
 |y::r,n=>by
  refine qY ?_ (Pu r _);cases a:Nat.blt y.1 n with
  |true=>exact qT n
  |false=>
   have:¬y.1<n:=λh=>by rw[show Nat.blt y.1 n=true from by rw[Nat.blt_eq];exact h]at a;cases a
   show n<=y.1+1;omega
def bR:∀ {l:List (Nat×TypeId×List Xc)} {n:Nat},∀y∈l,y.1<B2x l n
 |y::r,n,z,a=>by
  rcases qV.1 a with rfl|a
  . refine rI ?_ (Pu r _);cases b:Nat.blt z.1 n with
    |true=>rw[Nat.blt_eq]at b;exact b
    |false=>exact rN _
  exact bR (l:=r) z a
def kept (A:HT) (a:St):St:=⟨A1e (0, .dead) a.sl A.keepS,A1e (0, .none) a.lc A.keepL,B2x A.boxL a.nx,a.ct+1,a.nm,a.fr⟩
def reflect (A:HT) (a:St) (p:A.den):St:=
 (λq=>(λr=>putB A.boxL r.1 r.2) (putS A.modS q.1 (putRows A.rowL q.2.2 q.2.1))) (placeSh A.shs p (kept A a))
def lS (n:Nat) (g:Nat):Bool:=Nat.ble 1 g&&Nat.ble g n
def B6u (A:HT) (a b:St):Bool:=(A.keepS.all λs=>lS a.ct (b.eS s).1)&&(A.keepL.all λk=>lS a.ct (b.eL k).1)&&(A.rowL.all λx=>Nat.blt x.1 a.nx)&&C6t a.ct b.fr
def PR (A:HT) (b:St) (J:A.den->Prop) (a:St):Prop:=
 match gath A a with
 |some (a,p)=>bif B6u A b a then J p else False
 |none=>False
section
variable {za:Zn} {w0 w:World} {Z:Nat->Prop} {B:Nat->Value} {st st0:St} {E:H5}
def C4.plugL:∀(l:List (Nat×LT)) (st:St),C4 st (plugL l st)
 | [],st=>C4.refl st
 | (k, .nest _ _ _)::r,st=>(C4.giveS st k).trans (C4.plugL r _)
 | (k, .row _ _)::r,st=>(C4.thawS st ⟨false,[.row k]⟩).trans (C4.plugL r _)
 | (_, .map _ _ _ _)::r,st=>C4.plugL r st
 | (_, .rows _ _ _)::r,st=>C4.plugL r st
 | (_, .iter _ _ _ _)::r,st=>C4.plugL r st
 | (_, .itM _ _ _ _ _)::r,st=>C4.plugL r st
def C3.plugL (a:za.b0=0):∀ {l:List (Nat×LT)} {st:St} {Z:Nat->Prop},C3 za w0 st E w Z B->∃Z',C3 za w0 (plugL l st) E w Z' B
 | [],_,Z,h=>⟨Z,h⟩
 | (k, .nest _ _ _)::r,_,_,h=>C3.plugL a (l:=r) (h.giveS a k)
 | (k, .row _ _)::r,_,_,h=>by
  obtain⟨Z1,b⟩:=h.thaw k;exact C3.plugL a (l:=r) b
 | (_, .map _ _ _ _)::r,_,_,h=>C3.plugL a (l:=r) h
 | (_, .rows _ _ _)::r,_,_,h=>C3.plugL a (l:=r) h
 | (_, .iter _ _ _ _)::r,_,_,h=>C3.plugL a (l:=r) h
 | (_, .itM _ _ _ _ _)::r,_,_,h=>C3.plugL a (l:=r) h
def C4.settleSh:∀(shs:List Xc) (cs:List C) (st:St),C4 st (settleSh st shs cs)
 | .val _::r,c::cs,st=>(C4.settle st [c]).trans (C4.settleSh r cs _)
 | .own _ _::r,c::cs,st=>(C4.thawS st ⟨false,[c]⟩).trans (C4.settleSh r cs _)
 | .ownR _ _ _::r,_::cs,st=>C4.settleSh r cs st
 | .ownR _ _ _:: _,[],st=>C4.refl st
 | .fix _::r,_::cs,st=>C4.settleSh r cs st
 | .fixB _::r,_::cs,st=>C4.settleSh r cs st
 | .fixB _:: _,[],st=>C4.refl st
 | [],_,st=>C4.refl st
 | .val _:: _,[],st=>C4.refl st
 | .own _ _:: _,[],st=>C4.refl st
 | .fix _:: _,[],st=>C4.refl st
def C3.settleSh:∀ {shs:List Xc} {cs:List C} {st:St} {Z:Nat->Prop},C3 za w0 st E w Z B->∃Z',C3 za w0 (settleSh st shs cs) E w Z' B
 | .val _::r,c::cs,st,Z,h=>by
  obtain⟨Z1,a⟩:=h.settle [c];exact C3.settleSh (shs:=r) (cs:=cs) a
 | .own _ _::r,c::cs,st,Z,h=>by
  obtain⟨Z1,a⟩:=h.thawS ⟨false,[c]⟩;exact C3.settleSh (shs:=r) (cs:=cs) a
 | .ownR _ _ _::r,_::cs,st,Z,h=>C3.settleSh (shs:=r) (cs:=cs) h
 | .ownR _ _ _:: _,[],st,Z,h=>⟨Z,h⟩
 | .fix _::r,_::cs,st,Z,h=>C3.settleSh (shs:=r) (cs:=cs) h
 | .fixB _::r,_::cs,st,Z,h=>C3.settleSh (shs:=r) (cs:=cs) h
 | .fixB _:: _,[],st,Z,h=>⟨Z,h⟩
 | [],_,st,Z,h=>⟨Z,h⟩
 | .val _:: _,[],st,Z,h=>⟨Z,h⟩
 | .own _ _:: _,[],st,Z,h=>⟨Z,h⟩
 | .fix _:: _,[],st,Z,h=>⟨Z,h⟩
def C4.putRows:∀(l:List (Nat×LT)) (x:A2h l) (st:St),C4 st (putRows l x st)
 | [],_,st=>C4.refl st
 | (k,t)::r,x,st=>(C4.setL st k _).trans (C4.putRows r x.2 _)
def C4.placeSh:∀(shs:List Xc) {T:Type} (x:shD shs T) (st:St),C4 st (placeSh shs x st).2.1
 | [],_,_,st=>C4.refl st
 | .val t::r,_,x,st=>C4.placeSh r x.2 st
 | .own t e::r,_,x,st=>(C4.newL st (.row t e x.1)).trans (C4.placeSh r x.2 _)
 | .ownR t e a::r,_,x,st=>(C4.newL st (.rows t e a x.1 [] none)).trans (C4.placeSh r x.2 _)
 | .fix _::r,_,x,st=>C4.placeSh r x st
 | .fixB _::r,_,x,st=>C4.placeSh r x st
def C4.putS:∀(l:List (Nat×Bool×List Xc)) (cs:List C) (st:St),C4 st (putS l cs st).2
 | [],_,st=>C4.refl st
 | (s,a,shs)::r,cs,st=>(C4.setS st s _).trans (C4.putS r _ _)
def C4.putB:∀(l:List (Nat×TypeId×List Xc)) (cs:List C) (st:St),C4 st (putB l cs st)
 | [],_,st=>C4.refl st
 | (k,T,shs)::r,cs,st=>(C4.setL st k _).trans (C4.putB r _ _)
def C4.reflect (A:HT) (st0:St) (p:A.den):C4 (kept A st0) (reflect A st0 p):=
 (C4.placeSh A.shs p _).trans ((C4.putRows _ _ _).trans ((C4.putS _ _ _).trans (C4.putB _ _ _)))
def IQ {α:Type} (d:α) (l:List (Nat×α)) (q:Nat):∀b:List Nat,find d q (A1e d l b)=if q∈b then find d q l else d
 | []=>rfl
 |s::r=>by
  simp only[A1e,find,IQ d l q r];cases a:Nat.beq s q with
  |true=>have:=qD a;subst this;simp
  |false=>
   have:q≠s:=λh=>by subst h;simp at a
   simp[this]
def mA (A:HT) (st:St) (s:Nat):(kept A st).eS s=if s∈A.keepS then st.eS s else(0, .dead):=IQ ..
def lZ (A:HT) (st:St) (k:Nat):(kept A st).eL k=if k∈A.keepL then st.eL k else(0, .none):=IQ ..
def A2g {A:HT} {p:A.den} {s:Nat} (a:((reflect A st0 p).eS s).1≠0) (b:((reflect A st0 p).eS s).1<=st0.ct):(reflect A st0 p).eS s=st0.eS s:=by
 have e:=(C4.reflect A st0 p).s s a (xA b);rw[e]at a|-;rw[mA]at a|-;split
 . rfl
 rename_i b;rw[qG b]at a;exact absurd rfl a
def nE {A:HT} {p:A.den} {k:Nat} (a:((reflect A st0 p).eL k).1≠0) (b:((reflect A st0 p).eL k).1<=st0.ct):(reflect A st0 p).eL k=st0.eL k:=by
 have e:=(C4.reflect A st0 p).l k a (xA b);rw[e]at a|-;rw[lZ]at a|-;split
 . rfl
 rename_i b;rw[qG b]at a;exact absurd rfl a
structure C0a (n:Nat) (st:St):Prop where
 nms:st.nm=n/\n<=st.nx
 refs:∀s,NC st.nx (st.S s)
 refl:∀k,BJ st.nx (st.L k)
 fresh:∀k,st.nx<=k->st.L k= .none
 frf:oI st.nx st.fr
def C3.pure (h:C3 za w0 st E w Z B):C0a za.n st:=⟨h.nms,h.refs,h.refl,h.fresh,h.frf⟩
structure Jn (za:Zn) (w0:World) (st2:St) (E:H5) (w:World) (Z:Nat->Prop) (B:Nat->Value) (used:List Nat) (st:St) (BX:Nat->Value):Prop where
 rel:C3 za w0 st E w Z BX
 own:∀j b,B7 w (BX j) (st.L j) b->∃q,q∈used/\B7 w (B q) (st2.L q) b
def Jn.disj {a:St} {d:List Nat} {BX:Nat->Value} (f:C3 za w0 a E w Z B) (c:Jn za w0 a E w Z B d st BX) {q:Nat} (h:q∉d):∀k b,B7 w (B q) (a.L q) b->¬B7 w (BX k) (st.L k) b:=λk b a d=>by
 obtain⟨j,i,g⟩:=c.own k b d;exact f.disj q j b (λd=>h (d▸i)) a g
end
section
variable {za:Zn} {w0 w:World} {Z:Nat->Prop} {B:Nat->Value} {st st0 st2:St} {E:H5}
def C3.setSame (h:C3 za w0 st E w Z B) (s:Nat) {x:DV} (c:RD w Z B E x (E s)) (b:NC st.nx x):C3 za w0 (st.setS s x) E w Z B:=by
 have e:upd E s (E s)=E:=by
  funext t;by_cases a:t=s
  . subst a;exact C2 _ _ _
  exact C5 _ _ _ _ a
 have:=h.setS s (x:=x) (v:=E s) (by rw[e];exact c) b;rwa[e]at this
def C5g {A:HT} (a:C3 za w0 st2 E w Z B) (d:C0a za.n st0) (c:∀s∈A.keepS,st2.eS s=st0.eS s) (b:∀k∈A.keepL,st2.eL k=st0.eL k) (j:st2.fr=st0.fr):Jn za w0 st2 E w Z B A.keepL (kept A st0) B:=by
 have eS:∀s,(kept A st0).S s=if s∈A.keepS then st2.S s else .dead:=λs=>by
  show((kept A st0).eS s).2= _;rw[mA];split
  . rename_i f;rw[<-c s f];rfl
  rfl
 have eL:∀k,(kept A st0).L k=if k∈A.keepL then st2.L k else .none:=λk=>by
  show((kept A st0).eL k).2= _;rw[lZ];split
  . rename_i c;rw[<-b k c];rfl
  rfl
 have i:∀s,(kept A st0).S s=if s∈A.keepS then st0.S s else .dead:=λs=>by
  show((kept A st0).eS s).2= _;rw[mA];split<;>rfl
 have g:∀k,(kept A st0).L k=if k∈A.keepL then st0.L k else .none:=λs=>by
  show((kept A st0).eL s).2= _;rw[lZ];split<;>rfl
 have f:∀k b,B7 w (B k) ((kept A st0).L k) b->k∈A.keepL/\B7 w (B k) (st2.L k) b:=λk b c=>by
  rw[eL]at c;split at c
  . rename_i h;exact⟨h,c⟩
  exact c.elim
 refine⟨⟨a.ext,a.zlt,λs=>?_,λk=>?_,λk h b l o r=>a.disj k h b l (f k b o).2 (f h b r).2,λs=>?_,λk=>?_,λk c=>?_,a.bone,a.zin,⟨d.nms.1,qY d.nms.2 (Pu _ _)⟩,a.bfix,⟨a.mrk.1,λk b c h=>a.mrk.2 k b c (f k b h).2⟩,(by have:=a.frs;rw[j]at this;exact this),d.frf.le (Pu _ _)⟩,λj b h=>⟨j,(f j b h).1,(f j b h).2⟩⟩
 . rw[eS];split
   . exact a.slots s
   trivial
 . rw[eL];split
   . exact a.locs k
   trivial
 . rw[i];split
   . exact(d.refs s).le (Pu _ _)
   trivial
 . rw[g];split
   . exact(d.refl k).le (Pu _ _)
   trivial
 rw[g];split
 . exact d.fresh k (qY (Pu _ _) c)
 rfl
def SB (j:C3 za w0 st2 E w Z B) {t:Ty} {e:TypeId} {c:C} {l:List t.den} {v:Value} (o:RC w Z B c v) (a:SA st2 t e c=some l):
 ∃xs,w.ownsRow w0.heap.size e t.size v l.length xs/\G8 (C9 t w Z) xs l/\(∀b,v.ownBlock=some b->¬Z b)/\((∃q,c= .row q/\live (st2.L q)/\v=B q)\/(root v=none/\∀q,c≠ .row q)):=by
 unfold SA at a;split at a
 . rename_i q;split at a
   . rename_i G A F f;split at a
     . rename_i x;subst x;obtain⟨g,a⟩:=E8 a;cases a;simp only[qC]at g;have D:=qS g.2;have u:=qD g.1;subst u;have n:=j.locs q;rw[f]at n;obtain⟨xs,r,s,k⟩:=n;have h:v=B q:=o;subst h;have z:∀b,(B q).ownBlock=some b->w0.heap.size<=b:=λb d=>by
        rcases(k b d).1 with i|i
        . exact i.2
        have:=j.nms.1;omega
       exact⟨xs,mU r z,s,λb d=>(k b d).2, .inl ⟨q,rfl,by rw[f];trivial,rfl⟩⟩
     cases a
   cases a
 . obtain⟨y,a⟩:=E8 a;cases a;have h:v= .slice none 0 0:=by rw[o.1];exact Hb y
   subst h;exact⟨[],World.ownsRow_nil _ _ _ _,rfl,λb d=>(by cases d), .inr ⟨rfl,λq f=>(by cases f)⟩⟩
 cases a
def A2k (j:C3 za w0 st2 E w Z B) {t:Ty} {e e':TypeId} {c:C} {ls:List (List t.den)} {v:Value} (k:RC w Z B c v) (a:jG st2 t e e' c=some ls):
 Cp w Z t e e' v ls/\v.oneCell'=true/\(∀b,B7 w v (.rows t e e' ls [] none) b->¬Z b/\w0.heap.size<=b/\b<w.heap.size)/\((∃q,c= .row q/\v=B q/\∀b,B7 w v (.rows t e e' ls [] none) b->B7 w (B q) (st2.L q) b)\/((∀b,¬B7 w v (.rows t e e' ls [] none) b)/\∀q,c≠ .row q)):=by
 unfold jG at a;split at a
 . rename_i q;obtain⟨h,a⟩:=E8 a;obtain⟨al,o⟩:=Af a;obtain⟨n,g⟩:=j.rowsAt o (qS h);have f:v=B q:=k;subst f;exact⟨n,j.bone q,λb d=>⟨(g b d).1,(g b d).2.1,(g b d).2.2.1⟩, .inl ⟨q,rfl,rfl,λb d=>(g b d).2.2.2⟩⟩
 . obtain⟨s,a⟩:=E8 a;cases a;have f:v= .slice none 0 0:=by rw[k.1];exact Hb s
   exact⟨⟨[],by rw[f];exact World.ownsRow_nil _ _ _ _,λl y u r=>(by simp at r),λl x u v b _ i=>(by simp at i),λl u b i=>(by simp at i)⟩,by rw[f];rfl,λb d=>absurd d (ZR f), .inr ⟨λb=>ZR f,λq h=>(by cases h)⟩⟩
 cases a
def C2a {t:Ty} {v:Value} {x:t.den} (h:C9 t w Z [v] x):RC w Z B (C6u t x) v:=by
 cases t with
 |ptr t=>
  obtain⟨b,o,a,e,r⟩:=h;simp only[sN,vR]at e;exact⟨b,o,a,by rw[e];rfl,r⟩
 | _=>exact h
def B7z {n:Nat} {t:Ty} {x:t.den} :Cu n (C6u t x):=by cases t<;>trivial
def Sx (l:za.b0=0) (f:C3 za w0 st2 E w Z B):∀ {shs:List Xc} {T:Type} {tl:T} {cs:List C} {vs:List Value} {p:shD shs T} {st:St} {BX:Nat->Value} {a:List Nat},Jn za w0 st2 E w Z B a st BX->Cz w Z B cs vs->Ae st2 shs tl cs=some p->(∀q∈O9 shs cs,q∉a)->(O9 shs cs).Nodup->(∀c∈shs,∀k,c.pin=some k->k<st.nx/\BX k=B k)->
 ∃BX',Jn za w0 st2 E w Z B (O9 shs cs++a) (placeSh shs p st).2.1 BX'/\Cz w Z BX' (placeSh shs p st).1 vs/\(∀c∈(placeSh shs p st).1,Cu (placeSh shs p st).2.1.nx c)/\(∀k,k<st.nx->BX' k=BX k)/\st.nx<=(placeSh shs p st).2.1.nx/\(placeSh shs p st).2.2=tl
 | [],_,tl,[],vs,p,st,BX,a,c,d,b,_,_,_=>by
  simp only[Ae,rF]at b;exact⟨BX,c,d,by simp[placeSh],λ_ _=>rfl,qT _,b.symm⟩
 | [],_,_,_:: _,_,_,_,_,_,_,_,b,_,_,_=>by cases b
 | .val t::r,_,_,[],_,_,_,_,_,_,_,b,_,_,_=>by cases b
 | .own t e::r,_,_,[],_,_,_,_,_,_,_,b,_,_,_=>by cases b
 | .ownR t e d::r,_,_,[],_,_,_,_,_,_,_,b,_,_,_=>by cases b
 | .fix k::r,_,_,[],_,_,_,_,_,_,_,b,_,_,_=>by cases b
 | .fixB k::r,_,_,[],_,_,_,_,_,_,_,b,_,_,_=>by cases b
 | .fix k::u,T,tl,d::cs,vs,p,st,BX,a,c,⟨v,I,e,G,H⟩,b,t,s,o=>by
  simp only[Ae]at b;obtain⟨r,b⟩:=E8 b;have D:O9 (.fix k::u) (d::cs)=O9 u cs:=by cases d<;>rfl
  rw[D]at t s|-;obtain⟨BX',x,y,z,i,n,A⟩:=Sx l f c H b t s (λj F=>o j (qJ _ F));subst e;have g:=o _ rD k rfl;cases d with
  |row j=>
   have:=qD r;subst this;refine⟨BX',x,⟨v,I,rfl,?_,y⟩,λq h=>?_,i,n,A⟩
   . show v=BX' j;rw[i j g.1,g.2];exact G
   rcases qV.1 h with rfl|h
   . exact rI g.1 n
   exact z q h
  | _=>cases r
 | .fixB k::x,T,tl,d::cs,vs,p,st,BX,a,c,⟨v,O,e,M,N⟩,b,t,s,r=>by
  simp only[Ae]at b;obtain⟨g,b⟩:=E8 b;have H:O9 (.fixB k::x) (d::cs)=O9 x cs:=by cases d<;>rfl
  rw[H]at t s|-;obtain⟨BX',z,A,D,n,o,F⟩:=Sx l f c N b t s (λj I=>r j (qJ _ I));subst e;have h:=r _ rD k rfl;cases d with
  |box j u=>
   cases u with
   |succ u=>cases g
   |zero=>
   have:=qD g;subst this;refine⟨BX',z,⟨v,O,rfl,?_,A⟩,λq i=>?_,n,o,F⟩
   . obtain⟨y,G,J⟩:=M;exact⟨y,by rw[n j h.1,h.2];exact G,J⟩
   rcases qV.1 i with rfl|i
   . exact rI h.1 o
   exact D q i
  | _=>cases g
 | .val I::r,T,tl,d::cs,vs,p,st,BX,a,c,⟨v,J,e,A,D⟩,h,i,g,x=>by
  simp only[Ae,bind_some,qL]at h;obtain⟨M,F,N,G,rfl⟩:=h;have y:O9 (.val I::r) (d::cs)=O9 r cs:=by cases d<;>rfl
  rw[y]at i g|-;obtain⟨BX',j,n,o,s,t,u⟩:=Sx l f c D G i g (λH z=>x H (qJ _ z));subst e;refine⟨BX',j,⟨v,J,rfl,C2a (kO A F),n⟩,λq b=>?_,s,t,u⟩;rcases qV.1 b with rfl|b
  . exact B7z
  exact o q b
 | .ownR t i j::r,T,tl,G::cs,vs,p,st,BX,a,c,⟨v,ag,e,a9,ab⟩,F,u,A,a3=>by
  simp only[Ae,bind_some,qL]at F;obtain⟨x,a5,ai,ac,rfl⟩:=F;subst e;obtain⟨ae,aa,O,af⟩:=A2k f a9 a5;have ad:∃h,Jn za w0 st2 E w Z B h (st.newL (.rows t i j x [] none)) (upd BX st.nx v)/\(∀q∈O9 r cs,q∉h)/\(O9 r cs).Nodup/\(∀q,q∈O9 (.ownR t i j::r) (G::cs)++a↔q∈O9 r cs++h):=by
   have mk:∀h,(∀q∈a,q∈h)->(∀b,B7 w v (.rows t i j x [] none) b->∃q,q∈h/\B7 w (B q) (st2.L q) b)->(∀k b,B7 w v (.rows t i j x [] none) b->¬B7 w (BX k) (st.L k) b)->Jn za w0 st2 E w Z B h (st.newL (.rows t i j x [] none)) (upd BX st.nx v):=by
    intro h a7 s a2;refine⟨c.rel.new (v:=v) (lc:= .rows t i j x [] none) (Cp.rl (by rw[C2];exact ae) λb d=>by rw[C2]at d;exact⟨.inl ⟨c.rel.nms.2,(O b d).2.1⟩,(O b d).1,(O b d).2.2⟩) a2 (λp F=>by cases F) aa (λb _ _=>by rw[l];exact rQ _),λo b g=>?_⟩;rw[St.L_newL]at g;by_cases M:o=st.nx
    . subst M;rw[C2,qK rfl]at g;exact s b g
    rw[qG M,C5 _ _ _ _ M]at g;obtain⟨q,H,I⟩:=c.own o b g;exact⟨q,a7 q H,I⟩
   rcases af with⟨q,rfl,ah,U⟩ | ⟨V,a6⟩
   . have J:O9 (.ownR t i j::r) (.row q::cs)=q::O9 r cs:=rfl;rw[J]at u A|-;have D:=sS.1 A;refine⟨q::a,mk _ (λy n=>qJ _ n) (λb d=>⟨q,by simp,U b d⟩) (λk b d=>?_),λy n=>?_,D.2,λy=>by grind⟩
     . exact c.disj f (u q (by simp)) k b (U b d)
     intro N;rcases qV.1 N with rfl|N
     . exact D.1 n
     exact u y (qJ _ n) N
   have J:O9 (.ownR t i j::r) (G::cs)=O9 r cs:=by cases G<;>first|rfl|exact absurd rfl (a6 _)
   rw[J]at u A|-;exact⟨a,mk _ (λy n=>n) (λb d=>absurd d (V b)) (λk b d=>absurd d (V b)),u,A,λy=>yA⟩
  obtain⟨h,W,a8,D,a4⟩:=ad;obtain⟨BX',P,X,Y,Q,R,a0⟩:=Sx l f W ab ac a8 D (λo g k z=>by
   obtain⟨d,b⟩:=a3 o (qJ _ g) k z;exact⟨uQ d,(C5 _ _ _ _ (uE d)).trans b⟩)
  have a1:BX' st.nx=v:=by rw[Q st.nx (rN _),C2]
  refine⟨BX',⟨P.rel,λo b g=>?_⟩,⟨v,ag,rfl,a1.symm,X⟩,λq s=>?_,λk z=>?_,qY (uI _) R,a0⟩
  . obtain⟨q,H,I⟩:=P.own o b g;exact⟨q,(a4 q).2 H,I⟩
  . rcases qV.1 s with rfl|s
    . exact rI (rN _) R
    exact Y q s
  rw[Q k (uQ z),C5 _ _ _ _ (uE z)]
 | .own t i::r,T,tl,D::cs,vs,p,st,BX,a,c,⟨v,ai,e,aa,ac⟩,U,s,y,a4=>by
  simp only[Ae,bind_some,qL]at U;obtain⟨M,a6,am,ad,rfl⟩:=U;subst e;obtain⟨aj,A,af,ag,ah⟩:=SB f aa a6;have ab:v.oneCell'=true:=by rcases A.2 with⟨V,_⟩ | ⟨_,_,_,V,_⟩<;>rw[V]<;>rfl
  have ak:=E9 A;have ae:∃h,Jn za w0 st2 E w Z B h (st.newL (.row t i M)) (upd BX st.nx v)/\(∀q∈O9 r cs,q∉h)/\(O9 r cs).Nodup/\(∀q,q∈O9 (.own t i::r) (D::cs)++a↔q∈O9 r cs++h):=by
   have mk:∀h,(∀q∈a,q∈h)->(∀b,root v=some b->∃q,q∈h/\B7 w (B q) (st2.L q) b)->(∀k b,root v=some b->¬B7 w (BX k) (st.L k) b)->Jn za w0 st2 E w Z B h (st.newL (.row t i M)) (upd BX st.nx v):=by
    intro h a8 o a3;refine⟨c.rel.new (v:=v) (lc:= .row t i M) ⟨aj,by rw[C2];exact Mu A (rQ _),af,λb d=>by rw[C2]at d;exact⟨.inl ⟨c.rel.nms.2,(World.ownsRow.lt A b d).1⟩,ag b d⟩⟩ a3 trivial ab (λb _ _=>by rw[l];exact rQ _),λn b g=>?_⟩;rw[St.L_newL]at g;by_cases I:n=st.nx
    . subst I;rw[C2,qK rfl]at g;exact o b g
    rw[qG I,C5 _ _ _ _ I]at g;obtain⟨q,F,G⟩:=c.own n b g;exact⟨q,a8 q F,G⟩
   rcases ah with⟨q,rfl,Q,W⟩ | ⟨R,a7⟩
   . have H:O9 (.own t i::r) (.row q::cs)=q::O9 r cs:=rfl;rw[H]at s y|-;have z:=sS.1 y;refine⟨q::a,mk _ (λx j=>qJ _ j) (λb d=>⟨q,by simp,B7.of Q (by rw[<-W];exact d)⟩) (λk b d=>?_),λx j=>?_,z.2,λx=>by grind⟩
     . rw[W]at d;exact c.disj f (s q (by simp)) k b (B7.of Q d)
     intro J;rcases qV.1 J with rfl|J
     . exact z.1 j
     exact s x (qJ _ j) J
   have H:O9 (.own t i::r) (D::cs)=O9 r cs:=by cases D<;>first|rfl|exact absurd rfl (a7 _)
   rw[H]at s y|-;exact⟨a,mk _ (λx j=>j) (λb d=>by rw[R]at d;cases d) (λk b d=>by rw[R]at d;cases d),s,y,λx=>yA⟩
  obtain⟨h,X,a9,z,a5⟩:=ae;obtain⟨BX',N,Y,a0,O,P,a1⟩:=Sx l f X ac ad a9 z (λn g k u=>by
   obtain⟨d,b⟩:=a4 n (qJ _ g) k u;exact⟨uQ d,(C5 _ _ _ _ (uE d)).trans b⟩)
  have a2:BX' st.nx=v:=by rw[O st.nx (rN _),C2]
  refine⟨BX',⟨N.rel,λn b g=>?_⟩,⟨v,ai,rfl,a2.symm,Y⟩,λq o=>?_,λk u=>?_,qY (uI _) P,a1⟩
  . obtain⟨q,F,G⟩:=N.own n b g;exact⟨q,(a5 q).2 F,G⟩
  . rcases qV.1 o with rfl|o
    . exact rI (rN _) P
    exact a0 q o
  rw[O k (uQ u),C5 _ _ _ _ (uE u)]
end
section
variable {za:Zn} {w0 w:World} {Z:Nat->Prop} {B:Nat->Value} {st st0 st2:St} {E:H5}
def WW (E:H5):List (Nat×Bool×List Xc)->List Value->List Value->Prop
 | [],b,a=>b=a
 | (s,b,shs)::l,f,d=>∃a c,f=a++c/\a.length=shs.length/\(b=true->E s= .agg a.toArray)/\(b=false->a= [E s])/\WW E l c d
def kC (za:Zn) (w0:World) (w:World) (Z:Nat->Prop) (B:Nat->Value) (st2:St):List (Nat×TypeId×List Xc)->List Value->Prop
 | [],a=>a= []
 | (k,T,shs)::l,d=>∃a c,d=a++c/\a.length=shs.length/\live (st2.L k)/\(∃b,B k= .pointer (some ⟨b,0,none⟩)/\up za w0 k b/\¬Z b/\KR w b a.toArray T)/\kC za w0 w Z B st2 l c
def gD (f:C3 za w0 st2 E w Z B):∀ {l:List (Nat×Bool×List Xc)} {r cs:List C} {b:List Value},Cz w Z B r b->kY st2 l r=some cs->∃vs,Cz w Z B cs vs/\WW E l vs b
 | [],r,cs,b,a,h=>by cases h;exact⟨b,a,rfl⟩
 | (s,z,shs)::l,r,cs,b,x,h=>by
  simp only[kY]at h;split at h
  . rename_i n o y;obtain⟨c,h⟩:=E8 h;simp only[qL]at h;obtain⟨A,t,rfl⟩:=h;simp only[qC,g1p]at c;obtain⟨u,c⟩:=c;subst u;have j:=qD c;obtain⟨d,g,i⟩:=gD f x t;have a:=f.slots s;rw[y]at a;cases n with
    |true=>
     obtain⟨k,e,a⟩:=a;exact⟨k++d,a.append g,k,d,rfl,by rw[<-j,a.len],λ_=>e,λv=>(by cases v),i⟩
    |false=>
     have a:Cz w Z B o [E s]:=a;exact⟨[E s]++d,a.append g,[E s],d,rfl,by rw[<-j,a.len],λk=>(by cases k),λ_=>rfl,i⟩
  cases h
def gC (b:C3 za w0 st2 E w Z B):∀ {l:List (Nat×TypeId×List Xc)} {cs:List C},kX st2 l=some cs->∃vs,Cz w Z B cs vs/\kC za w0 w Z B st2 l vs
 | [],cs,h=>by cases h;exact⟨[],rfl,rfl⟩
 | (v,T,shs)::l,cs,h=>by
  simp only[kX]at h;split at h
  . rename_i T' x f;obtain⟨a,h⟩:=E8 h;simp only[qL]at h;obtain⟨y,j,rfl⟩:=h;simp only[qC]at a;have t:=qD a.1;subst t;have u:=qD a.2;obtain⟨g,k,n⟩:=gC b j;have d:=b.locs v;rw[f]at d;obtain⟨i,vs,e,o,r,s,c⟩:=d;exact⟨vs.toList++g,c.append k,vs.toList,g,rfl,by rw[<-u,c.len],by rw[f];trivial,⟨i,e,o,r,by simpa using s⟩,n⟩
  cases h
def iO {k:Nat} {t:Ty} {e e':TypeId} {x:List t.den×List Nat} (a:A5x st2 t e e' k=some x):st2.L k= .nest t e e' x.1 [] x.2:=by
 unfold A5x at a;split at a
 . rename_i j f g i h d;split at a
   . rename_i c;subst c;obtain⟨b,a⟩:=E8 a;cases a;simp only[qC]at b;rw[d,qD b.1,qD b.2]
   cases a
 cases a
def YW {k q:Nat} {c f:Bool} {d g:Ty} {x:(LT.itM c d f g q).den} (a:A5r st2 k (.itM c d f g q)=some x):∃cur,st2.L k= .itM c d f g x.1 x.2 cur q/\q<k:=by
 simp only[A5r]at a;split at a
 . rename_i l n r s j left cur o i;obtain⟨b,a⟩:=E8 a;simp only[qC]at b;split at a
   . rename_i h;cases h;cases a;have:=qD b.1;subst this;exact⟨cur,i,qS b.2⟩
   cases a
 cases a
def iE {k q:Nat} {t:LT} {x:t.den} (b:A5r st2 k t=some x) (a:t.need=some q):q<k:=by
 cases t with
 |itM c d g h f=>cases a;exact(YW b).choose_spec.2
 | _=>cases a
def MC (b:C3 za w0 st2 E w Z B) {k:Nat} {t:LT} {x:t.den} (a:A5r st2 k t=some x):live (st2.L k)/\RL (up za w0 k) w Z B k (t.lc x)/\t.wf x:=by
 cases t with
 |row t e=>
  have d:=Jx a;have c:=b.locs k;rw[d]at c;refine⟨by rw[d];trivial,c,?_⟩;obtain⟨h,f,g,_⟩:=c;exact C9.wf (Cr (Z:=λ_=>True) f (g.mono λ_ _=>C9.mono (λ_ _=>trivial) (λ_ _=>rfl)) (λ_ _=>trivial))
 |map n o r s=>
  have d:=WH a;have c:=b.locs k;rw[d]at c;refine⟨by rw[d];trivial,c,?_⟩;obtain⟨i,l,j,e,_,_,f,h,g⟩:=c;exact C9.wf (mE (Z:=λ_=>True) f h (g.mono (λ_ _=>trivial) (λ_ _=>rfl)) trivial)
 |rows t e o=>
  obtain⟨al,d⟩:=Af a;have f:=b.locs k;have c:=f;rw[d]at c;have c:=c.rowsR;refine⟨by rw[d];trivial,c.rl λj l=>?_,c.wf⟩;have n:B7 w (B k) (st2.L k) j:=by rw[d];exact(W9 λ_ _=>rfl).1 l
  obtain⟨g,h,i⟩:=f.root n;exact⟨g,i,h⟩
 |iter J N P R=>
  simp only[A5r]at a;cases d:st2.L k with
  |iter M O Q T I H=>
   rw[d]at a;simp only at a;split at a
   . rename_i D;cases D;cases a;have l:=b.locs k;rw[d]at l;obtain⟨G,e,z,A,j⟩:=l;refine⟨trivial,⟨G,e,z,A,j.imp (λh=>⟨h.1,h.2.1,rfl⟩) fun⟨m,seen,i,g,n,o,r,s,f,F⟩=>⟨m,seen,i,g,n,o,r,s,f,λx c=>by cases c⟩⟩,?_⟩;rcases j with⟨_,h,_⟩ | ⟨m,seen,i,g,n,o,r,s,f,F⟩
     . rw[h];intro x c;cases c
     intro x c;obtain⟨m,_,u,v⟩:=T5.mem f c;exact⟨V4.wf' (λ_ _=>C9.wf) u,V4.wf' (λ_ _=>C9.wf) v⟩
   cases a
  | _=>rw[d]at a;cases a
 |nest t e h=>
  have d:=iO a;have c:=b.locs k;rw[d]at c;refine⟨by rw[d];trivial,c,?_⟩;obtain⟨l,g,_⟩:=c;rcases g.own.2 with⟨_,j⟩ | ⟨_,_,_,_,_,_,i,f,_⟩
  . show x.1.length<= _;omega
  show x.1.length<= _;simp only[maxLen]at f;omega
 |itM D F G H q=>
  obtain⟨A,f,_⟩:=YW a;have d:=b.locs k;rw[f]at d;obtain⟨z,m,seen,j,g,h,i,c,o,r,s,u⟩:=d;refine⟨by rw[f];trivial,⟨z,m,seen,j,g,h,i,⟨c.it,c.mp,c.ok,c.all,c.rest,λx v=>(by cases v)⟩,o,r,s,u⟩,λy hy=>?_⟩;obtain⟨m,_,l,n⟩:=T5.mem c.rest hy;exact⟨V4.wf' (λ_ _=>C9.wf) l,V4.wf' (λ_ _=>C9.wf) n⟩
def RL.setB {U:Nat->Prop} {B':Nat->Value} {k:Nat} {t:LT} {x:t.den} (h:RL U w Z B k (t.lc x)) (e:B' k=B k) (d:∀q,t.need=some q->B' q=B q):RL U w Z B' k (t.lc x):=by
 cases t with
 |nest t g i=>
  obtain⟨f,a,b⟩:=h;exact⟨f,⟨by rw[e];exact a.own,λp c=>(by cases c),a.elt,a.dis,by rw[e];exact a.top⟩,by rw[e];exact b⟩
 |itM i j l n q=>
  obtain⟨r,m,seen,f,a,b,c,g⟩:=h;exact⟨r,m,seen,f,a,e.trans b,(d q rfl).trans c,g⟩
 |row t g=>obtain⟨f,a,b,c⟩:=h;exact⟨f,by rw[e];exact a,b,by rw[e];exact c⟩
 |map g i j l=>obtain⟨b,f,c,a,r⟩:=h;exact⟨b,f,c,e.trans a,r⟩
 |iter c f g i=>obtain⟨r,a,b⟩:=h;exact⟨r,e.trans a,b⟩
 |rows t l n=>
  obtain⟨j,a,⟨o,b,c⟩,f,g⟩:=h;exact⟨j,by rw[e];exact a,⟨λp i=>(by cases i),b,c⟩,by rw[e];exact f,by rw[e];exact g⟩
def C1n (c:C3 za w0 st2 E w Z B) {k b:Nat} {t:LT} {x:t.den} (a:A5r st2 k t=some x) (h:B7 w (B k) (t.lc x) b):B7 w (B k) (st2.L k) b:=by
 cases t with
 |row t e=>exact B7.of (MC c a).1 h
 |map d f g i=>exact B7.of (MC c a).1 h
 |iter d f g i=>exact B7.of (MC c a).1 h
 |rows t e f=>
  obtain⟨al,d⟩:=Af a;rw[d];exact(W9 λ_ _=>rfl).1 h
 |nest t e d=>rw[iO a];exact h
 |itM g i j l q=>obtain⟨f,d,_⟩:=YW a;rw[d];exact h
def aV (d:C3 za w0 st2 E w Z B) {BX:Nat->Value} {n0:Nat} (s:∀k,k<n0->BX k=B k):∀ {l:List (Nat×LT)} {x:A2h l} {st:St} {c:List Nat},Jn za w0 st2 E w Z B c st BX->n0<=st.nx->B2g st2 l=some x->(∀y∈l,y.1<n0)->(∀y∈l,y.1∉c)->(l.map λy=>y.1).Nodup->
 Jn za w0 st2 E w Z B ((l.map λy=>y.1)++c) (putRows l x st) BX/\(putRows l x st).nx=st.nx
 | [],_,st,c,a,_,_,_,_,_=>⟨a,rfl⟩
 | (k,t)::Q,x,st,c,o,H,n,G,I,v=>by
  simp only[B2g,bind_some,qL]at n;obtain⟨l,i,R,O,rfl⟩:=n;have h:=G (k,t) (by simp);have F:=I (k,t) (by simp);simp only at h F;obtain⟨P,J,_⟩:=MC d i;have D:BX k=B k:=s k h;simp only[rT,sS]at v;have u:∀b,B7 w (BX k) (t.lc l) b->B7 w (B k) (st2.L k) b:=λb f=>C1n d i (by rw[<-D];exact f)
  have c1:Jn za w0 st2 E w Z B (k::c) (st.setL k (t.lc l)) BX:=by
   refine⟨o.rel.addL ω (J.setB D λq N=>s q (Nat.lt_trans (iE i N) h)) (λj b _ f a=>?_) (by cases t<;>first|trivial|exact λp n=>(by cases n) |exact rI (Nat.lt_trans (iE i rfl) h) H) (λb hk f=>d.mrk.2 k b hk (u b f)),λj b a=>?_⟩
   . exact o.disj d F j b (u b f) a
   rw[St.L_setL]at a;by_cases g:j=k
   . subst g;rw[qK rfl]at a;exact⟨j,by simp,u b a⟩
   rw[qG g]at a;obtain⟨q,A,r⟩:=o.own j b a;exact⟨q,qJ _ A,r⟩
  obtain⟨z,M⟩:=aV d s c1 H O (λy hy=>G y (qJ _ hy)) (λy hy=>by
   intro g;rcases qV.1 g with g|g
   . exact v.1 (g▸vY hy)
   exact I y (qJ _ hy) g) v.2
  refine⟨⟨z.rel,λj b a=>?_⟩,M⟩;obtain⟨q,A,r⟩:=z.own j b a;refine⟨q,?_,r⟩;simp only[rT];grind
def A9j {BX:Nat->Value} :∀ {l:List (Nat×Bool×List Xc)} {cs:List C} {vs d:List Value} {st:St} {b:List Nat},Jn za w0 st2 E w Z B b st BX->Cz w Z BX cs vs->WW E l vs d->(∀c∈cs,Cu st.nx c)->
 Jn za w0 st2 E w Z B b (putS l cs st).2 BX/\Cz w Z BX (putS l cs st).1 d/\(∀c∈(putS l cs st).1,Cu st.nx c)/\(putS l cs st).2.nx=st.nx
 | [],cs,vs,d,st,b,c,a,g,f=>by rw[show vs=d from g]at a;exact⟨c,a,f,rfl⟩
 | (s,f,shs)::l,cs,vs,d,st,b,c,j,⟨t,u,e,h,n,o,r⟩,i=>by
  subst e;have a:=j.take shs.length;have g:=j.drop shs.length;rw[<-h,g3p]at a;rw[<-h,g3n]at g;rw[h]at a g;have k:RS w Z BX ⟨f,cs.take shs.length⟩ (E s):=by
   cases f with
   |true=>exact⟨t,n rfl,a⟩
   |false=>rw[o rfl]at a;exact a
  have c1:Jn za w0 st2 E w Z B b (st.setS s (.one ⟨f,cs.take shs.length⟩)) BX:=⟨c.rel.setSame s k (λx hx=>i x (rU hx)),c.own⟩;have:=A9j (l:=l) (cs:=cs.drop shs.length) c1 g r (λx hx=>i x (vP hx));exact this
def A9i (g:C3 za w0 st2 E w Z B) {BX:Nat->Value} {n0:Nat} (s:∀k,k<n0->BX k=B k):∀ {l:List (Nat×TypeId×List Xc)} {cs:List C} {vs:List Value} {st:St} {f:List Nat},Jn za w0 st2 E w Z B f st BX->n0<=st.nx->Cz w Z BX cs vs->kC za w0 w Z B st2 l vs->(∀c∈cs,Cu st.nx c)->(∀y∈l,y.1<n0)->(∀y∈l,y.1∉f)->(l.map λy=>y.1).Nodup->
 C3 za w0 (putB l cs st) E w Z BX
 | [],_,_,st,f,c,_,_,_,_,_,_,_=>c.rel
 | (k,T,shs)::l,cs,vs,st,f,c,Q,F,⟨W,X,e,i,P,⟨H,I,M,R,N⟩,U⟩,u,D,G,n=>by
  subst e;have b:=F.take shs.length;have d:=F.drop shs.length;rw[<-i,g3p]at b;rw[<-i,g3n]at d;rw[i]at b d;have z:=D (k,T,shs) (by simp);have A:=G (k,T,shs) (by simp);simp only at z A;have t:BX k=B k:=s k z;simp only[rT,sS]at n;have h:∀q,B7 w (BX k) (.box T (cs.take shs.length)) q->B7 w (B k) (st2.L k) q:=λq o=>B7.of P (by rw[<-t];exact o)
  have c1:Jn za w0 st2 E w Z B (k::f) (st.setL k (.box T (cs.take shs.length))) BX:=by
   refine⟨c.rel.addL ω ⟨H,W.toArray,t.trans I,M,R,N,by simpa using b⟩ (λj q _ o a=>?_) (λx r=>u x (rU r)) (λq O J=>g.mrk.2 k q O (h q J)),λj q a=>?_⟩
   . exact c.disj g A j q (h q o) a
   rw[St.L_setL]at a;by_cases v:j=k
   . subst v;rw[qK rfl]at a;exact⟨j,by simp,h q a⟩
   rw[qG v]at a;obtain⟨V,b,d⟩:=c.own j q a;exact⟨V,qJ _ b,d⟩
  have:=A9i (l:=l) (cs:=cs.drop shs.length) g s c1 Q d U (λx r=>u x (vP r)) (λy hy=>D y (qJ _ hy)) (λy hy=>by
   intro a;rcases qV.1 a with a|a
   . exact n.1 (a▸vY hy)
   exact G y (qJ _ hy) a) n.2
  exact this
def Ly (a:C3 za w0 st2 E w Z B):∀ {shs:List Xc} {T:Type} {tl:T} {q:T->Prop} {cs:List C} {vs:List Value} {p:shD shs T},q tl->Cz w Z B cs vs->Ae st2 shs tl cs=some p->shW shs q p
 | [],_,tl,q,[],vs,p,c,_,b=>by simp only[Ae,rF]at b;subst b;exact c
 | [],_,_,_,_:: _,_,_,_,_,b=>by cases b
 | .val t::r,_,_,_,[],_,_,_,_,b=>by cases b
 | .own t e::r,_,_,_,[],_,_,_,_,b=>by cases b
 | .ownR t e c::r,_,_,_,[],_,_,_,_,b=>by cases b
 | .fix k::r,_,_,_,[],_,_,_,_,b=>by cases b
 | .fixB k::r,_,_,_,[],_,_,_,_,b=>by cases b
 | .fixB k::r,_,tl,q,f::cs,vs,p,d,⟨v,h,_,g,c⟩,b=>by
  simp only[Ae]at b;exact Ly (shs:=r) a d c (E8 b).2
 | .fix k::r,_,tl,q,f::cs,vs,p,d,⟨v,h,_,g,c⟩,b=>by
  simp only[Ae]at b;exact Ly (shs:=r) a d c (E8 b).2
 | .val t::r,_,tl,q,i::cs,vs,p,f,⟨v,j,e,c,d⟩,b=>by
  simp only[Ae,bind_some,qL]at b;obtain⟨y,g,z,h,rfl⟩:=b;exact⟨C9.wf (kO c g),Ly a f d h⟩
 | .own t e::r,_,tl,q,k::cs,vs,p,g,⟨v,n,_,c,d⟩,b=>by
  simp only[Ae,bind_some,qL]at b;obtain⟨l,f,z,h,rfl⟩:=b;obtain⟨o,i,j,_⟩:=SB a c f;exact⟨C9.wf (Cr (Z:=λ_=>True) i (j.mono λ_ _=>C9.mono (λ_ _=>trivial) (λ_ _=>rfl)) (λ_ _=>trivial)),Ly a g d h⟩
 | .ownR t e j::r,_,tl,q,i::cs,vs,p,g,⟨v,k,_,c,d⟩,b=>by
  simp only[Ae,bind_some,qL]at b;obtain⟨l,f,z,h,rfl⟩:=b;exact⟨Cp.wf (A2k a c f).1,Ly a g d h⟩
def A9p (a:C3 za w0 st2 E w Z B):∀ {l:List (Nat×LT)} {x:A2h l},B2g st2 l=some x->C7d l x
 | [],_,_=>trivial
 | (k,t)::r,x,b=>by
  simp only[B2g,bind_some,qL]at b;obtain⟨l,c,z,d,rfl⟩:=b;exact⟨(MC a c).2.2,A9p a d⟩
def A8k {A:HT} {p:A.den} {o:St} (F:za.b0=0) (h:C3 za w0 st E w Z B) (g:gath A st=some (o,p)) (ab:C0a za.n st0) (a0:∀s∈A.keepS,o.eS s=st0.eS s) (X:∀k∈A.keepL,o.eL k=st0.eL k) (Y:∀y∈A.rowL,y.1<st0.nx) (W:o.fr=st0.fr):
 A.wf p/\∃Z' B',C3 za w0 (reflect A st0 p) E w Z' B':=by
 simp only[gath,qI,bind_some]at g;obtain⟨u,_,cs,j,tl,I,af,G,g⟩:=g;obtain⟨f,g⟩:=E8 g;cases g;simp only[qC,tI]at f;obtain⟨f,a5⟩:=f;obtain⟨Z0,V⟩:=h.plugL F (l:=A.rowL);obtain⟨Z1,d⟩:=C3.settleSh (shs:=A.shs) (cs:=u) V;generalize settleSh (plugL A.rowL st) A.shs u=st2 at*;have f:=Js f;simp only[HT.cells,bind_some]at j;obtain⟨ac,a4,j⟩:=j;obtain⟨ag,a2,a3⟩:=gC d a4;obtain⟨ah,H,a6⟩:=gD d a2 j;refine⟨Ly d (A9p d I) H G,?_⟩;have O:=C5g d ab a0 X W;have D:∀y∈A.rowL,y.1<B2x A.boxL st0.nx:=λy b=>rI (Y y b) (Pu _ _)
 rw[tL]at f;obtain⟨ae,J,r⟩:=f;rw[tL]at J;obtain⟨a7,M,N⟩:=J;rw[tL]at M;obtain⟨a8,a9,aa⟩:=M;obtain⟨BX,P,Q,R,T,v,U⟩:=Sx F d O H G (λq hq hk=>r q hk q (by simp[hq]) rfl) a7 (λc hc k hk=>by
  have:=a5 _ hc;cases c with
  |fix ad=>
   cases hk;simp only[B5s,xJ]at this;obtain⟨y,b,a1⟩:=this;have:=qD a1;subst this;exact⟨D y b,rfl⟩
  |fixB ad=>
   cases hk;simp only[B5s,xJ]at this;obtain⟨y,b,a1⟩:=this;have:=qD a1;subst this;exact⟨bR y b,rfl⟩
  | _=>cases hk)
 have z:∀k,k<B2x A.boxL st0.nx->BX k=B k:=T;have t:=aV d z (x:=(placeSh A.shs p (kept A st0)).2.2) P v (by rw[U];exact I) D (λy b a=>by
  rcases qZ.1 a with a|a
  . exact N y.1 a y.1 (by simp only[qZ,sV];exact .inl ⟨y,b,rfl⟩) rfl
  exact r y.1 a y.1 (by simp only[qZ,sV];exact .inr (.inl ⟨y,b,rfl⟩)) rfl) a8
 have i:=A9j (l:=A.modS) t.1 Q a6 (by rw[t.2];exact R);refine⟨Z1,BX,?_⟩;exact A9i d z i.1 (by rw[i.2.2.2,t.2];exact v) i.2.1 a3 (by rw[i.2.2.2];exact i.2.2.1) (λy b=>bR y b) (λy b a=>by
  rcases qZ.1 a with a|a
  . exact aa y.1 a y.1 (vY b) rfl
  rcases qZ.1 a with a|a
  . exact N y.1 a y.1 (by simp only[qZ,sV];exact .inr ⟨y,b,rfl⟩) rfl
  exact r y.1 a y.1 (by simp only[qZ,sV];exact .inr (.inr ⟨y,b,rfl⟩)) rfl) a9
end
def addA (a:St) (d:Tmp) (lc:LC) (mk:Nat->C):St:=(a.newL lc).setS d (one1 (mk a.nx))
def PC (cx:Cx) (a:St) (d:Tmp):Op->Option (Option Prop×LC×(Nat->C))
 | .alloc T=>do
  let ti<-cx.ti T
  some (none, .box T (DY ti.ty),λk=> .box k 0)
 | .makeSlice T c b=>do
  let ti<-cx.ti T
  let t<-slT ti.ty
  let l<-lV a c
  let c<-lV a b
  bif ti.nest.any (Nat.beq d)then do
   let a<-cx.ti ti.elem
   bif MW t then some (some (0<=l/\l<=c/\(ti.bytes:Int)*c<=281474976710656/\c<=9223372036854775807), .nest t ti.elem a.elem (List.replicate l.toNat t.dflt) [] (Qz t l.toNat), .row)else none
  else bif !ti.rows&&Sj t then some (some (0<=l/\l<=c/\(ti.bytes:Int)*c<=281474976710656/\c<=9223372036854775807), .row t ti.elem (List.replicate l.toNat t.dflt), .row)else none
 | _=>none
def B3u (lc:LC) (mk:Nat->C) (X:Obj) (f:Nat->Value):Prop:=
 ∀(d:Zn) (c w:World) (a:St) (E:H5) (Z:Nat->Prop) (B:Nat->Value) (h b:Nat),C3 d c a E w Z B->w.heap[b]? =some X->c.heap.size<=b->¬Z b->(∀k,¬B7 w (B k) (a.L k) b)->d.b0<=b->
  C3 d c (addA a h lc mk) (upd E h (f b)) w Z (upd B a.nx (f b))/\∀g,B7 w (f b) lc g->g=b
section
variable {za:Zn} {w0 w w':World} {st:St} {E:H5} {Z:Nat->Prop} {B:Nat->Value} {cx:Cx} {d:Tmp} {φ:Option Prop}
def C4.addA (st:St) (d:Tmp) (lc:LC) (mk:Nat->C):C4 st (addA st d lc mk):=(C4.newL _ _).trans (C4.setS _ _ _)
def B8f {a b e sz n c:Nat} {cs:Array Value} (h:w.heap[b]? =some (.cells cs e (0,0))) (g:a<=b) (d:cs.size=c*sz) (f:n<=c) (i:c<=maxLen):w.ownsRow a e sz (.slice (some ⟨b,0,none⟩) n c) n (cs.toList.take (n*sz)):=by
 refine⟨?_, .inr ⟨b,c,cs,rfl,g,h,f,i,d,rfl⟩⟩;rw[rA,sE,d];exact tJ (rG _ f)
def B0h {op:Op} {lc:LC} {mk:Nat->C} (h:C3 za w0 st E w Z B) (U:H4 cx.P cx.tys=true) (a:PC cx st d op=some (φ,lc,mk)) (Y:HC φ):
 ∃(X:Obj) (f:Nat->Value),(∀ty w',Gw.E4 cx.P E ty op w' (f w'.heap.size) (w'.alloc X))/\B3u lc mk X f:=by
 unfold PC at a;split at a
 . simp only[qI,bind_some]at a;obtain⟨ti,I,a⟩:=a;cases a;obtain⟨z,J,k⟩:=Gm (L8 (C1 U I)).2.2;rename_i T;refine⟨.cells z.cells T,λb=> .pointer (some ⟨b,0,none⟩),λty w'=>B0a J,λza w0 w st E Z B d b h i o A y s=>?_⟩;have F:=Da (w:=w) (Z:=Z) (B:=B) (n:=st.nx) (Em ti.ty);have G:∀c,B7 w (.pointer (some ⟨b,0,none⟩)) (.box T (DY ti.ty)) c->c=b:=λc g=>by
    simp only[B7,root,rF]at g;exact g.symm
   have a7:=h.new (v:= .pointer (some ⟨b,0,none⟩)) (lc:= .box T (DY ti.ty)) ⟨b,z.cells,C2 _ _ _, .inl ⟨h.nms.2,o⟩,A,i,
    Cz.mono (n:=st.nx) (λ_=>id) (λ_ _=>rfl) (λa0 aa=>C5 _ _ _ _ (uE aa)) F.2 (by rw[k];exact F.1)⟩
    (λa0 c g u=>y a0 (G c g▸u)) (λc g=>(F.2 c g).le (uI _)) rfl (λc _ g=>by rw[G c g];exact s)
   refine⟨a7.setS d (x:=one1 (.box st.nx 0)) ⟨_,[],rfl,⟨b,C2 _ _ _,rfl⟩,rfl⟩ (λc g=>?_),G⟩;simp at g;subst g;exact rN _
 . rename_i T ai a4;simp only[qI,bind_some]at a;obtain⟨ti,I,t,H,l,ab,c,g,a⟩:=a;have H:=Kg H;have a1:∀ {φ':Option Prop},HC (some (0<=l/\l<=c/\(ti.bytes:Int)*c<=281474976710656/\c<=9223372036854775807))->∃z:Value,z.cells.toList=Em t/\z.cells.size=t.size/\l.toNat<=c.toNat/\c.toNat<=maxLen/\∀ty w',Gw.E4 cx.P E ty (.makeSlice T ai a4) w' (.slice (some ⟨w'.heap.size,0,none⟩) l.toNat c.toNat) (w'.alloc (.cells (madeCells z.cells (c.toNat*t.size)) ti.elem)):=by
    intro _ ⟨D,M,N,O⟩;obtain⟨a5,z,a2,Q,J,W,k,a3,i,a9⟩:=Gz (C1 U I) H;obtain⟨a6,j,_⟩:=h.int (F3 E) ab;obtain⟨a8,r,_⟩:=h.int (F3 E) g;refine⟨z,k,a3,ω,by simp only[maxLen];omega,λty w'=>?_⟩;have V:=run_make (P:=cx.P) w' T ti.elem a5 z a2 Q J a6 a8 l c D M (by rw[i];exact N) O;rw[<-W];exact λ_ _ _ _=>by simp[execOp,j,r,V]
   cases R:ti.nest.any (Nat.beq d)with
   |true=>
    simp only[R,qW,qI,bind_some]at a;obtain⟨aj,_,a⟩:=a;cases D:MW t with
    |false=>simp only[D,rJ]at a;cases a
    |true=>
     simp only[D,qW]at a;cases a;obtain⟨z,k,ah,ac,ad,W⟩:=a1 (φ':=none) Y;obtain⟨ag,N,V⟩:=iW D;rw[ag]at ah W;refine⟨_,λb=> .slice (some ⟨b,0,none⟩) l.toNat c.toNat,W,λza w0 w st E Z B d b h i o A y s=>?_⟩;generalize Q:madeCells z.cells (c.toNat*1)=O at i;have a8:O.size=c.toNat*1:=by rw[<-Q];simp[madeCells]
     have af:=B8f (sz:=1) i o a8 ac ad;have ae:∀x∈O.toList.take (l.toNat*1),x=N:=λx j=>by
      have j:=rU j;rw[<-Q]at j;simp only[madeCells,g1z,sV]at j;obtain⟨M,_,rfl⟩:=j;have r:z.cells.toList= [N]:=k.trans V;have a2:z.cells= #[N]:=by rw[<-uF (xs:=z.cells),r]
      rw[a2];simp[g5o]
     obtain⟨ak,am⟩:=iX D V.symm;obtain⟨a5,a6⟩:=h.newNestE d (t:=t) (e':=aj.elem) (dd:=Qz t l.toNat) af (λM x j=>by
      have:=ae x (sY j);subst this;have a9:M<l.toNat:=by have:=(sU.1 j).1;rw[rA]at this;omega
      exact⟨ak,am _ _ _ M _ a9⟩) (λa2 r=>by
      simp only[Value.ownBlock,rF]at r;subst r;exact⟨A,y⟩) (λa2 _ r=>by simp only[Value.ownBlock,rF]at r;subst r;exact s)
     exact⟨a5,λa3 u=>by have:=a6 a3 u;simp only[Value.ownBlock,rF]at this;exact this.symm⟩
   |false=>
    simp only[R,rJ]at a;cases r: !ti.rows&&Sj t with
    |false=>simp only[r,rJ]at a;cases a
    |true=>
     simp only[r,qW]at a;cases a;simp only[qC]at r;obtain⟨z,k,a5,M,W,a3⟩:=a1 (φ':=none) Y;refine⟨_,λb=> .slice (some ⟨b,0,none⟩) l.toNat c.toNat,a3,λza w0 w st E Z B d b h i o A y s=>?_⟩;have D:G8 (C9 t w Z) ((madeCells z.cells (c.toNat*t.size)).toList.take (l.toNat*t.size)) (List.replicate l.toNat t.dflt):=QW k r.2 a5 _ _ M;generalize Q:madeCells z.cells (c.toNat*t.size)=O at i D;have V:O.size=c.toNat*t.size:=by rw[<-Q];simp[madeCells]
     have a2:=B8f i o V M W;refine⟨h.newRowE d (t:=t) (e:=ti.elem) (l:=List.replicate l.toNat t.dflt) (by rw[rL];exact a2) D (λN j=>by
      simp only[Value.ownBlock,rF]at j;subst j;exact⟨A,y⟩) (λN _ j=>by simp only[Value.ownBlock,rF]at j;subst j;exact s),λa6 u=>?_⟩
     have:=u;simp only[B7,root,rF]at this;exact this.symm
 cases a
end
def HH (cx:Cx) (all:List Oper) (a:St):List Nat->(St->Prop)->St->Prop
 | [],k=>k
 |i::r,k=>λb=>match all[i]? with
  |some o=>match PC cx a (Gq all i) o.op with
   |some (c,lc,mk)=>eG c (HH cx all a r k (addA b (Gq all i) lc mk))
   |none=>False
  |none=>False
def A7h (all:List Oper) (f:Nat->Nat->Value) (bl:Nat->Nat):List Nat->H5->H5
 | [],E=>E
 |i::r,E=>A7h all f bl r (upd E (Gq all i) (f i (bl i)))
section
variable {za:Zn} {w0 w w':World} {Z:Nat->Prop} {cx:Cx} {all:List Oper} {st0:St} {k k':St->Prop} {f:Nat->Nat->Value} {X:Nat->Obj} {bl:Nat->Nat}
def jL:∀ {ls:List Nat} {c:St},HH cx all st0 ls k c->∀i∈ls,∃o φ lc mk,all[i]? =some o/\PC cx st0 (Gq all i) o.op=some (φ,lc,mk)/\HC φ
 | [],_,_,_,h=>by cases h
 |i::r,c,a,j,b=>by
  simp only[HH]at a;split at a
  . rename_i o h;split at a
    . rename_i φ lc mk g;obtain⟨d,f⟩:=F2.1 a;rcases qV.1 b with rfl|b
      . exact⟨o,φ,lc,mk,h,g,d⟩
      exact jL f j b
    exact a.elim
  exact a.elim
def bF:∀ {ls:List Nat} {a:St},HH cx all st0 ls k a->(∀b,C4 a b->k b->k' b)->HH cx all st0 ls k' a
 | [],a,h,c=>c a (C4.refl a) h
 |i::r,a,h,c=>by
  simp only[HH]at h|-;split at h
  . split at h
    . exact F2.2 ⟨(F2.1 h).1,bF (F2.1 h).2 λb e a=>c b ((C4.addA _ _ _ _).trans e) a⟩
    exact h
  exact h
def JU {x:Nat} :∀ {l:List Nat} {E:H5},x∉Bj all l->A7h all f bl l E x=E x
 | [],_,_=>rfl
 |i::l,E,h=>by
  simp only[Bj,rT,qV,g5m]at h;simp only[A7h];rw[JU h.2,C5 _ _ _ _ h.1]
def A3h {i:Nat} :∀ {l:List Nat} {E:H5},(Bj all l).Nodup->i∈l->A7h all f bl l E (Gq all i)=f i (bl i)
 | [],_,_,h=>by cases h
 |j::l,E,b,h=>by
  simp only[Bj,rT]at b;obtain⟨c,d⟩:=sS.1 b;simp only[A7h];by_cases a:i∈l
  . exact A3h d a
  rcases qV.1 h with rfl|h
  . rw[JU c,C2]
  exact absurd h a
def A2p:∀ {ls:List Nat} {a:St} {E:H5} {B:Nat->Value},C3 za w0 a E w Z B->(∀i∈ls,∀o φ lc mk,all[i]? =some o->PC cx st0 (Gq all i) o.op=some (φ,lc,mk)->B3u lc mk (X i) (f i))->
 (∀i∈ls,w.heap[bl i]? =some (X i)/\w0.heap.size<=bl i/\¬Z (bl i)/\za.b0<=bl i/\∀k,¬B7 w (B k) (a.L k) (bl i))->(∀i∈ls,∀j∈ls,i≠j->bl i≠bl j)->ls.Nodup->HH cx all st0 ls k a->∃s B',C3 za w0 s (A7h all f bl ls E) w Z B'/\k s
 | [],a,E,B,h,_,_,_,_,b=>⟨a,B,h,b⟩
 |i::T,a,E,B,M,r,g,n,O,b=>by
  simp only[HH]at b;obtain⟨Q,R⟩:=sS.1 O;split at b
  . rename_i o P;split at b
    . rename_i φ lc mk h;obtain⟨_,b⟩:=F2.1 b;obtain⟨v,x,y,z,A⟩:=g i (rD);obtain⟨I,J⟩:=r i rD o φ lc mk P h za w0 w a E Z B (Gq all i) (bl i) M v x y A z;refine A2p (ls:=T) (E:=upd E (Gq all i) (f i (bl i))) I (λj c=>r j (qJ _ c)) (λj c=>?_) (λt h u g=>n t (qJ _ h) u (qJ _ g)) R b;obtain⟨c1,D,F,G,H⟩:=g j (qJ _ c);refine⟨c1,D,F,G,λq d=>?_⟩;have N:(addA a (Gq all i) lc mk).L q=(a.newL lc).L q:=rfl;rw[N,St.L_newL]at d;by_cases l:q=a.nx
      . subst l;rw[qK rfl,C2]at d;exact n i rD j (qJ _ c) (λe=>Q (e▸c)) (J _ d).symm
      rw[qG l,C5 _ _ _ _ l]at d;exact H q d
    exact b.elim
  exact b.elim
def jJ:∀(l:List Nat) (E:H5) (w:World),l.Nodup->(Bj all l).Nodup->R7 w (Gr all f X l E w).2/\∃bl:Nat->Nat,(∀i∈l,w.heap.size<=bl i/\(Gr all f X l E w).2.heap[bl i]? =some (X i)/\(Gr all f X l E w).1 (Gq all i)=f i (bl i))/\∀i∈l,∀j∈l,i≠j->bl i≠bl j
 | [],_,w,_,_=>⟨R7.refl w,λ_=>0,by simp,by simp⟩
 |i::r,E,w,z,o=>by
  obtain⟨D,F⟩:=sS.1 z;simp only[Bj,rT]at o;obtain⟨s,t⟩:=sS.1 o;obtain⟨n,bl,h,x⟩:=jJ r (upd E (Gq all i) (f i w.heap.size)) (w.alloc (X i)) F t;have B:R7 w (w.alloc (X i)):=R7.alloc w _;have A:(w.alloc (X i)).heap.size=w.heap.size+1:=Array.size_push ..;simp only[Gr];refine⟨B.trans n,λj=>if j=i then w.heap.size else bl j,λj d=>?_,λa ha b hb hab=>?_⟩
  . rcases qV.1 d with rfl|d
    . have y:(if j=j then w.heap.size else bl j)=w.heap.size:=qK rfl;show w.heap.size<=(if j=j then w.heap.size else bl j)/\(Gr all f X r _ _).2.heap[if j=j then w.heap.size else bl j]? = _ /\ _=f j (if j=j then w.heap.size else bl j);rw[y];refine⟨qT _,?_,by rw[Ja _ _ _ s,C2]⟩;rw[n.block _ (by rw[A];exact rN _)];exact heap_alloc_new w _
    have:j≠i:=λe=>D (e▸d)
    simp only[qG this];obtain⟨G,u,v⟩:=h j d;exact⟨ω,u,v⟩
  simp only;have g:∀q,q∈i::r->q≠i->q∈r:=λq hq hqi=>(qV.1 hq).resolve_left hqi
  by_cases c:a=i
  . rw[qK c,qG (λe=>hab (c.trans e.symm))];have:=(h b (g b hb (λe=>hab (c.trans e.symm)))).1;omega
  rw[qG c];by_cases k:b=i
  . rw[qK k];have:=(h a (g a ha c)).1;omega
  rw[qG k];exact x a (g a ha c) b (g b hb k) hab
end
def apart (a:St) (q:Nat):C->Bool
 | .box k _=> !(Nat.beq k q)&&(match a.L k with
  | .box _ _=>true
  | _=>false)
 | .elp k _ _ _=> !(Nat.beq k q)&&(match a.L k with
  | .row _ _ _=>true
  | _=>false)
 | .pf _ _ _=>true
 | _=>false
def A1d (cx:Cx) (a:St) (ts:List Nat) (o:Oper):Bool:=match o.op with
 | .load T x=>o.guard.isNone&&(ZC cx a [] T x).isSome&&(match(a.ev [] x).bind c1 with
  |some c=>ts.all λs=>match a.S s with
   | .one ⟨false,[.box q 0]⟩=>apart a q c&&(match a.L q with
    | .box _ _=>true
    | _=>false)
   | _=>false
  |none=>false)
 |op=> !(A5u op)
def C6h (all:List Oper) (ts:List Nat):Bool:=all.all λo=>match o.dst with
 |some d=> !(ts.contains d)
 |none=>true
section
variable {za:Zn} {w0 w:World} {Z:Nat->Prop} {B:Nat->Value} {st:St} {E E0:H5} {cx:Cx} {sp:G9} {all:List Oper} {k:St->Prop} {ts:List Nat}
def A5o (h:∀s∈ts,E s=E0 s) {b:Nat} :Vo E ts b->Vo E0 ts b:=fun⟨s,hs,hb⟩=>⟨s,hs,by rw[<-h s hs];exact hb⟩
def C2i (h:C3 za w0 st E w Z B) {s q:Nat} (f:st.S s= .one ⟨false,[.box q 0]⟩):E s=B q:=by
 have a:=h.slots s;rw[f]at a;obtain⟨v,_,b,⟨g,c,d⟩,i⟩:=a;cases b;rw[d,c]
def B6t (h:C3 za w0 st E w Z B) (aj:H4 cx.P cx.tys=true) {T ty:TypeId} {x:Operand} {g:Option (Nat×Bool)} {d:Option Tmp} {pos:String} {aft:Array Edge} (t:A1d cx st ts ⟨d, .load T x,ty,pos,aft,g⟩=true):
 ∃v,∀w',Y9 (Vo E ts) w w'->Gw.E4 cx.P E ty (.load T x) w' v w':=by
 simp only[A1d,qC]at t;obtain⟨⟨_,J⟩,t⟩:=t;obtain⟨ar,J⟩:=zN.1 J;simp only[ZC,qI,bind_some,qL]at J;obtain⟨ti,ah,a0,⟨X,I,s⟩,A,a,_⟩:=J;have i:(st.ev [] x).bind c1=some a0:=bind_some.2 ⟨X,I,s⟩;rw[i]at t;simp only[tI]at t;obtain⟨o,G,_⟩:=L8 (C1 aj ah);have ag:(ti.agg=true/\dV cx.P T ti.ty.size=true)\/(ti.agg=false/\Ei cx.P T=true/\ti.ty.size=1):=by
  rcases G with⟨c,G⟩ | ⟨c,G,M⟩
  . exact .inl ⟨c,G⟩
  exact .inr ⟨c,G,M⟩
 have N:=(h.c1 (F3 E) i).1;have out:∀ {b:Nat},(∀q,apart st q a0=true->(∃T A,st.L q= .box T A)->root (B q)≠some b)->¬Vo E ts b:=λ{b} l ⟨X,I,hb⟩=>by
  have o:=t X I;split at o
  . rename_i q a1;simp only[qC]at o;obtain⟨o,M⟩:=o;refine l q o ?_ (by rw[<-C2i h a1];exact hb);split at M
    . rename_i e;exact⟨_,_,e⟩
    cases M
  cases o
 have fin:∀ {b O:Nat} {Y:List Value},Gw.ev E x= .pointer (some ⟨b,O,none⟩)->b<w.heap.size->J0 w ⟨b,O,none⟩ Y->Y.length=ti.ty.size->¬Vo E ts b->∃v,∀w',Y9 (Vo E ts) w w'->Gw.E4 cx.P E ty (.load T x) w' v w':=λf hb i hn ho=>by
  obtain⟨v,F,_⟩:=A8u (P:=cx.P) (ty:=ty) f i (by rw[hn];exact ag);exact⟨v,λw' M=>F w' (M.block _ hb ho)⟩
 have a6:∀ {b:Nat},Z b->¬Vo E ts b:=λ{b} r=>out λq _ ⟨T,A,e⟩ a=>((h.locs q).root (b:=b) (by rw[e];exact a)).2.2 r
 unfold A8t at a;split at a
 . rename_i k y;split at a
   . rename_i au ap u;have H:=h.locs k;rw[u]at H;obtain⟨b,Y,e,_,_,a3,s⟩:=H;obtain⟨a7,D,f⟩:=N;rw[e]at D;cases D;obtain⟨F,n,_⟩:=Vf s a;have:=M5 a3.cellsAt y ti.ty.size;rw[rZ]at this;refine fin f a3.lt this n (out λq c ⟨T,A,eq⟩ hrq=>?_);simp only[apart,qC,rO]at c;exact h.disj k q b (uL c.1) (by rw[u,e];rfl) (by rw[eq];exact hrq)
   . rename_i q z am u;cases Q:Nat.beq q k with
     |false=>simp only[Q,rJ]at a;cases a
     |true=>
      simp only[Q,qW]at a;have:=qD Q;subst this;have H:=h.locs q;rw[u]at H;obtain⟨_,⟨b,O,a8,M,r,i,R⟩,_⟩:=H;simp only[sN,vR]at M;obtain⟨a7,D,f⟩:=N;rw[M]at D;cases D;obtain⟨F,n,_⟩:=Vf (O7 (B:=B) R) a;have s:=M5 i y ti.ty.size;rw[rZ]at s;exact fin f (h.zlt _ r) s n (a6 r)
   cases a
 . rename_i z am y;obtain⟨b,O,a8,f,r,i,R⟩:=N;obtain⟨F,n,_⟩:=Vf (O7 (B:=B) R) a;exact fin f (h.zlt b r) (M5 i y _) n (a6 r)
 . rename_i k sz V y;split at a
   . rename_i z W u;cases U:Nat.beq sz z.size with
     |false=>simp[U]at a
     |true=>
      simp only[U,qW]at a;have I:=qD U;subst I;obtain⟨e,ak,M,ab⟩:=nF h u;obtain⟨b,m,an,a1,a4,f⟩:=N;rw[a1]at M;have af:m=W.length:=by
       rcases M.2 with⟨l,_⟩ | ⟨_,_,_,l,_⟩<;>cases l
       rfl
      subst af;have ae:=G8.get (λ_ _ h=>C9.length h) ab (qQ a4);have ad:W.getD V z.dflt=W[V]:=by rw[qE,qQ a4];rfl
      rw[ad]at a;obtain⟨F,n,_⟩:=Vf (O7 (B:=B) ae) a;have a9:=(World.ownsRow.lt M b rfl).2;have aa:J0 w ⟨b,0,none⟩ ak:=λj v hj=>by
       rcases M.2 with⟨l,_⟩ | ⟨g,ao,aq,l,_,ac,_,_,_,ai⟩
       . cases l
       cases l;rw[K5,rZ];simp only[World.cell?,ac];rw[<-ai,wD]at hj;split at hj
       . simpa using hj
       cases hj
      have a5:=M5 (M5 aa (V*z.size) z.size) y ti.ty.size;rw[rZ]at a5;refine fin f a9 a5 n (out λq c ⟨T,A,eq⟩ hrq=>?_);simp only[apart,qC,rO]at c;obtain⟨c,a2⟩:=c;refine h.disj k q b (uL c) ?_ (by rw[eq];exact hrq);split at a2
      . rename_i e;rw[e,a1];rfl
      cases a2
   cases a
 cases a
def jS {P:Program} {o:Oper} {n:H5->World->Prop} (h:K3 P all o n E w):K3 P all o (λE' w'=>(∀x,o.dst≠some x->E' x=E x)/\n E' w') E w:=by
 have a:∀v x,o.dst≠some x->bX E o.dst v x=E x:=λv x hx=>by
  cases c:o.dst with
  |none=>rfl
  |some d=>exact C5 _ _ _ _ λe=>hx (by rw[c,e])
 unfold K3 at h|-;split
 . rename_i b;simp only[b,vZ]at h;generalize (execOp (Gw.ev E) o).run P w=r at*;cases r with
   |ok m w'=>
    cases m<;>simp only at h|-
    case value v=>exact⟨a _,h⟩
    case skip=>exact⟨a _,h⟩
    case enter f args=>exact h.mono λe c ⟨v,he,hn⟩=>⟨v,he,a _,hn⟩
   |halt x w'=>exact h
 rename_i b;simp only[b]at h;exact⟨a _,h⟩
def jB {P:Program} {S:World->Prop} {o:Oper} {n:H5->World->Prop} (h:Rb P S all o n E w):Rb P S all o (λE' w'=>(∀x,o.dst≠some x->E' x=E x)/\n E' w') E w:=by
 have c:∀v x,o.dst≠some x->bX E o.dst v x=E x:=λv x hx=>by
  cases f:o.dst with
  |none=>rfl
  |some g=>exact C5 _ _ _ _ λe=>hx (by rw[f,e])
 rcases h with⟨a,v,b,d⟩ | ⟨a,b⟩
 . exact .inl ⟨a,v,b,c _,d⟩
 exact .inr ⟨a,c _,b⟩
def WG {o:Oper} {i s:Nat} (a:C6h all ts=true) (b:all[i]? =some o) (c:s∈ts):o.dst≠some s:=λe=>by
 have:=tI.1 a o (sY b);rw[e]at this;simp only[rO]at this;exact S0 this c
end
structure K where
 n:St->Prop
 x:Nat->St->Prop
 r:St->Prop
def K.at (k:K):Exit->St->Prop
 | .normal=>k.n
 | .exit i=>k.x i
 | .ret=>k.r
 | _=>λ_=>False
structure An where
 join:List (Nat×HT):= []
 loop:List (Nat×HT):= []
 plan:List (Nat×List Nat×List Nat×Bool×Pl):= []
 bump:Nat:=0
 mv:List (Nat×List Nat):= []
 kp:List (Nat×List Nat):= []
def lead:Code->Option Nat
 | .region id _ _=>some id
 | .seq a b=>match lead a with
  |some i=>some i
  |none=>lead b
 | .cond _ a b=>match lead a with
  |some i=>some i
  |none=>lead b
 | .block _ c=>lead c
 | .loop c=>lead c
 | _=>none
def C4b (l:List (Nat×HT)):Option Nat->Option HT
 |some i=>Bl i l
 |none=>none
def D1t (A:HT) (a:St) (b:(St->Prop)->Prop) (c:St->Prop):Prop:=
 ∃J:A.den->Prop,b (PR A a J)/\∀p,A.wf p->J p->c (reflect A a p)
def C4u (A:HT) (a:St) (d:(St->Prop)->St->Prop):Prop:=
 match gath A a with
 |some (a,f)=>bif(A.rowL.all λx=>Nat.blt x.1 a.nx)&&(A.boxL.all λx=>Nat.blt x.1 a.nx)then
  (∃(I:A.den->Prop) (c:A.den->Nat),I f/\∀p,A.wf p->I p->d (PR A a λb=>I b/\c b<c p) (reflect A a p))else False
 |none=>False
def Lu (cx:Cx) (all:List Oper) (o:Oper) (k:St->Prop) (a:St):Prop:=
 match o.guard with
 |none=>match Wi cx a [] o.op with
  |some (b,v)=>match o.dst with
   |some d=>eG b (k (a.setS d v))
   |none=>False
  |none=>match o.op with
   | .load T x=>match o.dst with
    |some d=>(match iI cx a d T x with
     |some b=>k b
     |none=>False)
    |none=>False
   | _=>False
 |some (j,b)=>match(all[j]?).bind (·.dst)with
  |some t=>bif Pe a 20 t then(match o.dst with
   |some d=>bif !(Nat.beq t d)then(match Wi cx a (gctx a 20 t b) o.op with
    |some (c, .one s)=>bif s.cs.all (B8q a.nx)then eG (C1f (ctxP a (gctx a 20 t b)) c) (k (a.setS d (.cnd t b s)))else False
    |some _=>False
    |none=>match o.op with
     | .load T x=>(match iG cx a (gctx a 20 t b) t b d T x with
      |some a=>k a
      |none=>False)
     | _=>False)else False
   |none=>False)else False
  |none=>False
def TQ (cx:Cx) (all:List Oper):List Nat->(St->Prop)->St->Prop
 | [],k=>k
 |j::r,k=>λa=>match all[j]? with
  |some o=>bif !(A5u o.op)&&C3g (iU all j) (Bj all (j::r))then Lu cx all o (TQ cx all r k) a else False
  |none=>False
def S9 (cx:Cx) (sp:G9) (all:List Oper) (tails:List Nat) (n0:Nat) (nw:Bool) (ts:List Nat):Pl->Bool->Bool->(St->Prop)->St->Prop
 | .done,_,_,k=>k
 | .q i p,a,t,k=>λb=>match all[i]? with
  |some o=>bif(a|| !nw)&&(ts.isEmpty||A1d cx b ts o)then Lu cx all o (S9 cx sp all tails n0 nw ts p a t k) b else False
  |none=>False
 | .p i p,a,t,k=>λb=>match all[i]? with
  |some o=>bif !(A5u o.op)then Lu cx all o (S9 cx sp all tails n0 nw ts p a t k) b else False
  |none=>False
 | .e i p,_,t,k=>λa=>match all[i]? with
  |some o=>bif((t||tails.contains i) || !(dN sp a o) || (nw&&frO n0 a o.op) || (!nw&&A1c cx sp a ts o))&&(!nw||mP sp n0 a o.op)then Xi cx sp all o (S9 cx sp all tails n0 nw ts p false (t||tails.contains i) k) a else False
  |none=>False
 | .or i p q,b,t,k=>λa=>
  (match all[i]? with
  |some o=>bif((t||tails.contains i) || !(dN sp a o) || (nw&&frO n0 a o.op) || (!nw&&A1c cx sp a ts o))&&(!nw||mP sp n0 a o.op)then Xi cx sp all o (S9 cx sp all tails n0 nw ts p false (t||tails.contains i) k) a else False
  |none=>False)/\S9 cx sp all tails n0 nw ts q b t k a
 | .al a b p,_,t,k=>λc=>bif B0g all a b&&ts.isEmpty then HH cx all c a (TQ cx all b (S9 cx sp all tails n0 nw ts p false t k)) c else False
def pkO:Op->Bool
 | .move _=>true
 | .assign _=>true
 | .pick _ _ _=>true
 | .build _ _=>true
 | .nilCheck _=>true
 | .binOp _ _ _ _ _=>true
 | .unOp _ _ _=>true
 | .convert _ _ _=>true
 | .fieldAddr _ _ _=>true
 | .field _ _ _=>true
 | .indexAddr _ _ _=>true
 | .index _ _ _=>true
 | .extract _ _=>true
 | .slice _ _ _ _ _=>true
 | .makeFunc _ _ _=>true
 | .call ⟨.builtin .len,_,_⟩=>true
 | .call ⟨.builtin .max,_,_⟩=>true
 | .call ⟨.builtin .min,_,_⟩=>true
 | _=>false
def B3z (all:List Oper) (a tails:List Nat) (nw:Bool):Nat->Array Bool->Bool->Pl
 |0,_,_=> .done
 |n+1,l,b=>
  let r:=Region.ready .any all.toArray l
  let c:=λi=>((all[i]?).map λo=>pkO o.op).getD false
  match r.find? λi=>Region.free .any all.toArray l i&& !tails.contains i&&(c i|| (a.contains i&&(b|| !nw)))with
  |some i=>bif c i then .p i (B3z all a tails nw n (l.setIfInBounds i true) b)else .q i (B3z all a tails nw n (l.setIfInBounds i true) b)
  |none=>match r.reverse with
   | []=> .done
   |i::b=>b.foldl (λq j=> .or j (B3z all a tails nw n (l.setIfInBounds j true) false) q) (.e i (B3z all a tails nw n (l.setIfInBounds i true) false))
def C4r (all:List Oper) (a tails:List Nat) (nw:Bool):Pl->Pl
 | .done=>B3z all a tails nw all.length (Array.replicate all.length false) true
 |p=>p
def mvB (a:St) (q:Nat):St:=match a.S q with
 | .one ⟨false,[.box k 0]⟩=>match a.L k with
  | .box T b=>bif Nat.ble a.nm k then((a.setL k .none).newL (.box T b)).setS q (one1 (.box a.nx 0))else a
  | _=>a
 | _=>a
def mvs (an:An) (id:Nat) (k:St->Prop):St->Prop:=match Bl id an.mv with
 |some qs=>λa=>k (qs.foldl mvB a)
 |none=>k
def kpO (an:An) (id:Nat):List Nat:=(Bl id an.kp).getD []
def Oy (cx:Cx) (sp:G9) (an:An):Code->K->St->Prop
 | .skip,k=>k.n
 | .label _,k=>k.n
 | .region id ops b,k=>λa=>bif b then(match Bl id an.plan with
  |some (c,b,d,f)=>let p:=C4r ops.toList c b d f;bif C4l ops.toList c b p&&cx.P.follows .mixedOrders&&C6h ops.toList (kpO an id)then S9 cx sp ops.toList b a.nx d (kpO an id) p true false (mvs an id k.n) a else False
  |none=>False)else bH cx sp ops.toList ops.toList k.n a
 | .seq c b,k=>λa=>match C4b an.join (lead b)with
  |some A=>D1t A a (λj=>Oy cx sp an c {k with n:=j} a) (Oy cx sp an b k)
  |none=>Oy cx sp an c {k with n:=Oy cx sp an b k} a
 | .cond d b c,k=>λa=>match(a.ev [] d).bind SX with
  |some e=>(e=true->Oy cx sp an b k a)/\(e=false->Oy cx sp an c k a)
  |none=>False
 | .block id c,k=>Oy cx sp an c {k with x:=λi a=>bif Nat.beq i id then k.n a else k.x i a}
 | .loop c,k=>λa=>match C4b an.loop (lead c)with
  |some A=>C4u A a λj=>Oy cx sp an c {k with n:=j}
  |none=>False
 | .exit i,k=>k.x i
 | .ret,k=>k.r
 | _,_=>λ_=>False
section
variable {za:Zn} {w0:World} {cx:Cx} {sp:G9} {an:An} {all:List Oper}
def Wk {o:Oper} {k k':St->Prop} {b:St} (h:Lu cx all o k b) (a:∀c,C4 b c->k c->k' c):Lu cx all o k' b:=by
 unfold Lu at h|-;split at h
 . split at h
   . split at h
     . exact F2.2 ⟨(F2.1 h).1,a _ (C4.setS _ _ _) (F2.1 h).2⟩
     exact h
   split at h
   . split at h
     . split at h
       . rename_i b;exact a _ (iJ b) h
       exact h
     exact h
   exact h
 split at h
 . obtain⟨c,h⟩:=C0 h;simp only[c,qW];split at h
   . obtain⟨c,h⟩:=C0 h;simp only[c,qW];split at h
     . obtain⟨c,h⟩:=C0 h;simp only[c,qW];exact F2.2 ⟨(F2.1 h).1,a _ (C4.setS _ _ _) (F2.1 h).2⟩
     . exact h
     split at h
     . split at h
       . rename_i b;exact a _ (iH b) h
       exact h
     exact h
   exact h
 exact h
def bI:∀ {ls:List Nat} {k k':St->Prop} {a:St},TQ cx all ls k a->(∀b,C4 a b->k b->k' b)->TQ cx all ls k' a
 | [],_,_,a,h,b=>b a (C4.refl a) h
 |j::r,_,_,a,h,f=>by
  simp only[TQ]at h|-;split at h
  . obtain⟨a,h⟩:=C0 h;simp only[a,qW];exact Wk h λb a c=>bI c λg b d=>f g (a.trans b) d
  exact h
def Bh {tails:List Nat} {n0:Nat} {nw:Bool} {ts:List Nat} :∀ {p:Pl} {pre t:Bool} {k k':St->Prop} {a:St},S9 cx sp all tails n0 nw ts p pre t k a->(∀b,C4 a b->k b->k' b)->S9 cx sp all tails n0 nw ts p pre t k' a
 | .done,_,_,_,_,a,h,b=>b a (C4.refl a) h
 | .q i p,pre,t,_,_,a,h,g=>by
  simp only[S9]at h|-;split at h
  . obtain⟨b,h⟩:=C0 h;simp only[b,qW]at h|-;exact Wk h λc b d=>Bh d λi c f=>g i (b.trans c) f
  exact h
 | .p i p,pre,t,_,_,a,h,g=>by
  simp only[S9]at h|-;split at h
  . obtain⟨b,h⟩:=C0 h;simp only[b,qW];exact Wk h λc b d=>Bh d λi c f=>g i (b.trans c) f
  exact h
 | .e i p,pre,t,_,_,a,h,g=>by
  simp only[S9]at h|-;split at h
  . obtain⟨b,h⟩:=C0 h;simp only[b,qW];exact JP h λc b d=>Bh d λi c f=>g i (b.trans c) f
  exact h
 | .or i p q,pre,t,_,_,a,h,b=>by
  simp only[S9]at h|-;refine⟨?_,Bh h.2 b⟩;have h:=h.1;split at h
  . obtain⟨c,h⟩:=C0 h;simp only[c,qW];exact JP h λd c f=>Bh f λi d g=>b i (c.trans d) g
  exact h
 | .al b c p,pre,t,_,_,a,h,g=>by
  simp only[S9]at h|-;obtain⟨a,h⟩:=C0 h;simp only[a,qW];exact bF h λb a c=>bI c λf b d=>Bh d λh c f=>g h (a.trans (b.trans c)) f
def C4.told (A:HT) (a:St) (p:A.den):C4 a (Vc.reflect A a p):=
 ⟨qY (uI _) (C4.reflect A a p).ct,λ_ b c=>A2g b c,λ_ b c=>nE b c,(C4.reflect A a p).f.le (uI _)⟩
def C4.gath {A:HT} {a b:St} {p:A.den} (h:gath A a=some (b,p)):C4 a b:=by
 simp only[Vc.gath,qI,bind_some]at h;obtain⟨d,_,c,_,tl,_,f,_,h⟩:=h;obtain⟨_,h⟩:=E8 h;cases h;exact(C4.plugL _ _).trans (C4.settleSh _ _ _)
def C4.mvB (a:St) (q:Nat):C4 a (Vc.mvB a q):=by
 unfold Vc.mvB;split
 . split
   . cases Nat.ble a.nm _ with
     |true=>exact(C4.setL ..).trans ((C4.newL ..).trans (C4.setS ..))
     |false=>exact C4.refl _
   exact C4.refl _
 exact C4.refl _
def C4.mvBs:∀(qs:List Nat) (a:St),C4 a (qs.foldl Vc.mvB a)
 | [],a=>C4.refl a
 |q::qs,a=>(C4.mvB a q).trans (C4.mvBs qs _)
def SC:∀ {c:Code} {k k':K} {a:St},Oy cx sp an c k a->(∀e b,C4 a b->k.at e b->k'.at e b)->Oy cx sp an c k' a:=by
 intro c
 induction c with
 |skip=>intro k k' a h d;exact d .normal a (C4.refl a) h
 |label l=>intro k k' a h d;exact d .normal a (C4.refl a) h
 |region id ops i=>
  intro k k' a h f;simp only[Oy]at h|-;cases i with
  |true=>
   simp only[qW]at h|-;split at h
   . obtain⟨j,h⟩:=C0 h;simp only[j,qW];refine Bh h λb e d=>?_
     cases g:Bl id an.mv with
     |none=>simp only[mvs,g]at d|-;exact f .normal b e d
     |some qs=>simp only[mvs,g]at d|-;exact f .normal _ (e.trans (C4.mvBs ..)) d
   exact h
  |false=>
   simp only[rJ]at h|-;exact TP h λb e=>f .normal b e
 |seq v w j l=>
  intro k k' a h f;simp only[Oy]at h|-;split at h
  . rename_i A _;obtain⟨J,r,i⟩:=h;refine⟨J,j r λe b ev d=>?_,λp t s=>l (i p t s) λe b ev d=>?_⟩
    . cases e with
      |normal=>exact d
      |exit o=>exact f (.exit o) b ev d
      |ret=>exact f .ret b ev d
      | _=>exact d
    exact f e b ((C4.told A a p).trans ev) d
  refine j h λe n g d=>?_
  cases e with
  |normal=>exact l d λe u o i=>f e u (g.trans o) i
  |exit o=>exact f (.exit o) n g d
  |ret=>exact f .ret n g d
  | _=>exact d
 |cond c i j f g=>
  intro k k' a h d;simp only[Oy]at h|-;split at h
  . exact⟨λe=>f (h.1 e) d,λe=>g (h.2 e) d⟩
  exact h
 |block id c j=>
  intro k k' a h f;simp only[Oy]at h|-;refine j h λe b ev d=>?_
  cases e with
  |exit i=>
   simp only[K.at]at d|-;cases g:Nat.beq i id with
   |true=>simp only[g,qW]at d|-;exact f .normal b ev d
   |false=>simp only[g,rJ]at d|-;exact f (.exit i) b ev d
  |normal=>exact f .normal b ev d
  |ret=>exact f .ret b ev d
  | _=>exact d
 |loop c t=>
  intro k k' a h g;simp only[Oy]at h|-;split at h
  . rename_i A _;unfold C4u at h|-;split at h
    . rename_i i v f;obtain⟨o,h⟩:=C0 h;simp only[o,qW];obtain⟨I,u,j,l⟩:=h;refine⟨I,u,j,λp r n=>t (l p r n) λe b ev d=>?_⟩;cases e with
      |normal=>exact d
      |exit s=>exact g (.exit s) b ((C4.gath f).trans ((C4.told A i p).trans ev)) d
      |ret=>exact g .ret b ((C4.gath f).trans ((C4.told A i p).trans ev)) d
      | _=>exact d
    exact h
  exact h
 |exit i=>intro k k' a h d;exact d (.exit i) a (C4.refl a) h
 |ret=>intro k k' a h d;exact d .ret a (C4.refl a) h
 | _=>intro k k' a h d;exact h
def fX {A:HT} (k:za.b0=0) {b c:St} {J:A.den->Prop} {E:H5} {w:World} {Z:Nat->Prop} {B:Nat->Value} (h:C3 za w0 c E w Z B) (a:PR A b J c) (v:C0a za.n b) (ev:C4 b c):∃p,A.wf p/\J p/\∃Z' B',C3 za w0 (reflect A b p) E w Z' B':=by
 unfold PR at a;split at a
 . rename_i b p d;obtain⟨b,a⟩:=C0 a;simp only[B6u,qC,tI]at b;obtain⟨⟨⟨i,j⟩,t⟩,u⟩:=b;have c:=ev.trans (C4.gath d);have b:∀ {n g:Nat},lS n g=true->g≠0/\g<=n:=λhh=>by
    simp only[lS,qC]at hh;have o:=qS hh.1;have o:=qS hh.2;omega
   obtain⟨r,Z',B',o⟩:=A8k k h d v (λs hs=>c.s s (b (i s hs)).1 (b (i s hs)).2) (λq hq=>c.l q (b (j q hq)).1 (b (j q hq)).2) (λy hy=>Zy (t y hy)) (c.f.old u);exact⟨p,r,a,Z',B',o⟩
 exact a.elim
variable (hty:H4 cx.P cx.tys=true) (hsp:Ql cx.P sp)
include hty in
theorem Jf {S:World->Prop} {o:Oper} {k:St->Prop} {I:St} {E:H5} {w:World} {Z:Nat->Prop} {B:Nat->Value} (j:∀w',S w'->(A5u o.op=true->R7 w w')) (h:C3 za w0 I E w Z B) (a:Lu cx all o k I):Rb cx.P S all o (Nx za w0 k) E w:=by
 obtain⟨a1,X,ty,G,A,a2⟩:=o;unfold Lu at a;simp only at a j;split at a
 . split at a
   . rename_i Y a6 y;split at a
     . rename_i d;replace a:=F2.1 a;obtain⟨u,c,f,r⟩:=EY (ty:=ty) h hty (F3 E) y a.1;exact .inl ⟨rfl,u,λw' g=>c w' (j w' g) _ _ _ _,_,_,_,h.setS d (f _) r,a.2⟩
     exact a.elim
   split at a
   . rename_i T x _;split at a
     . rename_i d;split at a
       . rename_i a4 s;obtain⟨u,B',c,f⟩:=A1j (ty:=ty) h hty s;exact .inl ⟨rfl,u,λw' g=>c w' (j w' g rfl) _ _ _ _,_,_,_,f,a⟩
       exact a.elim
     exact a.elim
   exact a.elim
 rename_i F i;split at a
 . rename_i t l;have a3:=(C0 a).1;replace a:=(C0 a).2;split at a
   . rename_i d;have U:=(C0 a).1;replace a:=(C0 a).2;have z:t≠d:=uL (by simpa using U);split at a
     . rename_i Y H y;obtain⟨R,a⟩:=C0 a;replace a:=F2.1 a;rw[A0u]at a;by_cases b:E t= .bool i
       . have D:=h.gctx (n:=20) b;obtain⟨u,c,f,r⟩:=EY (ty:=ty) h hty D y (a.1 (h.ctxP D));refine .inl ⟨MR l b,u,λw' g=>c w' (j w' g) _ _ _ _,_,_,_,h.setS d (x:= .cnd t i H) (.inl ⟨?_,f E⟩) r,a.2⟩;rw[C5 _ _ _ _ z];exact b
       have v:E1 all ⟨some d,X,ty,G,A,some (F,i)⟩ E=false:=by
        unfold E1 Ba;simp only[l];cases N:E t with
        |bool a0=>simp only[vE,g4k,rF];intro Q;exact b (by rw[N,Q])
        | _=>rfl
       refine .inr ⟨v,_,_,_,h.setS d (x:= .cnd t i H) (.inr ⟨?_,rfl⟩) (λJ O=>nC (tI.1 R J O)),a.2⟩;rw[C5 _ _ _ _ z];exact b
     . exact a.elim
     split at a
     . rename_i T x _;split at a
       . rename_i a5 s;obtain⟨V,W⟩:=A1i (ty:=ty) h hty z s;by_cases b:E t= .bool i
         . obtain⟨u,B',c,f⟩:=V b (h.gctx (n:=20) b);exact .inl ⟨MR l b,u,λw' g=>c w' (j w' g rfl) _ _ _ _,_,_,_,f,a⟩
         have v:E1 all ⟨some d, .load T x,ty,G,A,some (F,i)⟩ E=false:=by
          unfold E1 Ba;simp only[l];cases N:E t with
          |bool a0=>simp only[vE,g4k,rF];intro Q;exact b (by rw[N,Q])
          | _=>rfl
         obtain⟨B',M⟩:=W b;exact .inr ⟨v,_,_,_,M,a⟩
       exact a.elim
     exact a.elim
   exact a.elim
 exact a.elim
theorem aX {P:Program} {S:World->Prop} {o:Oper} {n a:H5->World->Prop} {E:H5} {w:World} (h:Rb P S all o n E w) (c:∀E',n E' w->a E' w):Rb P S all o a E w:=by
 rcases h with⟨a,v,b,d⟩ | ⟨a,b⟩
 . exact .inl ⟨a,v,b,c _ d⟩
 exact .inr ⟨a,c _ b⟩
def RW (nw:Bool) (b0:Nat) (m:Nat->Prop) (w w':World):Prop:=bif nw then(Below b0 w w'/\True)else Y9 m w w'
variable {m:Nat->Prop}
theorem RW.of {nw:Bool} {b0:Nat} {w w':World} (a:b0<=w.heap.size) (h:R7 w w'):RW nw b0 m w w':=by
 cases nw with
 |true=>exact⟨⟨h.os,h.tape,h.output,h.size,λk b=>h.block k (rI b a)⟩,h.drw⟩
 |false=>exact Y9.of h
theorem RW.refl (nw:Bool) (b0:Nat) (w:World):RW nw b0 m w w:=by
 cases nw with
 |true=>exact⟨Below.refl _ _,trivial⟩
 |false=>exact Y9.of (R7.refl _)
theorem RW.trans {nw:Bool} {b0:Nat} {a b c:World} (h:RW nw b0 m a b) (d:RW nw b0 m b c):RW nw b0 m a c:=by
 cases nw with
 |true=>exact⟨Below.trans h.1 d.1,trivial⟩
 |false=>exact Y9.transM h d λ_=> .inr
include hty hsp in
theorem A9t {nw tl:Bool} {n0:Nat} {ts:List Nat} {E0:H5} {k:St->Prop} {o:Oper} {d:St} {E:H5} {w:World} {Z:Nat->Prop} {B:Nat->Value} (r:nw=true->za.k0=n0) (y:nw=false->za.b0=0) (h:C3 za w0 d E w Z B) (x:∀s∈ts,E s=E0 s)
 (b:((tl|| !(dN sp d o) || (nw&&frO n0 d o.op) || (!nw&&A1c cx sp d ts o))&&(!nw||mP sp n0 d o.op))=true) (a:Xi cx sp all o k d):K3 cx.P all o (λE' w'=>(tl=true\/RW nw za.b0 (Vo E0 ts) w w')/\Nx za w0 k E' w') E w:=by
 simp only[qC,uD,rO]at b;obtain⟨b,c⟩:=b;have t:za.b0=0\/mP sp za.k0 d o.op=true:=by
  cases i:nw with
  |false=>exact .inl (y i)
  |true=>rw[i]at c;exact .inr (by rw[r i];simpa using c)
 rcases b with((b|b) |b) |b
 . refine J2 ?_ (bG h t hty hsp a);rintro E' w' ⟨_,n⟩;exact⟨.inl b,n⟩
 . refine J2 ?_ (bG h t hty hsp a);rintro E' w' ⟨f,n⟩;exact⟨.inr (RW.of h.mrk.1 (f b)),n⟩
 . obtain⟨F,b⟩:=b;subst F;obtain⟨u,J,O,M,I,v⟩:=o;have z:=b;unfold frO at b;split at b
   . rename_i T p H l;simp only at l;subst l;unfold Xi at a;simp only at a;cases v with
     |none=>
      simp only[Wi]at a;cases u with
      |none=>
       simp only at a;have i:IW d (.store T p H)=false:=by
        rcases c with c|c
        . cases c
        simp only[mP,qC,rO]at c;exact c.2
       rw[A1p i]at a;simp only at a;split at a
       . rename_i Q N G;refine J2 ?_ (jT h hty G (F2.1 a).1 (F2.1 a).2 rfl);rintro E' w' ⟨g,n⟩;exact⟨.inr (g (by rw[r rfl];exact z)),n⟩
       exact a.elim
      |some i=>exact a.elim
     |some i=>
      obtain⟨G,j⟩:=i;simp only[Wi]at a;split at a
      . obtain⟨_,a⟩:=C0 a;split at a
        . obtain⟨_,a⟩:=C0 a;exact a.elim
        exact a.elim
      exact a.elim
   cases b
 obtain⟨rfl,b⟩:=b;refine J2 ?_ (B4i h hsp b a);rintro E' w' ⟨f,n⟩;exact⟨.inr ⟨f.os,f.tape,f.output,f.size,λj g D=>f.block j g λA=>D (A5o x A),trivial⟩,n⟩
include hty in
theorem A2q {k:St->Prop} :∀ {d:List Nat},(∀j∈d,mX all j=true)->(Bj all d).Nodup->∀ {f:St} {E:H5} {w:World} {Z:Nat->Prop} {B:Nat->Value},C3 za w0 f E w Z B->TQ cx all d k f->∃F,(∀x,x∉Bj all d->F x=E x)/\AlV cx.P all d F/\Nx za w0 k F w
 | [],_,_,f,E,w,Z,B,h,b=>⟨E,λ_ _=>rfl,λ_ a=>(by cases a),f,Z,B,h,b⟩
 |j::W,r,o,f,E,w,Z,B,A,b=>by
  simp only[TQ]at b;simp only[Bj,rT]at o;obtain⟨T,U⟩:=sS.1 o;split at b
  . rename_i t i;obtain⟨g,b⟩:=C0 b;simp only[qC,rO]at g;obtain⟨G,H,I⟩:=BF (r j rD) i;have N:=SF g.2;have J:=Jf (S:=λ_=>True) (all:=all) hty (λv _ hh=>by rw[hh]at g;cases g.1) A b;have R:E1 all t E=true:=by simp[E1,H]
    rcases J with⟨_,V,Q,X,Z1,B1,n,M⟩ | ⟨s,_⟩
    . rw[G]at n;obtain⟨F,h,y,z⟩:=A2q (λl c=>r l (qJ _ c)) U n M;have D:F (Gq all j)=V:=by rw[h _ T];exact C2 _ _ _
      refine⟨F,λx a=>?_,λl c=>?_,z⟩
      . simp only[Bj,rT,qV,g5m]at a;rw[h x a.2];exact C5 _ _ _ _ a.1
      rcases qV.1 c with rfl|c
      . refine⟨t,i,λv=>?_⟩;rw[D,QD (E:=F) (E':=E) i I λu O=>?_]
        . exact Q v trivial
        have a:=N u O;simp only[Bj,rT,qV,g5m]at a;rw[h u a.2];exact C5 _ _ _ _ a.1
      exact y l c
    rw[R]at s;cases s
  exact b.elim
theorem RW.size {nw:Bool} {b0:Nat} {a b:World} (h:RW nw b0 m a b):a.heap.size<=b.heap.size:=by
 cases nw with
 |true=>exact h.1.size
 |false=>exact(show Y9 m a b from h).size
include hty in
theorem B2l {nw:Bool} {b s:List Nat} {k:St->Prop} {v:St} {E:H5} {w:World} {Z:Nat->Prop} {B:Nat->Value} (N:B0g all b s=true) (h:C3 za w0 v E w Z B) (M:HH cx all v b (TQ cx all s k) v):∃f X,B3n cx.P (RW nw za.b0 m) all b s f X (Nx za w0 k) E w:=by
 simp only[B0g,qC,tI]at N;obtain⟨⟨⟨a6,u⟩,r⟩,ah⟩:=N;have u:=(tL.1 (Mn u)).1;have r:=Mn r;have r:(Bj all b++Bj all s).Nodup:=by simpa[Bj]using r
 obtain⟨F,T,a9⟩:=tL.1 r;have I:=jL M;have a1:∀i,∃x:Obj×(Nat->Value),i∈b->∀o n lc mk,all[i]? =some o->PC cx v (Gq all i) o.op=some (n,lc,mk)->(∀d,(execOp (ev E) o).run cx.P d= .ok (.value (x.2 d.heap.size)) (d.alloc x.1))/\B3u lc mk x.1 x.2:=λi=>by
  by_cases a:i∈b
  . obtain⟨o,n,lc,mk,l,j,Q⟩:=I i a;obtain⟨X,f,U,V⟩:=B0h h hty j Q;refine⟨(X,f),λ_ ae aj ac ad J z=>?_⟩;rw[l]at J;cases J;rw[j]at z;cases z;obtain⟨aa,af,a7,ag,a8,ab⟩:=o;exact⟨λd=>U a7 d _ _ _ _,V⟩
  exact⟨(.cells #[] 0 (0,0),λ_=>undef),λa2=>absurd a2 a⟩
 obtain⟨g,H⟩:=g2a a1;refine⟨λi=>(g i).2,λi=>(g i).1,⟨λi a=>?_,λi a d a5=>RW.of (qY h.mrk.1 a5.size) (R7.alloc d _),λt c=>?_⟩⟩
 . obtain⟨o,n,lc,mk,l,j,Q⟩:=I i a;exact⟨o,l,(H i a o n lc mk l j).1⟩
 have a4:t.Nodup:=c.nodup_iff.2 u;have a3:(Bj all t).Nodup:=(c.map _).nodup_iff.2 F;obtain⟨O,bl,D,R⟩:=jJ (f:=λi=>(g i).2) (X:=λi=>(g i).1) t E w a4 a3;have W:=h.more (Z':=Z) O (λ_=>id) (λ_=> .inl);obtain⟨ai,B1,G,Y⟩:=A2p (f:=λi=>(g i).2) (X:=λi=>(g i).1) (bl:=bl) W (λi a o n lc mk l j=>(H i a o n lc mk l j).2) (λi a=>by
  obtain⟨c1,z,a2⟩:=D i (c.symm.subset a);refine⟨z,qY h.ext.size c1,λV=>?_,qY h.mrk.1 c1,λq U=>?_⟩
  . have:=h.zlt _ V;omega
  have:=((h.locs q).root (h.ft O U)).2.1;omega) (λi a A y J=>R i (c.symm.subset a) A (c.symm.subset y) J) u M
 have a0:A7h all (λi=>(g i).2) bl b E=(Gr all (λi=>(g i).2) (λi=>(g i).1) t E w).1:=funext λx=>by
  by_cases z:x∈Bj all b
  . obtain⟨i,a,e⟩:=L3.1 z;subst e;rw[A3h F a,(D i (c.symm.subset a)).2.2]
  rw[JU z,Ja _ _ _ λJ=>z ((c.map _).subset J)]
 rw[a0]at G;exact A2q hty (λA y=>a6 A (tN _ y)) T G Y
include hty in
theorem C2w {nw:Bool} {ts:List Nat} {E0:H5} {o:Oper} {k:St->Prop} {j:St} {E:H5} {w:World} {Z:Nat->Prop} {B:Nat->Value} (I:nw=true->za.b0=w.heap.size) (H:∀s∈ts,E s=E0 s) (d:(ts.isEmpty||A1d cx j ts o)=true) (h:C3 za w0 j E w Z B) (a:Lu cx all o k j):Rb cx.P (RW nw za.b0 (Vo E0 ts) w) all o (Nx za w0 k) E w:=by
 cases nw with
 |true=>
  refine Jf hty (λc b _=>?_) h a;have b:Below za.b0 w c/\True:=b;rw[I rfl]at b;exact⟨b.1,b.2⟩
 |false=>
  have v:∀ {b:World},Y9 (Vo E0 ts) w b->Y9 (Vo E ts) w b:=λhx=>⟨hx.os,hx.tape,hx.output,hx.size,λn hb hnb=>hx.block n hb fun⟨s,a,c⟩=>hnb ⟨s,a,by rw[H s a];exact c⟩,trivial⟩
  cases y:ts.isEmpty with
  |true=>
   have:=g0m.1 y;subst this;exact Jf hty (λb f _=>Y9.ext (v f) λn ⟨s,a,_⟩=>by cases a) h a
  |false=>
   rw[y,vC]at d;obtain⟨r,A,M,D,l,u⟩:=o;cases x:A5u A with
   |false=>exact Jf hty (λ_ _ c=>by rw[x]at c;cases c) h a
   |true=>
    cases A<;>try (simp only[A1d,x]at d;cases d)
    obtain⟨N,z⟩:=B6t h hty d;rcases Jf (S:=λb=>R7 w b) hty (λb i _=>i) h a with⟨f,J,g,G⟩ | ⟨f,g⟩
    . refine .inl ⟨f,J,λb i=>?_,G⟩;have t:=g w (R7.refl w);have F:=z w (Y9.of (R7.refl w)) r D l u;rw[F]at t;cases t;exact z b (v i) r D l u
    exact .inr ⟨f,g⟩
include hty hsp in
theorem Dv {za0:Zn} {tails:List Nat} {n0:Nat} {nw:Bool} {ts:List Nat} {E0:H5} (b:C6h all ts=true) {k:St->Prop} (f:nw=true->za.k0=n0) (d:nw=false->za.b0=0) (g:∀ {c:St} {E:H5} {w:World} {Z:Nat->Prop} {B:Nat->Value},C3 za w0 c E w Z B->C3 za0 w0 c E w Z B):∀ {p:Pl} {pre t:Bool} {c:St} {E:H5} {w:World} {Z:Nat->Prop} {B:Nat->Value},(nw=true->pre=true->za.b0=w.heap.size)->(∀s∈ts,E s=E0 s)->C3 za w0 c E w Z B->S9 cx sp all tails n0 nw ts p pre t k c->YD cx.P (RW nw za.b0 (Vo E0 ts)) all tails (Nx za0 w0 k) p t E w
 | .done,_,_,_,_,_,_,_,_,i,h,a=>⟨_,_,_,g h,a⟩
 | .q z p,pre,t,c,E,w,Z,B,n,i,o,a=>by
  simp only[S9]at a;split at a
  . rename_i y l;obtain⟨h,a⟩:=C0 a;simp only[qC]at h;obtain⟨h,v⟩:=h;refine⟨y,l,aX (jB (C2w hty (λj=>n j (by rw[j]at h;simpa using h)) i v o a)) ?_⟩;rintro E' ⟨x,A,Z',B',r,u⟩;exact Dv b f d g n (λs a=>(x s (WG b l a)).trans (i s a)) r u
  exact a.elim
 | .p y p,pre,t,c,E,w,Z,B,u,n,j,a=>by
  simp only[S9]at a;split at a
  . rename_i x i;obtain⟨h,a⟩:=C0 a;refine⟨x,i,aX (jB (Jf hty (λA _ o=>by rw[o]at h;cases h) j a)) ?_⟩;rintro E' ⟨v,z,Z',B',l,r⟩;exact Dv b f d g u (λs a=>(v s (WG b i a)).trans (n s a)) l r
  exact a.elim
 | .e x p,pre,t,c,E,w,Z,B,z,h,j,a=>by
  simp only[S9]at a;split at a
  . rename_i y i;obtain⟨r,a⟩:=C0 a;refine⟨y,i,J2 ?_ (jS (A9t hty hsp f d (tl:=t||tails.contains x) j h r a))⟩;rintro E' D ⟨v,u,A,Z',B',l,o⟩;exact⟨u,Dv b f d g (λ_ n=>by cases n) (λs a=>(v s (WG b i a)).trans (h s a)) l o⟩
  exact a.elim
 | .or y p q,pre,t,c,E,w,Z,B,u,h,i,a=>by
  simp only[S9]at a;refine⟨?_,Dv b f d g u h i a.2⟩;have a:=a.1;split at a
  . rename_i z j;obtain⟨r,a⟩:=C0 a;refine⟨z,j,J2 ?_ (jS (A9t hty hsp f d (tl:=t||tails.contains y) i h r a))⟩;rintro E' D ⟨x,v,A,Z',B',l,o⟩;exact⟨v,Dv b f d g (λ_ n=>by cases n) (λs a=>(x s (WG b j a)).trans (h s a)) l o⟩
  exact a.elim
 | .al D G p,pre,t,c,E,w,Z,B,A,z,r,a=>by
  simp only[S9]at a;obtain⟨h,a⟩:=C0 a;simp only[qC,g0m]at h;obtain⟨h,rfl⟩:=h;obtain⟨l,X,j⟩:=B2l (nw:=nw) hty h r a;refine⟨l,X,j.one,j.rel,λy x=>?_⟩;obtain⟨F,n,o,H,Z',B',u,v⟩:=j.fin y x;exact⟨F,n,o,Dv b f d g (λ_ i=>by cases i) (λ_ i=>(by cases i)) u v⟩
theorem C3.marked {a:St} {E:H5} {w:World} {Z:Nat->Prop} {B:Nat->Value} (h:C3 za w0 a E w Z B):C3 {za with k0:=a.nx,b0:=w.heap.size} w0 a E w Z B:=
 ⟨h.ext,h.zlt,h.slots,h.locs,h.disj,h.refs,h.refl,h.fresh,h.bone,h.zin,h.nms,h.bfix,⟨qT _,λk d c b=>by
  have:a.L k= .none:=h.fresh k c;rw[this]at b;exact b.elim⟩,h.frs,h.frf⟩
theorem C3.unmark {k0 b0:Nat} (a:za.b0=0) {b:St} {E:H5} {w:World} {Z:Nat->Prop} {B:Nat->Value} (h:C3 {za with k0:=k0,b0:=b0} w0 b E w Z B):C3 za w0 b E w Z B:=
 ⟨h.ext,h.zlt,h.slots,h.locs,h.disj,h.refs,h.refl,h.fresh,h.bone,h.zin,h.nms,h.bfix,⟨by rw[a];exact rQ _,λk b _ _=>by rw[a];exact rQ _⟩,h.frs,h.frf⟩
end
section
variable {za:Zn} {w0:World} {cx:Cx} {sp:G9} {an:An}
def B6a {A:HT} {b c:St} {p:A.den} {E:H5} {w:World} {Z:Nat->Prop} {B:Nat->Value} (f:za.b0=0) (h:C3 za w0 b E w Z B) (a:gath A b=some (c,p)):∃Z',C3 za w0 c E w Z' B:=by
 simp only[Vc.gath,qI,bind_some]at a;obtain⟨i,_,g,_,tl,_,j,_,a⟩:=a;obtain⟨_,a⟩:=E8 a;cases a;obtain⟨Z0,d⟩:=h.plugL f (l:=A.rowL);exact C3.settleSh d
def C3.mvB (G:za.b0=0) {a:St} {E:H5} {w:World} {Z:Nat->Prop} {B:Nat->Value} (h:C3 za w0 a E w Z B) (q:Nat):∃B',C3 za w0 (Vc.mvB a q) E w Z B':=by
 unfold Vc.mvB;split
 . rename_i k g;split
   . rename_i T j d;cases o:Nat.ble a.nm k with
     |false=>exact⟨B,h⟩
     |true=>
      have o:=qS o;have R:k<a.nx:=by
       by_cases c:k<a.nx
       . exact c
       rw[h.fresh k ω]at d;cases d
      have l:=h.locs k;have i:=h.refl k;have N:up za w0 k=up za w0 a.nx:=by
       funext b;have:=h.nms;refine propext ⟨λhh=>?_,λhh=>?_⟩<;>(rcases hh with hh|hh<;>first|exact .inl ⟨ω,hh.2⟩ | (exfalso;omega))
      have J:∀b,B7 w (B k) (.box T j) b->B7 w (B k) (a.L k) b:=λb f=>by rw[d];exact f
      rw[d]at l i;have I:=h.drop k;have r:(a.setL k .none).nx=a.nx:=rfl;have A:=I.new (v:=B k) (lc:= .box T j) (by
       rw[r, <-N];obtain⟨b,P,t,u,x,y,z⟩:=l;exact⟨b,P,by rw[C2];exact t,u,x,y,z.mono (n:=a.nx) (λ_=>id) (λ_ _=>rfl) (λq g=>C5 _ _ _ _ (uE g)) i⟩) (λO b f c=>by
       rw[St.L_setL]at c;split at c
       . exact c.elim
       rename_i M;exact h.disj k O b (Ne.symm M) (J b f) c) (BJ.le (uI _) i) (h.bone k) (λb _ _=>by rw[G];exact rQ _)
      refine⟨_,A.setSame q ?_ ?_⟩
      . have s:=h.slots q;rw[g]at s;obtain⟨v,U,e,D,F⟩:=(show Cz w Z B [.box k 0] [E q]from s);cases e;exact⟨_,_,rfl,(by
         obtain⟨b,c,t⟩:=D;exact⟨b,by rw[r,C2];exact c,t⟩),F⟩
      intro Q H;cases qO.1 H;exact rN _
   exact⟨B,h⟩
 exact⟨B,h⟩
def C3.mvBs (a:za.b0=0):∀(qs:List Nat) {b:St} {E:H5} {w:World} {Z:Nat->Prop} {B:Nat->Value},C3 za w0 b E w Z B->∃B',C3 za w0 (qs.foldl Vc.mvB b) E w Z B'
 | [],_,_,_,_,B,h=>⟨B,h⟩
 |q::qs,_,_,_,_,_,h=>by
  obtain⟨B',b⟩:=C3.mvB a h q;exact C3.mvBs a qs b
def post (za:Zn) (w0:World) (k:K):Exit->H5->World->Prop:=λe E w=>Nx za w0 (k.at e) E w
variable (hty:H4 cx.P cx.tys=true) (hsp:Ql cx.P sp)
include hty hsp in
theorem A9s (f:za.b0=0) {n:Nat} :∀ {c:Code} {k:K} {a:St} {E:H5} {w:World} {Z:Nat->Prop} {B:Nat->Value},C3 za w0 a E w Z B->Oy cx sp an c k a->Gw.Wp cx.P n c (post za w0 k) E w:=by
 intro c
 induction c with
 |skip=>intro k a E w Z B h d _ g b;exact wp_skip ⟨E,b,a,Z,B,h,d⟩
 |label l=>intro k a E w Z B h d _ g b;exact wp_label ⟨E,b,a,Z,B,h,d⟩
 |exit i=>intro k a E w Z B h d _ g b;exact wp_exit ⟨E,b,a,Z,B,h,d⟩
 |ret=>intro k a E w Z B h d _ g b;exact wp_ret ⟨E,b,a,Z,B,h,d⟩
 |region id ops M=>
  intro k a E w Z B h b u i F;simp only[Cm]at u;simp only[Oy]at b;have D:ops=ops.toList.toArray:=by simp
  cases M with
  |false=>
   simp only[rJ]at b;rw[D];refine wp_region ?_;have:=aQ (P:=cx.P) (Q:=post za w0 k) u ops.toList 0 (by simp) i E w F (jM f hty hsp h b);simpa[g3o]using this
  |true=>
   simp only[qW]at b;split at b
   . rename_i N tails nw T _;generalize C4r ops.toList N tails nw T=p at b;obtain⟨g,b⟩:=C0 b;simp only[qC]at g;obtain⟨⟨g,O⟩,y⟩:=g;simp only[C4l,qC]at g;refine wp_mono (Q:=GA n (post za w0 {k with n:=mvs an id k.n})) ?_ (λe U w' d=>?_)
     rotate_left
     . obtain⟨E',o,s,Z',B',l,d⟩:=d;cases e with
       |normal=>
        change mvs an id k.n s at d;cases j:Bl id an.mv with
        |none=>simp only[mvs,j]at d;exact⟨E',o,s,Z',B',l,d⟩
        |some qs=>
         simp only[mvs,j]at d;obtain⟨B2,G⟩:=C3.mvBs f qs l;exact⟨E',o,_,Z',B2,G,d⟩
       |exit j=>exact⟨E',o,s,Z',B',l,d⟩
       |ret=>exact⟨E',o,s,Z',B',l,d⟩
       | _=>exact d.elim
     rw[D];refine wp_region_any O (dL (S:=λ_=>True) (tails:=tails) _ _ _ _ ?_);have z:H6 tails (Array.replicate ops.toList.length false)=false:=by
      unfold H6;rw[g0d];intro x _;simp only[yS,zJ];split<;>simp
     have v:=h.more (Z':=Z) (w':=w.drew) (R7.refl w).drew (λ_ h=>h) (λ_=> .inl);have fin:∀b0,YD cx.P (RW nw b0 (Vo E (kpO an id))) ops.toList tails (Nx za w0 (mvs an id k.n)) p false E w.drew->Z7 cx.P ops.toList.toArray (GA n (post za w0 {k with n:=mvs an id k.n})) (RW nw b0 (Vo E (kpO an id)) w.drew) tails ops.toList.length (Array.replicate ops.toList.length false) i w.drew:=λb0 hd=>
      B5d (P:=cx.P) (R:=RW nw b0 (Vo E (kpO an id))) (RW.refl nw _) (λi H=>i.trans H) (Q:=post za w0 {k with n:=mvs an id k.n}) u g.1.1 g.1.2 (λc E w j=>by obtain⟨_,_,_,_,j⟩:=j;exact j) p ops.toList.length _ none g.2 ⟨pH _ _,λG=>by rw[z]at G;cases G⟩ false z.symm i E w.drew F (λ_ j=>by cases j) hd
     cases nw with
     |true=>
      have:=fin _ (Dv (za0:=za) (nw:=true) hty hsp (n0:=a.nx) y (λ_=>rfl) (λj=>by cases j) (λh=>h.unmark f) (λ_ _=>rfl) (λ_ _=>rfl) v.marked b);simpa using Km (S':=λ_=>True) (λ_ _=>trivial) _ _ _ _ this
     |false=>
      have:=fin _ (Dv (za0:=za) (nw:=false) hty hsp (n0:=a.nx) y (λj=>by cases j) (λ_=>f) (λh=>h) (λj=>by cases j) (λ_ _=>rfl) v b);simpa using Km (S':=λ_=>True) (λ_ _=>trivial) _ _ _ _ this
   exact b.elim
 |seq O T y z=>
  intro k a E w Z B s l i u v;simp only[Cm,qC]at i;simp only[Oy]at l;split at l
  . rename_i A _;obtain⟨J,D,G⟩:=l;have F:=SC (k':= {n:=λd=>C4 a d/\PR A a J d,x:=k.x,r:=k.r}) D (λe d ev j=>by
     cases e with
     |normal=>exact⟨ev,j⟩
     |exit H=>exact j
     |ret=>exact j
     | _=>exact j)
    refine wp_seq (wp_mono (y s F i.1 u v) ?_);rintro e o w' ⟨E',h,d,Z',B',g,b⟩;cases e with
    |normal=>
     obtain⟨p,N,M,Z2,B2,H⟩:=fX f g b.2 s.pure b.1;exact z H (G p N M) i.2 o h
    |exit H=>exact⟨E',h,d,Z',B',g,b⟩
    |ret=>exact⟨E',h,d,Z',B',g,b⟩
    | _=>exact b.elim
  refine wp_seq (wp_mono (y s l i.1 u v) ?_);rintro e o w' ⟨E',h,d,Z',B',g,b⟩;cases e with
  |normal=>exact z g b i.2 o h
  |exit H=>exact⟨E',h,d,Z',B',g,b⟩
  |ret=>exact⟨E',h,d,Z',B',g,b⟩
  | _=>exact b.elim
 |cond c x z u v=>
  intro k a E w Z B h b d i g;simp only[Cm,qC]at d;simp only[Oy]at b;split at b
  . rename_i e j;obtain⟨y,l,o⟩:=bind_some.1 j;have s:=Sa (h.ev (F3 E) l).1 o;refine wp_cond (t:=e) (by rw[g.ev];exact s) ?_;cases e with
    |true=>exact u h (b.1 rfl) d.1 i g
    |false=>exact v h (b.2 rfl) d.2 i g
  exact b.elim
 |block id c v=>
  intro k a E w Z B l u o j s;refine wp_block (wp_mono (v l u o j s) ?_);rintro e z w' ⟨E',g,h,Z',B',d,b⟩;cases e with
  |normal=>exact⟨E',g,h,Z',B',d,b⟩
  |ret=>exact⟨E',g,h,Z',B',d,b⟩
  |exit y=>
   simp only[Exit.inBlock];simp only[K.at]at b;by_cases i:y=id
   . subst i;simp only[vZ];simp at b;exact⟨E',g,h,Z',B',d,b⟩
   simp only[i,yF];rw[F1 i]at b;exact⟨E',g,h,Z',B',d,b⟩
  | _=>exact b.elim
 |loop c a3=>
  intro k a E w Z B v b F a6 X;simp only[Cm]at F;simp only[Oy]at b;split at b
  . rename_i A _;unfold C4u at b;split at b
    . rename_i l H D;obtain⟨z,b⟩:=C0 b;simp only[qC,tI]at z;obtain⟨I,i,M,N⟩:=b;obtain⟨Z1,G⟩:=B6a f v D;obtain⟨a2,Z2,B2,O⟩:=A8k f v D G.pure (λ_ _=>rfl) (λ_ _=>rfl) (λa4 hy=>Zy (z.1 a4 hy)) rfl;refine wp_loop_ghost (λm o w=>∃p E',i p=m/\Gw.C9 n o E'/\A.wf p/\I p/\∃Z B,C3 za w0 (reflect A l p) E' w Z B) (i H) ⟨H,E,rfl,X,a2,M,Z2,B2,O⟩ ?_;rintro m o w ⟨p,E',a7,Y,a0,W,Z3,B3,T⟩;have U:=SC (k':= {n:=λd=>C4 (reflect A l p) d/\PR A l (λh=>I h/\i h<i p) d,x:=k.x,r:=k.r}) (N p a0 W) (λe d ev j=>by
       cases e with
       |normal=>exact⟨ev,j⟩
       |exit y=>exact j
       |ret=>exact j
       | _=>exact j)
      refine wp_mono (a3 T U F o Y) ?_;rintro e a5 w' ⟨E'',u,d,Z',B',s,g⟩;cases e with
      |normal=>
       obtain⟨h,a1,y,Z5,B5,V⟩:=fX f s g.2 G.pure ((C4.told A l p).trans g.1);exact⟨i h,by have:=y.2;omega,h,E'',rfl,u,a1,y.1,Z5,B5,V⟩
      |exit y=>exact⟨E'',u,d,Z',B',s,g⟩
      |ret=>exact⟨E'',u,d,Z',B',s,g⟩
      | _=>exact g.elim
    exact b.elim
  exact b.elim
 | _=>intro k a E w Z B h b;exact b.elim
end
abbrev Ow (α:Type):List α:= []
def BK (cx:Cx) (a:St):List ResultVar->Option (List SV)
 | []=>some []
 | .tmp t::r=>match a.S t with
  | .one s=>(BK cx a r).map (s:: ·)
  | _=>none
 | .cell b T::r=>do
  let ti<-cx.ti T
  match a.S b with
  | .one ⟨false,[.box k 0]⟩=>match a.L k with
   | .box _ b=>bif Nat.beq b.length ti.ty.size then(BK cx a r).map (⟨ti.agg,b⟩:: ·)else none
   | _=>none
  | _=>none
def settleR:St->List RT->List SV->St
 |c, .val _ _::a,s::b=>settleR (settle c s.cs) a b
 |c, .own _ _::a,_::b=>settleR c a b
 |a, .obox _ _::c,s::d=>settleR (match c1 s with
  |some (.box k 0)=>(match a.L k with
   | .box _ b=>settle a b
   | _=>a)
  | _=>a) c d
 |c, .rows _ _ _::a,_::b=>settleR c a b
 |a,_,_=>a
def HE (a:St):(rs:List RT)->List SV->Option (Br rs)
 | [],[]=>some ()
 | .val b t::rs,s::c=>(Sv b t s).bind λx=>(HE a rs c).map λy=>(x,y)
 | .own t e::rs,s::b=>((c1 s).bind (SA a t e)).bind λx=>(HE a rs b).map λy=>(x,y)
 | .obox T t::rs,s::b=>((fZ s).bind λk=>bif Nat.ble a.nm k then pE a T t k else none).bind λx=>(HE a rs b).map λy=>(x,y)
 | .rows t e b::rs,s::c=>((Sy s).bind λk=>bif Nat.ble a.nm k then rowsAt a t e b k else none).bind λx=>(HE a rs c).map λy=>(x,y)
 | _,_=>none
def Cn:List RT->List SV->List Nat
 | .own _ _::a,⟨false,[.row k]⟩::b=>k::Cn a b
 | .obox _ _::a,⟨false,[.box k 0]⟩::b=>k::Cn a b
 | .rows _ _ _::a,⟨false,[.row k]⟩::b=>k::Cn a b
 | _::a,_::b=>Cn a b
 | _,_=> []
def settleM:St->List AM->Nat->St
 |a, .box _ _::r,j=>settleM (match a.L j with| .box _ cs=>settle a cs| _=>a) r (j+1)
 |a, .row _ _::r,j=>settleM a r (j+1)
 |a, .val _ _::r,j=>settleM a r j
 |a, .fn _ _ _::r,j=>settleM a r j
 |a, .rows _ _ _::r,j=>settleM a r (j+1)
 |a,[],_=>a
def eJ (a:St):(as:List AM)->Nat->Option (Ox as)
 | [],_=>some ()
 | .row t e::r,j=>(Xh a t e j).bind λx=>(eJ a r (j+1)).map λy=>(x,y)
 | .box T t::r,j=>(pE a T t j).bind λx=>(eJ a r (j+1)).map λy=>(x,y)
 | .val _ _::r,j=>eJ a r j
 | .fn _ _ _::r,j=>eJ a r j
 | .rows t e b::r,j=>(rowsAt a t e b j).bind λx=>(eJ a r (j+1)).map λy=>(x,y)
def C4h:AM->Bool
 | .row t _=>Mk t
 | .rows t _ _=>Mk t
 | .box _ t=>Mk t
 | _=>true
def C8q (s:A9) (x:A5 s.args) (r:Br s.res) (o:Ox s.args):Prop:=bif Q6 s.args then s.post x r/\s.mpost x r o else s.post x r
def fin (cx:Cx) (s:A9) (c:List ResultVar) (x:A5 s.args) (a:St):Prop:=
 match BK cx a c with
 |some b=>match BK cx (settleM (settleR a s.res b) s.args 0) c with
  |some c=>match HE (settleM (settleR a s.res b) s.args 0) s.res c,eJ (settleM (settleR a s.res b) s.args 0) s.args 0 with
   |some r,some o=>bif(IX (Cn s.res c)&&Nb s.res)&&(s.shared|| (s.res.all A8h&&s.args.all C4h))then C8q s x r o else False
   | _,_=>False
  |none=>False
 |none=>False
def Ih (P:Program):(as:List AM)->A5 as->Nat->Nat->List (Nat×Nat×DV)
 | [],_,_,_=> []
 | .val a t::r,x,i,j=>(i,1, .one ⟨a,explode t x.1⟩)::Ih P r x.2 (i+1) j
 | .row _ _::r,x,i,j=>(i,1, .one ⟨false,[.row j]⟩)::Ih P r x.2 (i+1) (j+1)
 | .box _ _::r,x,i,j=>(i,1, .one ⟨false,[.box j 0]⟩)::Ih P r x.2 (i+1) (j+1)
 | .rows _ _ _::r,x,i,j=>(i,1, .one ⟨false,[.row j]⟩)::Ih P r x.2 (i+1) (j+1)
 | .fn a c b::r,x,i,j=>(i,1, .one ⟨false,[.fv P a c b x.1.1 x.1.2]⟩)::Ih P r x.2 (i+1) j
def Ek:(as:List AM)->A5 as->Nat->List (Nat×Nat×LC)
 | [],_,_=> []
 | .val _ _::r,x,j=>Ek r x.2 j
 | .fn _ _ _::r,x,j=>Ek r x.2 j
 | .row t e::r,x,j=>(j,1, .row t e x.1)::Ek r x.2 (j+1)
 | .box T t::r,x,j=>(j,1, .box T (explode t x.1))::Ek r x.2 (j+1)
 | .rows t e a::r,x,j=>(j,1, .rows t e a x.1 [] none)::Ek r x.2 (j+1)
def Lr:List AM->Nat
 | []=>0
 | .row _ _::r=>Lr r+1
 | .box _ _::r=>Lr r+1
 | .rows _ _ _::r=>Lr r+1
 | .val _ _::r=>Lr r
 | .fn _ _ _::r=>Lr r
def A5k (P:Program) (as:List AM) (x:A5 as):St:=⟨Ih P as x 0 0,Ek as x 0,Lr as,1,Lr as,[]⟩
def C7g (cx:Cx) (sp:G9) (an:An) (s:A9) (a:List ResultVar) (c:Code) (x:A5 s.args):Prop:=
 Oy cx sp an c ⟨fin cx s a x,λ_ _=>False,fin cx s a x⟩ (A5k cx.P s.args x)
section
variable {za:Zn} {w0 w:World} {Z:Nat->Prop} {B:Nat->Value} {st:St} {E:H5} {cx:Cx} {sp:G9} {an:An}
def A0o (tmps:Array Value):ResultVar->Sem Value
 | .tmp t=>pure (tmps.getD t undef)
 | .cell a t=>do loadVar t (<-asAddr (tmps.getD a undef))
def ND (j:H4 cx.P cx.tys=true) (h:C3 za w0 st E w Z B) {tmps:Array Value} (b:∀t,tmps.getD t undef=E t):∀ {A:List ResultVar} {ss:List SV},BK cx st A=some ss->∃vs,(A.mapM (A0o tmps)).run cx.P w= .ok vs w/\Ou w Z B ss vs
 | [],ss,a=>by cases a;exact⟨[],rfl,rfl⟩
 | .tmp t::r,ss,a=>by
  simp only[BK]at a;split at a
  . rename_i s g;simp only[qL]at a;obtain⟨k,i,rfl⟩:=a;obtain⟨vs,d,f⟩:=ND j h b i;have c:=h.slots t;rw[g]at c;refine⟨E t::vs,?_,E t,vs,rfl,c,f⟩;rw[wY];simp only[A0o,b,Sem.run_bind,Sem.run_pure,Result.andThen_ok,d]
  cases a
 | .cell D T::a1,ss,a=>by
  simp only[BK,qI,bind_some]at a;obtain⟨ti,W,a⟩:=a;split at a
  . rename_i X N;split at a
    . rename_i T' a0 O;obtain⟨J,a⟩:=E8 a;simp only[qL]at a;obtain⟨a2,R,rfl⟩:=a;obtain⟨vs,r,s⟩:=ND j h b R;have Q:=qD J;have y:=h.slots D;rw[N]at y;obtain⟨_,_,F,⟨l,G,n⟩,_⟩:=y;cases F;have v:=h.locs X;rw[O]at v;obtain⟨Y,c,o,_,_,x,d⟩:=v;rw[G]at o;cases o;have k:c.toList.length=ti.ty.size:=by rw[<-Q,d.len]
      rcases(L8 (C1 j W)).2.1 with⟨i,I⟩ | ⟨i,V,U⟩
      . refine⟨.agg c.toList.toArray::vs,?_,_,vs,rfl,by rw[i];exact⟨c.toList,rfl,d⟩,s⟩;obtain⟨f,H⟩:=Rc (P:=cx.P) (w:=w) I;have g:=run_loadCells_list (P:=cx.P) (w:=w) ⟨l,0,none⟩ c.toList x.cellsAt;rw[k]at g;unfold loadCells at g;rw[wY];simp[A0o,b,n,asAddr,loadVar,f,H,g,r,go_sem]
      rw[U]at k
      match z:c.toList,k with
      | [u],_=>
       rw[z]at d;have M:w.cell? ⟨l,0,none⟩=some u:=by
        have:=x.cellsAt 0 u (by rw[z];rfl);rwa[K5]at this
       refine⟨u::vs,?_,u,vs,rfl,by rw[i];exact d,s⟩;have f:=Jb (P:=cx.P) (w:=w) V;rw[wY];simp[A0o,b,n,asAddr,loadVar,f,M,r,go_sem]
    cases a
  cases a
def C3.settleR:∀ {rs:List RT} {ss:List SV} {st:St} {Z:Nat->Prop},C3 za w0 st E w Z B->∃Z',C3 za w0 (settleR st rs ss) E w Z' B
 | .val _ _::rs,s::ss,st,Z,h=>by
  obtain⟨Z1,a⟩:=h.settle s.cs;exact C3.settleR (rs:=rs) (ss:=ss) a
 | .own _ _::rs,_::ss,st,Z,h=>C3.settleR (rs:=rs) (ss:=ss) h
 | .obox _ _::rs,s::ss,st,Z,h=>by
  simp only[Vc.settleR];split
  . split
    . obtain⟨Z1,a⟩:=h.settle _;exact C3.settleR (rs:=rs) (ss:=ss) a
    exact C3.settleR (rs:=rs) (ss:=ss) h
  exact C3.settleR (rs:=rs) (ss:=ss) h
 | [],_,st,Z,h=>⟨Z,h⟩
 | .val _ _:: _,[],st,Z,h=>⟨Z,h⟩
 | .own _ _:: _,[],st,Z,h=>⟨Z,h⟩
 | .obox _ _:: _,[],st,Z,h=>⟨Z,h⟩
 | .rows _ _ _::rs,_::ss,st,Z,h=>C3.settleR (rs:=rs) (ss:=ss) h
 | .rows _ _ _:: _,[],st,Z,h=>⟨Z,h⟩
def Su (h:C3 za w0 st E w Z B) {Zn:Nat->Prop} (f:∀b,Zn b->Z b):∀ {rs:List RT} {ss:List SV} {vs:List Value} {r:Br rs},((∀b,Z b->Zn b)\/rs.all A8h=true)->Ou w Z B ss vs->HE st rs ss=some r->(Cn rs ss).Nodup->Nb rs=true->
 Pd w0.heap.size w Zn rs vs r/\∀u∈X5 rs vs,∀b,root u=some b->∃k∈Cn rs ss,B7 w (B k) (st.L k) b
 | [],[],vs,_,_,a,_,_,_=>⟨a,λu c=>by simp[X5]at c⟩
 | [],_:: _,_,_,_,_,a,_,_=>by cases a
 | .val _ _:: _,[],_,_,_,_,a,_,_=>by cases a
 | .own _ _:: _,[],_,_,_,_,a,_,_=>by cases a
 | .obox _ _:: _,[],_,_,_,_,a,_,_=>by cases a
 | .rows _ _ _:: _,[],_,_,_,_,a,_,_=>by cases a
 | .rows v n o::rs,ac::ss,_,r,c,⟨ad,ae,e,Q,R⟩,A,z,F=>by
  simp only[HE,bind_some,qL]at A;obtain⟨G,⟨q,l,s⟩,ai,g,rfl⟩:=A;subst e;obtain⟨a2,s⟩:=E8 s;have ah:=qS a2;have X:ac=⟨false,[.row q]⟩:=by
   unfold Sy at l;split at l
   . cases l;rfl
   cases l
  subst X;obtain⟨_,_,N,t,_⟩:=Q;cases N;have t:ad=B q:=t;subst t;obtain⟨al,D⟩:=Af s;have x:=h.locs q;rw[D]at x;have U:=x.rowsR;have y:∀b,B7 w (B q) (.rows v n o G [] none) b->B7 w (B q) (st.L q) b:=λb a=>by rw[D];exact(W9 λ_ _=>rfl).1 a
  simp only[Nb,Bm,Qu,qC,yN,vC,rO]at F;obtain⟨⟨aa,H⟩,ab⟩:=F;have Y:Cn (.rows v n o::rs) (⟨false,[.row q]⟩::ss)=q::Cn rs ss:=rfl;rw[Y]at z|-;have a1:=sS.1 z;obtain⟨O,P⟩:=Su h f (c.imp id λj=>by simp only[tP,qC]at j;exact j.2) R g a1.2 ab;have V:Cp w Zn v n o (B q) G:=by
   obtain⟨ag,a6,a7,a8,a9⟩:=U;refine⟨ag,a6,λa5 I af W a3=>(a7 a5 I af W a3).imp λaj g=>⟨g.1,?_⟩,a8,a9⟩;rcases c with c|c
   . exact g.2.mono λ_ _=>C9.mono c (λ_ _=>rfl)
   simp only[tP,qC]at c;exact g.2.mono λ_ _ j=>C9.flat c.1 j
  refine⟨⟨B q,ae,rfl,⟨V,λb a=>?_⟩,λ_=>⟨⟨aa,λ_=>H⟩,λb a u d=>by rw[We H]at d;cases d⟩,O⟩,λu d b a=>?_⟩
  . obtain⟨i,J,M⟩:=(h.locs q).root (y b a);refine⟨?_,λa4=>M (f b a4),J⟩;rcases i with i|i
    . exact i.2
    have:=h.nms.1;omega
  simp only[X5,qV]at d;rcases d with rfl|d
  . exact⟨q,by simp,y b (.inl a)⟩
  obtain⟨k,a0,r⟩:=P u d b a;exact⟨k,qJ _ a0,r⟩
 | .val g F::rs,s::ss,_,r,a,⟨v,G,e,t,x⟩,j,i,l=>by
  simp only[Nb,qC]at l;obtain⟨H,z⟩:=l;simp only[HE,bind_some,qL]at j;obtain⟨M,A,N,D,rfl⟩:=j;have y:Cn (.val g F::rs) (s::ss)=Cn rs ss:=by
   obtain⟨I,J⟩:=s;simp only[Cn]
  rw[y]at i|-;obtain⟨n,o⟩:=Su h f (a.imp id λd=>by simp only[tP,qC]at d;exact d.2) x D i z;subst e;refine⟨⟨v,G,rfl,?_,λd=>(by cases d),n⟩,o⟩;have c:=Et t A;rcases a with a|a
  . exact c.mono a (λ_ _=>rfl)
  simp only[tP,qC]at a;cases g with
  |true=>obtain⟨cs,e,c⟩:=c;exact⟨cs,e,C9.flat a.1 c⟩
  |false=>exact C9.flat (cs:= [v]) a.1 c
 | .own y D::rs,ab::ss,_,r,g,⟨z,V,e,X,F⟩,M,l,P=>by
  simp only[Nb,Bm,Qu,qC,yN,vC,g1g,g1b,g4f,rO]at P;obtain⟨N,O⟩:=P;simp only[HE,bind_some,qL]at M;obtain⟨a8,⟨n,j,a0⟩,ac,R,rfl⟩:=M;subst e;have Y:ab=⟨false,[n]⟩:=by
   unfold c1 at j;split at j
   . cases j;rfl
   cases j
  subst Y;obtain⟨_,_,W,a4,_⟩:=X;cases W;obtain⟨A,x,U,a9,aa⟩:=SB h a4 a0;have a6:=E9 x;have G:G8 (C9 y w Zn) A a8:=by
   rcases g with g|g
   . exact U.mono λ_ _=>C9.mono g (λ_ _=>rfl)
   simp only[tP,qC]at g;exact U.mono λ_ _ d=>C9.flat g.1 d
  have H:(∀b,Z b->Zn b)\/rs.all A8h=true:=g.imp id λd=>by simp only[tP,qC]at d;exact d.2
  rcases aa with⟨q,rfl,I,Q⟩ | ⟨a2,a1⟩
  . have s:Cn (.own y D::rs) (⟨false,[.row q]⟩::ss)=q::Cn rs ss:=rfl;rw[s]at l|-;have J:=sS.1 l;obtain⟨o,i⟩:=Su h f H F R J.2 O;refine⟨⟨z,V,rfl,⟨A,x,G,λb a a7=>a9 b a (f b a7)⟩,λ_=>⟨⟨N,λd=>(by cases d)⟩,λb a u c hub=>?_⟩,o⟩,λu c b a=>?_⟩
    . obtain⟨k,t,a5⟩:=i u c b hub;have a3:root (B q)=some b:=by rw[<-Q];exact a
      exact h.disj q k b (λd=>J.1 (d▸t)) (B7.of I a3) a5
    simp only[X5,qV]at c;rcases c with rfl|c
    . exact⟨q,by simp,B7.of I (by rw[<-Q];exact a)⟩
    obtain⟨k,t,r⟩:=i u c b a;exact⟨k,qJ _ t,r⟩
  have s:Cn (.own y D::rs) (⟨false,[n]⟩::ss)=Cn rs ss:=by cases n<;>first|rfl|exact absurd rfl (a1 _)
  rw[s]at l|-;obtain⟨o,i⟩:=Su h f H F R l O;have v:∀b,root z≠some b:=λb a=>by rw[a2]at a;cases a
  refine⟨⟨z,V,rfl,⟨A,x,G,λb a=>absurd (a6.trans a) (v b)⟩,λ_=>⟨⟨N,λd=>(by cases d)⟩,λb a=>absurd a (v b)⟩,o⟩,λu c b a=>?_⟩;simp only[X5,qV]at c;rcases c with rfl|c
  . exact absurd a (v b)
  exact i u c b a
 | .obox T M::rs,ab::ss,_,r,a,⟨ac,ad,e,V,W⟩,G,D,J=>by
  simp only[Nb,Bm,Qu,qC,yN,vC,g1g,g1b,g4f,rO]at J;obtain⟨a5,a6⟩:=J;simp only[HE,bind_some,qL]at G;obtain⟨ae,⟨q,l,t⟩,ag,a9,rfl⟩:=G;subst e;obtain⟨a3,t⟩:=E8 t;have a0:ab=⟨false,[.box q 0]⟩:=by
   unfold fZ at l;split at l
   . cases l;rfl
   cases l
  subst a0;obtain⟨_,_,R,⟨i,x,o⟩,_⟩:=V;cases R;obtain⟨cs,H,a4⟩:=Zz t;have z:=h.locs q;rw[H]at z;obtain⟨af,N,v,j,O,P,Q⟩:=z;rw[v]at x;cases x;have I:=Hj Q a4;have a7:C9 M w Zn N.toList ae:=by
   rcases a with a|a
   . exact C9.mono a (λ_ _=>rfl) I
   simp only[tP,qC]at a;exact C9.flat a.1 I
  have a1:(∀b,Z b->Zn b)\/rs.all A8h=true:=a.imp id λd=>by simp only[tP,qC]at d;exact d.2
  have a2:Cn (.obox T M::rs) (⟨false,[.box q 0]⟩::ss)=q::Cn rs ss:=rfl;rw[a2]at D|-;have F:=sS.1 D;obtain⟨U,y⟩:=Su h f a1 W a9 F.2 a6;have X:w0.heap.size<=i:=by
   rcases j with j|j
   . exact j.2
   have:=h.nms.1;have:=qS a3;omega
  have A:∀n,root (Value.pointer (some ⟨i,0,none⟩))=some n->B7 w (B q) (st.L q) n:=λn Y=>by rw[H,v];exact Y
  refine⟨⟨ac,ad,rfl,⟨i,N,o,X,λaa=>O (f i aa),P,a7⟩,λ_=>⟨⟨a5,λd=>(by cases d)⟩,λb c u g hub=>?_⟩,U⟩,λu g b c=>?_⟩
  . obtain⟨k,s,a8⟩:=y u g b hub;rw[o]at c;exact h.disj q k b (λd=>F.1 (d▸s)) (A b c) a8
  simp only[X5,qV]at g;rcases g with rfl|g
  . rw[o]at c;exact⟨q,by simp,A b c⟩
  obtain⟨k,s,r⟩:=y u g b c;exact⟨k,qJ _ s,r⟩
def C3.settleM:∀ {as:List AM} {st:St} {j:Nat} {Z:Nat->Prop},C3 za w0 st E w Z B->∃Z',C3 za w0 (settleM st as j) E w Z' B
 | [],st,_,Z,h=>⟨Z,h⟩
 | .row _ _::r,st,j,Z,h=>C3.settleM (as:=r) h
 | .val _ _::r,st,j,Z,h=>C3.settleM (as:=r) h
 | .fn _ _ _::r,st,j,Z,h=>C3.settleM (as:=r) h
 | .rows _ _ _::r,st,j,Z,h=>C3.settleM (as:=r) h
 | .box _ _::r,st,j,Z,h=>by
  simp only[Vc.settleM];split
  . obtain⟨Z1,a⟩:=h.settle _;exact C3.settleM (as:=r) a
  exact C3.settleM (as:=r) h
def EN (h:C3 za w0 st E w Z B) {Zn:Nat->Prop} :∀ {as:List AM} {vs:List Value} {o:Ox as} {j:Nat},((∀b,Z b->Zn b)\/as.all C4h=true)->(∀m u,(D9 as vs)[m]? =some u->B (j+m)=u)->(∀m p,(R2 as vs)[m]? =some p->∀b,up za w0 (j+m) b->B7 w0 p.2 (lcA p.1) b)->vs.length=as.length->eJ st as j=some o->Yd w0 w Zn as vs o
 | [],_,_,_,_,_,_,_,_=>trivial
 |a::r,[],_,_,_,_,_,c,_=>by simp at c
 | .val _ _::r,v::vs,o,j,g,d,f,i,k=>EN (as:=r) h (g.imp id λc=>by simp only[tP,qC]at c;exact c.2) d f (by simpa using i) k
 | .fn _ _ _::r,v::vs,o,j,g,d,f,i,k=>EN (as:=r) h (g.imp id λc=>by simp only[tP,qC]at c;exact c.2) d f (by simpa using i) k
 | .row D e::z,v::vs,o,j,c,k,s,t,n=>by
  simp only[eJ,bind_some,qL]at n;obtain⟨F,x,G,y,rfl⟩:=n;have r:B j=v:=k 0 v (by simp[D9,N0]);have l:=h.locs j;rw[Jx x]at l;obtain⟨A,g,i,_⟩:=l;rw[r]at g;refine⟨⟨A,g,?_⟩,EN (as:=z) h (c.imp id λd=>by simp only[tP,qC]at d;exact d.2) (λm u f=>by rw[(ω:j+1+m=j+(m+1))];exact k (m+1) u (by simpa[D9,N0]using f)) (λm p f=>by rw[(ω:j+1+m=j+(m+1))];exact s (m+1) p (by simpa[R2,N0]using f)) (by simpa using t) y⟩;rcases c with c|c
  . exact i.mono λ_ _=>C9.mono c (λ_ _=>rfl)
  simp only[tP,qC]at c;exact i.mono λ_ _ d=>C9.flat c.1 d
 | .box T I::F,v::vs,o,j,c,g,t,y,l=>by
  simp only[eJ,bind_some,qL]at l;obtain⟨J,A,M,D,rfl⟩:=l;have s:B j=v:=g 0 v (by simp[D9,N0]);obtain⟨H,x,z⟩:=Zz A;have i:=h.locs j;rw[x]at i;obtain⟨b,G,f,_,_,n,r⟩:=i;rw[s]at f;refine⟨⟨b,G,f,n,?_⟩,EN (as:=F) h (c.imp id λk=>by simp only[tP,qC]at k;exact k.2) (λm u d=>by rw[(ω:j+1+m=j+(m+1))];exact g (m+1) u (by simpa[D9,N0]using d)) (λm p d=>by rw[(ω:j+1+m=j+(m+1))];exact t (m+1) p (by simpa[R2,N0]using d)) (by simpa using y) D⟩;have:=Hj r z;rcases c with c|c
  . exact C9.mono c (λ_ _=>rfl) this
  simp only[tP,qC]at c;exact C9.flat c.1 this
 | .rows P e A::O,v::vs,o,j,c,n,t,i,y=>by
  simp only[eJ,bind_some,qL]at y;obtain⟨z,l,R,f,rfl⟩:=y;have r:B j=v:=n 0 v (by simp[D9,N0]);have s:=h.locs j;obtain⟨al,x⟩:=Af l;rw[x]at s;have g:=s.rowsR;rw[r]at g;refine⟨⟨?_,λb I=>?_⟩,EN (as:=O) h (c.imp id λd=>by simp only[tP,qC]at d;exact d.2) (λm u k=>by rw[(ω:j+1+m=j+(m+1))];exact n (m+1) u (by simpa[D9,N0]using k)) (λm p k=>by rw[(ω:j+1+m=j+(m+1))];exact t (m+1) p (by simpa[R2,N0]using k)) (by simpa using i) f⟩
  . rcases c with c|c
    . exact g.mono c
    simp only[tP,qC]at c;obtain⟨Q,D,F,G,H⟩:=g;exact⟨Q,D,λM N z i l=>(F M N z i l).imp λU f=>⟨f.1,f.2.mono λ_ _ d=>C9.flat c.1 d⟩,G,H⟩
  have J:B7 w (B j) (st.L j) b:=by rw[x,r];exact(W9 λ_ _=>rfl).1 I
  exact t 0 (.rows P e A,v) (by simp[R2,N0]) b ((h.locs j).root J).1
variable {P:Program}
def Iu {n:Nat} :∀ {as:List AM} {vs:List Value} {x:A5 as} {i j s:Nat},Ac P w Z as vs x->i<=s->(∀m u,(D9 as vs)[m]? =some u->B (j+m)=u)->j+Lr as<=n->RD w Z B E (find (0, .dead) s (Ih P as x i j)).2 ((vs[s-i]?).getD undef)/\NC n (find (0, .dead) s (Ih P as x i j)).2
 | [],_,_,_,_,_,_,_,_,_=>⟨trivial,trivial⟩
 |a::z,_,x,i,j,s,⟨v,F,e,g,f⟩,y,b,c=>by
  subst e;by_cases d:i=s
  . subst d;cases a with
    |val a t=>
     simp only[Ih,find,yI,qW,yJ];exact⟨Bi.explode g,F4⟩
    |row t e=>
     simp only[Ih,find,yI,qW,yJ];have k:B j=v:=b 0 v (by simp[D9,N0]);exact⟨⟨v,[],rfl,k.symm,rfl⟩,λl h=>by simp at h;subst h;simp only[Lr]at c;show j<n;omega⟩
    |box T A=>
     simp only[Ih,find,yI,qW,yJ];have o:B j=v:=b 0 v (by simp[D9,N0]);obtain⟨l,D,h,_⟩:=g;exact⟨⟨v,[],rfl,⟨l,o.trans h,h⟩,rfl⟩,λt k=>by simp at k;subst k;simp only[Lr]at c;show j<n;omega⟩
    |rows t e o=>
     simp only[Ih,find,yI,qW,yJ];have k:B j=v:=b 0 v (by simp[D9,N0]);exact⟨⟨v,[],rfl,k.symm,rfl⟩,λl h=>by simp at h;subst h;simp only[Lr]at c;show j<n;omega⟩
    |fn k o=>
     simp only[Ih,find,yI,qW,yJ];exact⟨⟨v,[],rfl,g,rfl⟩,λl h=>by simp at h;subst h;trivial⟩
  have r:s-i=(s-(i+1))+1:=ω
  rw[r];cases a with
  |val a t=>
   simp only[Ih,find,F1 d,rJ,uV];exact Iu (i:=i+1) (s:=s) f ω b c
  |fn h k=>
   simp only[Ih,find,F1 d,rJ,uV];exact Iu (i:=i+1) (s:=s) f ω b c
  |row t e=>
   simp only[Ih,find,F1 d,rJ,uV];exact Iu (i:=i+1) (s:=s) f ω (λm u h=>by rw[(ω:j+1+m=j+(m+1))];exact b (m+1) u (by simpa[D9,N0]using h)) (by simp only[Lr]at c;omega)
  |box t e=>
   simp only[Ih,find,F1 d,rJ,uV];exact Iu (i:=i+1) (s:=s) f ω (λm u h=>by rw[(ω:j+1+m=j+(m+1))];exact b (m+1) u (by simpa[D9,N0]using h)) (by simp only[Lr]at c;omega)
  |rows t e k=>
   simp only[Ih,find,F1 d,rJ,uV];exact Iu (i:=i+1) (s:=s) f ω (λm u h=>by rw[(ω:j+1+m=j+(m+1))];exact b (m+1) u (by simpa[D9,N0]using h)) (by simp only[Lr]at c;omega)
def A5l {n:Nat} {U:Nat->Nat->Prop} :∀ {as:List AM} {vs:List Value} {x:A5 as} {j k:Nat},Ac P w Z as vs x->(∀m p,(R2 as vs)[m]? =some p->B (j+m)=p.2/\∀b,B7 w p.2 (lcA p.1) b->U (j+m) b)->
 RL (U k) w Z B k (find (0, .none) k (Ek as x j)).2/\BJ n (find (0, .none) k (Ek as x j)).2/\(live (find (0, .none) k (Ek as x j)).2->j<=k/\∃p,(R2 as vs)[k-j]? =some p/\∀b,B7 w (B k) (find (0, .none) k (Ek as x j)).2 b->B7 w p.2 (lcA p.1) b):=by
 intro as
 induction as with
 |nil=>intro _ _ _ _ _ _;exact⟨trivial,trivial,λh=>h.elim⟩
 |cons f r o=>
  intro vs x j k D c;obtain⟨v,y,e,h,i⟩:=D;subst e;have l:N0 f=true->j≠k->RL (U k) w Z B k (find (0, .none) k (Ek r x.2 (j+1))).2/\BJ n (find (0, .none) k (Ek r x.2 (j+1))).2/\(live (find (0, .none) k (Ek r x.2 (j+1))).2->j<=k/\∃p,(R2 (f::r) (v::y))[k-j]? =some p/\∀b,B7 w (B k) (find (0, .none) k (Ek r x.2 (j+1))).2 b->B7 w p.2 (lcA p.1) b):=λhm a=>by
   obtain⟨t,u,g⟩:=o (vs:=y) (x:=x.2) (j:=j+1) (k:=k) i (λm p s=>by rw[(ω:j+1+m=j+(m+1))];exact c (m+1) p (by simpa[R2,hm]using s));refine⟨t,u,λd=>⟨by have:=(g d).1;omega,?_⟩⟩;obtain⟨E,p,z,A⟩:=g d;refine⟨p,?_,A⟩;rw[(ω:k-j=(k-(j+1))+1)];simpa[R2,hm]using z
  cases f with
  |val f t=>exact o (x:=x.2) i c
  |fn f t=>exact o (x:=x.2) i c
  |row u s=>
   simp only[Ek,find];by_cases a:j=k
   . subst a;simp only[yI,qW];obtain⟨g,E⟩:=c 0 (.row u s,v) (by simp[R2,N0]);obtain⟨F,t,z,A⟩:=h;have g:B j=v:=g;refine⟨⟨F,by rw[g];exact t,z,λb d=>?_⟩,trivial,λ_=>⟨qT _,(.row u s,v),by simp[R2,N0],λb d=>by rw[g]at d;exact d⟩⟩;rw[g]at d;exact⟨E b ((E9 t).trans d),A b d⟩
   simp only[F1 a,rJ];exact l rfl a
  |box T t=>
   simp only[Ek,find];by_cases a:j=k
   . subst a;simp only[yI,qW];obtain⟨d,E⟩:=c 0 (.box T t,v) (by simp[R2,N0]);obtain⟨b,F,g,u,z,A⟩:=h;have d:B j=v:=d;exact⟨⟨b,F,d.trans g,E b (by rw[g];rfl),u,z,O7 A⟩,F4,λ_=>⟨qT _,(.box T t,v),by simp[R2,N0],λb s=>by rw[d]at s;exact s⟩⟩
   simp only[F1 a,rJ];exact l rfl a
  |rows u s t=>
   simp only[Ek,find];by_cases a:j=k
   . subst a;simp only[yI,qW];obtain⟨g,E⟩:=c 0 (.rows u s t,v) (by simp[R2,N0]);obtain⟨z,A⟩:=h;have g:B j=v:=g;refine⟨Cp.rl (by rw[g];exact z) λb d=>?_,λp F=>(by cases F),λ_=>⟨qT _,(.rows u s t,v),by simp[R2,N0],λb d=>by rw[g]at d;exact(W9 λ_ _=>rfl).1 d⟩⟩;rw[g]at d;exact⟨E b ((W9 λ_ _=>rfl).1 d),A b d⟩
   simp only[F1 a,rJ];exact l rfl a
def Ac.len:∀ {as:List AM} {vs:List Value} {x:A5 as},Ac P w Z as vs x->vs.length=as.length
 | [],_,_,h=>by rw[show _= _ from h];rfl
 | _:: _,_,_,⟨v,b,e,_,a⟩=>by rw[e,rH,rH,Ac.len a]
def Bc:∀ {as:List AM} {vs:List Value},vs.length=as.length->(D9 as vs).length=Lr as
 | [],vs,_=>by cases vs<;>rfl
 |a::r,[],h=>by simp at h
 | .val _ _::r,v::vs,h=>Bc (as:=r) (by simpa using h)
 | .fn _ _ _::r,v::vs,h=>Bc (as:=r) (by simpa using h)
 | .row _ _::r,v::vs,h=>by simp only[D9,N0,qW,rH,Lr];rw[Bc (as:=r) (by simpa using h)]
 | .box _ _::r,v::vs,h=>by simp only[D9,N0,qW,rH,Lr];rw[Bc (as:=r) (by simpa using h)]
 | .rows _ _ _::r,v::vs,h=>by simp only[D9,N0,qW,rH,Lr];rw[Bc (as:=r) (by simpa using h)]
def Vt:∀(as:List AM) (vs:List Value),D9 as vs=(R2 as vs).map (·.2)
 | [],vs=>by cases vs<;>rfl
 | _:: _,[]=>rfl
 |a::r,v::vs=>by
  simp only[D9,R2];cases N0 a
  . exact Vt r vs
  simp only[qW,rT,Vt r vs]
def Dis.get:∀ {l:List (AM×Value)} {m c b:Nat} {u a:AM×Value},Dis w l->m<c->l[m]? =some u->l[c]? =some a->B7 w u.2 (lcA u.1) b->¬B7 w a.2 (lcA a.1) b
 | [],_,_,_,_,_,_,_,h,_,_=>by simp at h
 |v::l,0,c+1,b,u,a,g,i,h,d,f=>by
  simp at h d;subst h;exact g.1 b f a (sY d)
 |v::l,m+1,c+1,b,u,a,g,i,h,d,f=>by
  simp at h d;exact Dis.get g.2 ω h d f
 |v::l,_,0,_,_,_,_,d,_,_,_=>ω
def mH (as:List AM) (vs:List Value):Nat->Value:=λj=>((D9 as vs)[j]?).getD (.bool false)
def EU:∀ {as:List AM} {vs:List Value} {x:A5 as},Ac P w Z as vs x->∀u∈D9 as vs,u.oneCell'=true
 | [],vs,_,_,u,a=>by cases vs<;>cases a
 | .val _ _::r,_,_,⟨v,c,e,_,a⟩,u,b=>by subst e;exact EU (as:=r) a u b
 | .fn _ _ _::r,_,_,⟨v,c,e,_,a⟩,u,b=>by subst e;exact EU (as:=r) a u b
 | .row t d::r,_,_,⟨v,f,e,⟨h,g,_⟩,c⟩,u,a=>by
  subst e;simp only[D9,N0,qW,qV]at a;rcases a with rfl|a
  . rcases g.2 with⟨b,_⟩ | ⟨_,_,_,b,_⟩<;>rw[b]<;>rfl
  exact EU (as:=r) c u a
 | .rows t d f::r,_,_,⟨v,h,e,⟨⟨i,g,_⟩,_⟩,c⟩,u,a=>by
  subst e;simp only[D9,N0,qW,qV]at a;rcases a with rfl|a
  . rcases g.2 with⟨b,_⟩ | ⟨_,_,_,b,_⟩<;>rw[b]<;>rfl
  exact EU (as:=r) c u a
 | .box t d::r,_,_,⟨v,h,e,⟨c,f,g,_⟩,b⟩,u,a=>by
  subst e;simp only[D9,N0,qW,qV]at a;rcases a with rfl|a
  . rw[g];rfl
  exact EU (as:=r) b u a
def Iv:∀ {as:List AM} {x:A5 as} {j k:Nat},¬live (find (0, .none) k (Ek as x j)).2->(find (0, .none) k (Ek as x j)).2= .none
 | [],_,_,_,_=>rfl
 | .val _ _::r,x,j,k,h=>Iv (as:=r) (x:=x.2) (j:=j) h
 | .fn _ _ _::r,x,j,k,h=>Iv (as:=r) (x:=x.2) (j:=j) h
 | .row t b::r,x,j,k,h=>by
  simp only[Ek,find]at h|-;cases a:Nat.beq j k with
  |true=>rw[a]at h;exact absurd trivial h
  |false=>rw[a]at h;exact Iv (as:=r) h
 | .rows t b c::r,x,j,k,h=>by
  simp only[Ek,find]at h|-;cases a:Nat.beq j k with
  |true=>rw[a]at h;exact absurd trivial h
  |false=>rw[a]at h;exact Iv (as:=r) h
 | .box T t::r,x,j,k,h=>by
  simp only[Ek,find]at h|-;cases a:Nat.beq j k with
  |true=>rw[a]at h;exact absurd trivial h
  |false=>rw[a]at h;exact Iv (as:=r) h
def C8t (w:World) (as:List AM) (vs:List Value):Nat->Nat->Prop:=λk b=>∃p:AM×Value,(R2 as vs)[k]? =some p/\B7 w p.2 (lcA p.1) b
def zn0 (w:World) (Z:Nat->Prop) (as:List AM) (vs:List Value):Zn:=⟨Z,ZN w as vs,Lr as,mH as vs,0,0,C8t w as vs,λ_ _ ⟨p,hp,hb⟩=>⟨p,sY hp,hb⟩,[]⟩
def C1g {as:List AM} {vs:List Value} {x:A5 as} (J:∀b,Z b->b<w.heap.size) (h:Ac P w Z as vs x) (D:Dis w (R2 as vs)):C3 (zn0 w Z as vs) w (A5k P as x) (TH vs) w Z (mH as vs):=by
 have O:=Bc (Ac.len h);have z:∀m u,(D9 as vs)[m]? =some u->mH as vs (0+m)=u:=λm u a=>by simp only[mH,rZ,a,vW]
 have g:∀(m:Nat) (p:AM×Value),(R2 as vs)[m]? =some p->(D9 as vs)[m]? =some p.2:=λm p a=>by rw[Vt,vH,a];rfl
 have d:=λk=>A5l (P:=P) (w:=w) (Z:=Z) (B:=mH as vs) (n:=Lr as) (U:=λk b=>up (zn0 w Z as vs) w k b) (j:=0) (k:=k) h (λm p a=>⟨z m p.2 (g m p a),λb l=> .inr ⟨by have:=TD (g m p a);simp only[rZ];show m<Lr as;omega,p,by simpa using a,l⟩⟩)
 have A:=λs=>Iu (P:=P) (w:=w) (Z:=Z) (B:=mH as vs) (E:=TH vs) (n:=Lr as) (i:=0) (j:=0) (s:=s) h (rQ _) z ω
 refine⟨Y9.of (R7.refl w),J,λs=>(A s).1,λk=>(d k).1,λk o b Q r t=>?_,λs=>(A s).2,λk=>(d k).2.1,λk F=>?_,λk=>?_,λb l=> .inl l,⟨rfl,qT _⟩,λ_ _=>rfl,⟨rQ _,λ_ _ _ _=>rQ _⟩,trivial,λM H=>(by cases H)⟩
 . obtain⟨_,p,c,v⟩:=(d k).2.2 r.live;obtain⟨_,R,f,y⟩:=(d o).2.2 t.live;simp only[g2t]at c f;rcases sI k o with I|N
   . exact D.get I c f (v b r) (y b t)
   exact D.get (ω:o<k) f c (y b t) (v b r)
 . by_cases G:live ((A5k P as x).L k)
   . obtain⟨_,p,c,_⟩:=(d k).2.2 G;simp only[g2t]at c;have:=TD (g k p c);have F:Lr as<=k:=F;omega
   exact Iv G
 simp only[mH];cases a:(D9 as vs)[k]? with
 |none=>rfl
 |some u=>exact EU h u (sY a)
def B7g {f:FuncId} {fn:Func} {c:Code} {s:A9} (a0:cx.P.funcs[f]? =some fn) (a:fn.body=some c) (a1:s.args.length<=fn.ntmps) (a3:Cm fn.ntmps c=true) (Q:H4 cx.P cx.tys=true) (a9:Ql cx.P sp)
 (ac:∀x,awf s.args x->s.pre x->C7g cx sp an s fn.results.toList c x):B6 cx.P f s:=by
 intro w Z i x ad H Y a5;have v:i.length=s.args.length:=H.len;have a8:=ac x H.awf a5;generalize k:zn0 w Z s.args i=za;have M:=C1g ad H Y;rw[k]at M;refine SZ a0 a (by rw[v];exact a1) a3 (λE l=>Nx za w (fin cx s fn.results.toList x) E l) ?_ ⟨λa4 U G=>?_⟩
 . rintro E l A ab ⟨st,Z',B',D,h⟩;unfold fin at h;split at h
   . rename_i ss af;split at h
     . rename_i ah aa;split at h
       . rename_i z R G a2;obtain⟨g,r⟩:=C0 h;simp only[qC]at g;obtain⟨Z0,X⟩:=C3.settleR (rs:=s.res) (ss:=ss) D;obtain⟨Z1,n⟩:=C3.settleM (as:=s.args) (j:=0) X;obtain⟨B,V,W⟩:=ND Q n ab aa;have a7:(results fn A).run cx.P l= .ok (BY B) l:=by
          have d:(fn.results.mapM (A0o A)).run cx.P l= .ok B.toArray l:=by
           rw[zC];simp[V]
          have e:results fn A=(do let i<-fn.results.mapM (A0o A);pure (if D:i.size=1 then i[0]else .tuple i)):=by
           unfold results;congr 1
          rw[e];simp only[Sem.run_bind,d,Result.andThen_ok,Sem.run_pure]
          match B with
          | []=>rfl
          | [u]=>rfl
          |u::ai::z=>rfl
         have O:s.post x z/\(Q6 s.args=true->s.mpost x z R):=by
          unfold C8q at r;cases d:Q6 s.args with
          |true=>simp only[d,qW]at r;exact⟨r.1,λ_=>r.2⟩
          |false=>simp only[d,rJ]at r;exact⟨r,λo=>by cases o⟩
         refine⟨_,a7,?_,z,R,B,(λb=>s.shared=true/\Z1 b),O.1,O.2,rfl,λb a=>?_,?_,?_⟩
         . have:=D.ext;rw[<-k]at this;exact this
         . rcases n.zin b a.2 with o|o
           . rw[<-k]at o;exact .inr ⟨a.1,o⟩
           exact .inl ⟨o,n.zlt b a.2⟩
         . refine(Su n (Zn:=λb=>s.shared=true/\Z1 b) (λb a=>a.2) ?_ W G (Js g.1.1) g.1.2).1;cases I:s.shared with
           |true=>exact .inl λb a=>⟨rfl,a⟩
           |false=>rw[I]at g;simp only[vC,qC]at g;exact .inr g.2.1
         refine EN (Zn:=λb=>s.shared=true/\Z1 b) n (j:=0) ?_ (λm u d=>?_) (λm p d b t=>?_) v a2
         . cases I:s.shared with
           |true=>exact .inl λb a=>⟨rfl,a⟩
           |false=>rw[I]at g;simp only[vC,qC]at g;exact .inr g.2.2
         . have y:=TD d;rw[Bc v]at y;have:=n.bfix m (by rw[<-k];exact y);rw[rZ,this, <-k];show mH s.args i m=u;simp only[mH,d,vW]
         rw[<-k,rZ]at t;rcases t with⟨t,_⟩ | ⟨_,ag,N,a⟩
         . have y:=TD (show(D9 s.args i)[m]? =some p.2 by rw[Vt,vH,d];rfl);rw[Bc v]at y;have t:Lr s.args<=m:=t;omega
         rw[d]at N;cases N;exact a
       exact h.elim
     exact h.elim
   exact h.elim
 refine wp_mono (A9s Q a9 (by rw[<-k];rfl) M a8 a4 U G) ?_;rintro e ae l ⟨E',a6,T,Z',B',J,F⟩;refine⟨E',a6,?_⟩;cases e with
 |normal=>exact⟨T,Z',B',J,F⟩
 |ret=>exact⟨T,Z',B',J,F⟩
 | _=>exact F.elim
def B7h {f:FuncId} {fn:Func} {c:Code} {s:A9} {a:A5 s.args->Prop} (g:cx.P.funcs[f]? =some fn) (b:fn.body=some c) (h:s.args.length<=fn.ntmps) (i:Cm fn.ntmps c=true) (k:H4 cx.P cx.tys=true) (j:Ql cx.P sp)
 (d:∀x,C7g cx sp an s fn.results.toList c x=a x) (l:∀x,awf s.args x->s.pre x->a x):B6 cx.P f s:=
 B7g g b h i k j λx n a=>by rw[d];exact l x n a
def C7h (P:Program) (tys:List (Nat×TI)) (sp:G9) (an:An) (s:A9) (fn:Func) (x:A5 s.args):Prop:=C7g ⟨P,tys⟩ sp an s fn.results.toList (fn.body.getD .skip) x
def B7i {P:Program} {tys:List (Nat×TI)} {sp:G9} {an:An} {f:FuncId} {fn:Func} {s:A9} {g:A5 s.args->Prop} (i:P.funcs[f]? =some fn) (b:fn.body.isSome=true) (j:Nat.ble s.args.length fn.ntmps=true) (k:Cm fn.ntmps (fn.body.getD .skip)=true) (n:H4 P tys=true) (l:Ql P sp)
 (h:∀x,C7h P tys sp an s fn x=g x) (o:∀x,awf s.args x->s.pre x->g x):B6 P f s:=by
 cases a:fn.body with
 |none=>rw[a]at b;cases b
 |some c=>
  have d:fn.body.getD .skip=c:=by rw[a];rfl
  refine B7h (cx:=⟨P,tys⟩) (an:=an) (c:=c) i a (qS j) (by rw[<-d];exact k) n l (λx=>?_) o;rw[<-h x, <-d];rfl
def FA (a:Nat):Nat->List SV->List (Nat×Nat×DV)
 | _,[]=> []
 |i,s::b=>(i,a, .one s)::FA a (i+1) b
def mY (st:St) (ss:List SV):St:=⟨FA (st.ct+1) 0 ss,st.lc,st.nx,st.ct+1,st.nm,st.sl::st.fr⟩
def A6m (cx:Cx) (c:List ResultVar) (b:Nat) (k:St->List SV->Prop) (st:St):Prop:=
 match st.fr with
 |f::a=>(match BK cx st c with
  |some c=>k ⟨f,st.lc,max st.nx b,st.ct,st.nm,a⟩ c
  |none=>False)
 | []=>False
def QU (cx:Cx) (b:List (Nat×G9×An)) (a:List ResultVar) (c:Code) (n d:Nat) (st:St) (ss:List SV) (k:St->List SV->Prop):Prop:=
 match Bl d b with
 |some (sp,an)=>bif Nat.ble ss.length n then Oy cx sp an c ⟨A6m cx a an.bump k,λ_ _=>False,A6m cx a an.bump k⟩ (mY st ss)else False
 |none=>False
def jA {i:List ResultVar} {b:Nat} {k k':St->List SV->Prop} {ss:List SV} {a:St} (ev:C4 (mY st ss) a) (h:A6m cx i b k a) (o:∀a g,C4 st a->k a g->k' a g):A6m cx i b k' a:=by
 unfold A6m at h|-;cases d:a.fr with
 |nil=>rw[d]at h;exact h
 |cons j n=>
  rw[d]at h;simp only at h|-;split at h
  . have e:=ev.f;rw[d]at e;have e:Q5 (st.ct+1) st.sl j/\Bb (st.ct+1) st.fr n:=e;refine o _ _ ⟨qY (uI _) ev.ct,λs f c=>?_,λq f c=>ev.l q f (xA c),e.2.le (uI _)⟩ h;exact Q5.find s e.1 (xA c)
  exact h
def B6l (f:List (Nat×G9×An)) (j:List ResultVar) (c:Code) (n:Nat) {st:St} {d:Nat} {ss:List SV} {k k':St->List SV->Prop} (h:QU cx f j c n d st ss k) (g:∀a i,C4 st a->k a i->k' a i):QU cx f j c n d st ss k':=by
 unfold QU at h|-;split at h
 . obtain⟨l,h⟩:=C0 h;simp only[l,qW];refine SC h λe a ev b=>?_
   cases e with
   |normal=>exact jA ev b g
   |ret=>exact jA ev b g
   | _=>exact b
 exact h
def Pg (cx:Cx) (a:List (Nat×G9×An)) (b:List ResultVar) (c:Code) (n:Nat):Inl:= {run:=QU cx a b c n,step:=B6l a b c n}
def NH {c s:Nat} :∀ {ss:List SV} {i:Nat},(find (0, .dead) s (FA c i ss)).2=if i<=s then(match ss[s-i]? with|some v=> .one v|none=> .dead)else .dead
 | [],i=>by simp[FA,find]
 |v::ss,i=>by
  simp only[FA,find];cases b:Nat.beq i s with
  |true=>
   have:=qD b;subst this;simp
  |false=>
   have d:i≠s:=uL b;simp only[rJ,NH (ss:=ss) (i:=i+1)];by_cases a:i+1<=s
   . rw[qK a,qK ω,(ω:s-i=(s-(i+1))+1),uV]
   rw[qG a,qG ω]
def Ou.len {w:World} {Z:Nat->Prop} {B:Nat->Value} :∀ {ss:List SV} {vs:List Value},Ou w Z B ss vs->vs.length=ss.length
 | [],_,h=>by rw[show _= _ from h];rfl
 | _:: _,_,⟨v,b,e,_,a⟩=>by rw[e,rH,rH,Ou.len a]
def RZ (h:C3 za w0 st E w Z B):∀ {f:List ResultVar} {ss:List SV},BK cx st f=some ss->∀s∈ss,Na st.nx s
 | [],_,a=>by cases a;intro s a;cases a
 | .tmp t::r,ss,a=>by
  simp only[BK]at a;split at a
  . rename_i g d;simp only[qL]at a;obtain⟨i,c,rfl⟩:=a;intro s b;rcases qV.1 b with rfl|b
    . have:=h.refs t;rw[d]at this;exact this
    exact RZ h c s b
  cases a
 | .cell g t::r,ss,a=>by
  simp only[BK,qI,bind_some]at a;obtain⟨ti,_,a⟩:=a;split at a
  . rename_i k _;split at a
    . rename_i T i c;obtain⟨_,a⟩:=E8 a;simp only[qL]at a;obtain⟨j,d,rfl⟩:=a;intro s b;rcases qV.1 b with rfl|b
      . have:=h.refl k;rw[c]at this;exact this
      exact RZ h d s b
    cases a
  cases a
def A7n (P:Program) (a:List (Nat×G9×An)):Prop:=∀x∈a,Ql P x.2.1
def gM {α:Type} {d:Nat} {x:α} :∀ {l:List (Nat×α)},Bl d l=some x->(d,x)∈l
 | [],h=>by cases h
 | (t,y)::l,h=>by
  simp only[Bl]at h;cases a:Nat.beq t d with
  |true=>
   rw[a]at h;have:=qD a;subst this;cases h;simp
  |false=>rw[a]at h;exact qJ _ (gM h)
def Iw {f:FuncId} {fn:Func} {c:Code} {x:List (Nat×G9×An)} (Y:cx.P.funcs[f]? =some fn) (g:fn.body=some c) (a6:Cm fn.ntmps c=true) (J:H4 cx.P cx.tys=true) (o:A7n cx.P x):GW cx.P f (Pg cx x fn.results.toList c fn.ntmps):=by
 refine {go:= ?_};intro za w0 st E w Z B O j l M W h H aa b;have b:QU cx x fn.results.toList c fn.ntmps O st j M:=b;unfold QU at b;split at b
 . rename_i sp an a2;have o:=o _ (gM a2);simp only at o;obtain⟨z,b⟩:=C0 b;have z:=qS z;have a4:=H.len;have D:∀s,(mY st j).S s=match j[s]? with|some v=> .one v|none=> .dead:=λs=>by
    show(find (0, .dead) s (FA (st.ct+1) 0 j)).2= _;rw[NH,qK (rQ _)];rfl
   have V:C3 {za with es:=E::za.es} w0 (mY st j) (TH l) w Z B:=by
    refine⟨h.ext,h.zlt,λs=>?_,h.locs,h.disj,λs=>?_,h.refl,h.fresh,h.bone,h.zin,h.nms,h.bfix,h.mrk,⟨h.slots,h.frs⟩,λI t s=>?_⟩
    . rw[D];cases A:j[s]? with
      |none=>trivial
      |some v=>
       obtain⟨u,Q,R⟩:=H.get A;show RS w Z B v (TH l s);simp only[TH,Q,vW];exact R
    . rw[D];cases A:j[s]? with
      |none=>trivial
      |some v=>exact aa v (sY A)
    rcases qV.1 t with rfl|t
    . exact h.refs s
    exact h.frf I t s
   refine SZ Y g (by rw[a4];exact z) a6 (λE' k=>Nx {za with es:=E::za.es} w0 (A6m cx fn.results.toList an.bump M) E' k) ?_ ⟨λa7 N a8=>?_⟩
   . rintro E' k r ac ⟨d,Z',B',a,i⟩;unfold A6m at i;have G:=a.frs;have y:=a.frf;cases F:d.fr with
     |nil=>rw[F]at i;exact i.elim
     |cons A Q=>
      rw[F]at i G y;simp only at i;obtain⟨a0,a1⟩:=G;split at i
      . rename_i ad I;obtain⟨t,T,U⟩:=ND J a ac I;have ab:(results fn r).run cx.P k= .ok (BY t) k:=by
         have a5:(fn.results.mapM (A0o r)).run cx.P k= .ok t.toArray k:=by
          rw[zC];simp[T]
         have e:results fn r=(do let l<-fn.results.mapM (A0o r);pure (if h:l.size=1 then l[0]else .tuple l)):=by
          unfold results;congr 1
         rw[e];simp only[Sem.run_bind,a5,Result.andThen_ok,Sem.run_pure]
         match t with
         | []=>rfl
         | [u]=>rfl
         |u::ag::af=>rfl
        have g:=g2x d.nx an.bump;exact⟨_,ab,⟨A,d.lc,max d.nx an.bump,d.ct,d.nm,Q⟩,Z',B',ad,t,⟨a.ext,a.zlt,a0,a.locs,a.disj,λs=>(y A (by simp) s).le g,λq=>(a.refl q).le g,λq n=>a.fresh q (qY g n),a.bone,a.zin,⟨a.nms.1,qY a.nms.2 g⟩,a.bfix,a.mrk,a1,λR a3 s=>(y R (by simp[a3]) s).le g⟩,rfl,U,λs b c X=>(RZ a I s b c X).le g,i⟩
      exact i.elim
   refine wp_mono (A9s J o (by exact W) V b a7 N a8) ?_;rintro e ae k ⟨E',a9,d,Z',B',a,n⟩;refine⟨E',a9,?_⟩;cases e with
   |normal=>exact⟨d,Z',B',a,n⟩
   |ret=>exact⟨d,Z',B',a,n⟩
   | _=>exact n.elim
 exact b.elim
def W3 (run:Inl):A9:= {args:= [],res:= [],pre:=λ_=>False,post:=λ_ _=>True,inl:=some run}
end
end Go.Vc
namespace Go.Proofs.YtcbjamefalhfgaaGreat
open Go.IntKind (i64 u64 u32)
abbrev Wf:=List Int
def nv:Wf->Nat
 | []=>0
 |a::l=>a.toNat+4294967296*nv l
def nc (n:Nat):Wf:=if h:n=0 then []else((n%4294967296:Nat):Int)::nc (n/4294967296)
termination_by n
decreasing_by omega
def mC (x:Int):Prop:=0<=x/\x<=4294967295
def B4 (l:Wf):Prop:=∀x∈l,mC x
def R5:nc 0= []:=by rw[nc];rfl
def RG {n:Nat} (h:n≠0):nc n=((n%4294967296:Nat):Int)::nc (n/4294967296):=by rw[nc];simp[h]
def F9 (n:Nat):nv (nc n)=n:=by
 induction n using Nat.strongRecOn with
 | _ n a=>
  by_cases h:n=0
  . subst h;rw[R5];rfl
  rw[RG h];simp only[nv,a (n/4294967296) ω];omega
def L5 (n:Nat):B4 (nc n):=by
 induction n using Nat.strongRecOn with
 | _ n b=>
  by_cases h:n=0
  . subst h;rw[R5];intro x a;cases a
  rw[RG h];intro x a;rcases qV.1 a with rfl|a
  . unfold mC;omega
  exact b (n/4294967296) ω x a
def AW {n:Nat} :nc n= []↔n=0:=by
 constructor
 . intro h;by_cases a:n=0
   . exact a
   rw[RG a]at h;cases h
 rintro rfl;exact R5
def A9a (a:Int) (m:Nat) (b:mC a) (h:a≠0\/m≠0):nc (a.toNat+4294967296*m)=a::nc m:=by
 unfold mC at b;rw[RG ω];congr 1
 . omega
 congr 1;omega
def Sl (a b:Wf):nv (a++b)=nv a+4294967296^a.length*nv b:=by
 induction a with
 |nil=>simp[nv]
 |cons x a c=>
  simp only[yC,nv,c,rH,sD];rw[sZ, <-uM, <-sK,sH 4294967296 (4294967296^a.length)]
def Sm (n:Nat):nv (List.replicate n 0)=0:=by
 induction n with
 |zero=>rfl
 |succ n a=>simp[List.replicate_succ,nv,a]
def YZ {a:Int} {l:Wf} :B4 (a::l)↔mC a/\B4 l:=by simp[B4]
def Hd {l:Wf} (h:B4 l):nv l<4294967296^l.length:=by
 induction l with
 |nil=>simp[nv]
 |cons b l a=>
  rw[YZ]at h;have:=a h.2;have a:=h.1;unfold mC at a;simp only[nv,rH,sD];omega
def C9g {l:Wf} (h:B4 l) (c:∀x,l.getLast? =some x->x≠0):nc (nv l)=l:=by
 induction l with
 |nil=>exact R5
 |cons b l a=>
  rw[YZ]at h;simp only[nv];cases l with
  |nil=>
   have:=c b rfl;rw[A9a b _ h.1 (.inl this)];simp only[nv,R5]
  |cons d l=>
   have a:=a h.2 (λx hx=>c x (by rw[List.getLast?_cons_cons];exact hx));have g:nv (d::l)≠0:=by
    intro f;rw[f,R5]at a;cases a
   rw[A9a b _ h.1 (.inr g),a]
def A9b {l:Wf} (h:B4 l) {n:Nat} (f:n<=l.length) (k:∀i x,n<=i->l[i]? =some x->x=0) (d:n=0\/∃x,l[n-1]? =some x/\x≠0):l.take n=nc (nv l):=by
 have e:nv l=nv (l.take n):=by
  conv=>lhs;rw[<-uT n l]
  rw[Sl];have:l.drop n=List.replicate (l.length-n) 0:=by
   apply xT;intro i;rw[xL];by_cases c:n+i<l.length
   . rw[qQ c,uW,qK ω];rw[k (n+i) l[n+i] ω (qQ c)]
   rw[rW ω,rW (by simp;omega)]
  rw[this,Sm];simp
 rw[e]
 symm
 apply C9g
 . intro x a;exact h x (rU a)
 intro x a;rw[List.getLast?_eq_getElem?,rA,tJ f]at a;rcases d with b| ⟨y,g,j⟩
 . subst b;simp at a
 rw[sC (by
  rcases vN n with b|b
  . subst b;simp at a
  omega),g]at a
 cases a;exact j
def Ep {n k:Nat} (h:n<4294967296^k):(nc n).length<=k:=by
 induction k generalizing n with
 |zero=>have:n=0:=by simpa using h
        subst this;rw[R5];exact qT _
 |succ k b=>
  by_cases a:n=0
  . subst a;rw[R5];exact rQ _
  rw[RG a,rH];have:n/4294967296<4294967296^k:=by
   rw[uA δ];rw[sD]at h;exact h
  have:=b this;omega
def D6 {l:Wf} (h:B4 l):(nc (nv l)).length<=l.length:=Ep (Hd h)
def B7q {n k:Nat} (h:k<(nc n).length):4294967296^k<=n:=by
 rcases sI n (4294967296^k)with a|a
 . have:=Ep a;omega
 exact a
def K7 {m n:Nat} (h:m<=n):(nc m).length<=(nc n).length:=by
 apply Ep;have:=Hd (L5 n);rw[F9]at this;omega
def Ge (n:Nat):n<4294967296^(nc n).length:=by
 have:=Hd (L5 n);rwa[F9]at this
def Qy (m n:Nat):(nc (m*n)).length<=(nc m).length+(nc n).length:=by
 apply Ep;rw[uN];have a:=Ge m;have b:=Ge n;exact Nat.mul_lt_mul'' a b
def RE (m n:Nat):(nc (m+n)).length<=max (nc m).length (nc n).length+1:=by
 apply Ep;have a:=Ge m;have a:=Ge n;have a:4294967296^(nc m).length<=4294967296^(max (nc m).length (nc n).length):=rY δ (g2x ..);have a:4294967296^(nc n).length<=4294967296^(max (nc m).length (nc n).length):=rY δ (g5k ..);rw[sD];omega
abbrev Li:=Bool×Wf
abbrev C6:=Li×Wf
def Dc (a b:Nat):Int:=if a<b then -1 else if b<a then 1 else 0
def N4 (a b:Int):Int:=if a<b then -1 else if b<a then 1 else 0
def iv (x:Li):Int:=if x.1=true then -(nv x.2:Int)else(nv x.2:Int)
def ic (v:Int):Li:=(decide (v<0),nc v.natAbs)
def C7e (x:C6):Int:=if nv x.2=0 then 0 else(iv x.1).sign
def rv (x:C6):Rat:=mkRat (iv x.1) (nv x.2)
def rc (q:Rat):C6:=(ic q.num,nc q.den)
def K9 (x:C6):Prop:=nv x.1.2<2147483648/\nv x.2<2147483648
instance (x:C6):Decidable (K9 x):=by unfold K9;infer_instance
def Sk (x:C6):Int:=if nv x.2=0 then 0 else iv x.1
def Ov (x:C6):Int:=if nv x.2=0 then 1 else(nv x.2:Int)
def zi:Li:=(false,[])
def zr:C6:=((false,[]),[])
def ri (k:Int):C6:=(ic k,[1])
abbrev Hz (l:Wf):Prop:=l.length<=35184372088832
abbrev N2 (l:Wf):Prop:=l.length<=17592186044416
abbrev Fu (l:Wf):Prop:=l.length<=8796093022208
def H3 (x:C6):Prop:=x.1.2.length<=2199023255552/\x.2.length<=2199023255552
def Ll (a b:Li):Rat:=Rat.divInt (iv a) (iv b)
def M8 (n:Nat):Nat:=if n=0 then 0 else Nat.log2 n+1
def C6k (A B u0 u1 v0 v1:Int) (ev:Bool):Prop:=v0=0\/∃A' B':Int,A'=(if ev then u0*A-v0*B else v0*B-u0*A)/\B'=(if ev then v1*B-u1*A else u1*A-v1*B)/\0<=B'/\B'<=A'/\A=v1*A'+v0*B'/\B=u1*A'+u0*B'/\1<=v0/\1<=v1/\0<=u0/\0<=u1
def Nv (l:Wf):Prop:=l.getD (l.length-1) 0≠0
open Go.Vc Go.Gw
def H7 (a b:Bool):F5 a true b=(a||b):=by cases a<;>rfl
def J5 (a b:Bool):F5 a b false=(a&&b):=by cases a<;>rfl
def wr {a:Int} (b: -9223372036854775808<=a) (c:a<=9223372036854775807):i64.wrap a=a:=IntWalk.i64_in _ ⟨b,c⟩
def wv {a:Int} (h: -9223372036854775808<=a/\a<=9223372036854775807):i64.wrap a=a:=wr h.1 h.2
def F6 {α:Type} {d:α} {l:List α} {i:Int} (a:0<=i) (b:i<(l.length:Int)):gx d l i∈l:=sY (H0 a b)
def O8 {α:Type} {d:α} {l:List α} {i:Int} (a:0<=i) (b:i<(l.length:Int)):gx d l i=l.getD i.toNat d:=by
 have:=H0 (d:=d) a b;rw[qE,this];rfl
def Jp {α:Type} {d:α} {l:List α} {q:α->Prop} {i:Int} (b:0<=i) (c:i<(l.length:Int)) (f:∀x∈l.take i.toNat,q x) (g:q (gx d l i)):∀x∈l.take (i+1).toNat,q x:=by
 intro x a;rw[(ω:(i+1).toNat=i.toNat+1),rP,H0 (d:=d) b c]at a;simp at a;rcases a with a|rfl
 . exact f x a
 exact g
def E6 {α:Type} {l:List α} {i:Int} (h:(l.length:Int)<=i):l.take i.toNat=l:=qU ω
def WQ:u32.max=4294967295:=δ
def WR:u32.min=0:=δ
def FG:u64.max=18446744073709551615:=δ
def nT:u64.min=0:=δ
def EQ:i64.max=9223372036854775807:=δ
def Vm:i64.min= -9223372036854775808:=δ
def A6 {l:Wf} (h:∀x∈l,u32.min<=x/\x<=u32.max):B4 l:=λx a=>by
 have:=h x a;rw[WR,WQ]at this;exact this
def Y8 {a:Int} (b:0<=a) (c:a<=18446744073709551615):u64.wrap a=a:=IntWalk.u64_in _ ⟨b,c⟩
def w32 {a:Int} (b:0<=a) (c:a<=4294967295):u32.wrap a=a:=IntWalk.u32_in _ ⟨b,c⟩
def Cs (a:Int):u32.wrap a=a%4294967296:=IntKind.wrap_u32 a
def Ct (a:Int):u64.wrap a=a%18446744073709551616:=IntKind.wrap_u64 a
def Vq {l:Wf} (h:B4 l) {i:Int} (a:0<=i) (b:i<(l.length:Int)):0<=gx 0 l i/\gx 0 l i<=4294967295:=h _ (F6 a b)
def TL {v:Int} (a:0<=v) (b:v<18446744073709551616):(BitVec.ofInt 64 v).toNat=v.toNat:=by
 rw[yG];congr 1;omega
def aR {v b:Int} {k:Nat} (v0:0<=v) (v1:v<2^k) (b0:0<=b) (c:b*2^k<18446744073709551616) (d:v<18446744073709551616):(((BitVec.ofInt 64 v|||BitVec.ofInt 64 (b*2^k)).toNat:Nat):Int)=v+b*2^k:=by
 have a:0<=b*2^k:=tV b0 (Int.pow_nonneg δ);rw[BitVec.toNat_or,TL v0 d,TL a c];have e:(b*2^k).toNat=b.toNat<<<k:=by
  rw[g5l,g4h b0 (Int.pow_nonneg δ),Int.toNat_pow_of_nonneg δ];rfl
 have c:v.toNat<2^k:=by
  have:(v.toNat:Int)<((2^k:Nat):Int):=by rw[tF v0,xS];exact v1
  exact sG.1 this
 rw[e,Nat.or_comm, <-g0s c, <-e,wO,tF v0,tF a,Int.add_comm]
def MF {l:Wf} {i:Int} (a:0<=i) (b:i<(l.length:Int)):nv (l.take (i+1).toNat)=nv (l.take i.toNat)+4294967296^i.toNat*(gx 0 l i).toNat:=by
 rw[(ω:(i+1).toNat=i.toNat+1),rP,H0 (d:=(0:Int)) a b,zY,Sl,rA,tJ ω];simp[nv]
def X2 {l:Wf} {i:Int} (a:0<=i) (b:i<(l.length:Int)):l.drop i.toNat=gx 0 l i::l.drop (i+1).toNat:=by
 have h:=H0 (d:=(0:Int)) a b;have a:i.toNat<l.length:=ω
 rw[qQ a]at h;rw[vX a,(ω:(i+1).toNat=i.toNat+1)];congr 1;exact xD h
def mN {a b:Wf} (f:B4 a) (_:B4 b) (r:a.length=b.length) {i:Int} (c:0<=i) (d:i<(a.length:Int)) (j:a.drop (i+1).toNat=b.drop (i+1).toNat) (t:gx 0 a i<gx 0 b i):nv a<nv b:=by
 have k:nv a=nv (a.take i.toNat)+4294967296^i.toNat*nv (a.drop i.toNat):=by
  conv=>lhs;rw[<-uT i.toNat a,Sl,rA,tJ ω]
 have n:nv b=nv (b.take i.toNat)+4294967296^i.toNat*nv (b.drop i.toNat):=by
  conv=>lhs;rw[<-uT i.toNat b,Sl,rA,tJ ω]
 have s:=Vq f c d;have g:nv (a.drop i.toNat)+1<=nv (b.drop i.toNat):=by
  rw[X2 c d,X2 c ω,j];simp only[nv];omega
 have o:nv (a.take i.toNat)<4294967296^i.toNat:=by
  have:=Hd (l:=a.take i.toNat) λx hx=>f x (rU hx)
  rwa[rA,tJ ω]at this
 have h:=sB (4294967296^i.toNat) g;rw[sZ,wF]at h;omega
def EV {m n:Nat} (h:(nc m).length<(nc n).length):m<n:=by
 rcases sI m n with a|a
 . exact a
 have:=K7 a;omega
def Vu:nc 1= [1]:=by rw[RG δ];simp[R5]
def C6s:nv [1]=1:=rfl
def mM:nv []=0:=rfl
def iN (n:Nat):Dc n n=0:=by simp[Dc]
def Pj {m n:Nat} (h:m<n):Dc m n= -1:=by simp[Dc,h]
def WJ {m n:Nat} (h:n<m):Dc m n=1:=by
 unfold Dc;rw[qG ω,qK h]
def ZP {m n:Nat} :Dc m n=0↔m=n:=by
 unfold Dc;split
 . omega
 split<;>omega
def L9 (v:Int):iv (ic v)=v:=by
 unfold iv ic;simp only[rR,F9];split<;>omega
def B6g {neg:Bool} {m:Nat} :ic (iv (neg,nc m))=(neg&&decide (m≠0),nc m):=by
 unfold ic iv;simp only[F9];cases neg
 . simp
 simp only[wI,vZ,g0p,wH];constructor
 . omega
 congr 1;omega
def C8v {x:Li} :ic (iv x)=(x.1&&decide (nv x.2≠0),nc (nv x.2)):=by
 have:iv x=iv (x.1,nc (nv x.2)):=by unfold iv;simp only[F9]
 rw[this,B6g]
def C7c (k:Int):nv (ri k).2=1:=rfl
def nA (k:Int):rc (k:Rat)=ri k:=by
 unfold rc ri;rw[g3d,g3b,Vu]
def NF (k:Int):rv (ri k)=(k:Rat):=by
 unfold rv;rw[C7c];show mkRat (iv (ic k)) 1= _;rw[L9];exact Rat.mkRat_one k
def H2 (q:Rat):rv (rc q)=q:=by
 unfold rv rc;simp only[L9,F9];exact g1o q
def C2q (x:C6):C7e x=(rv x).num.sign:=by
 unfold C7e rv;split
 . rename_i h;rw[h,yZ];rfl
 rename_i h;rw[Rat.num_mkRat,qG h];have b:(0:Int)<(((nv x.2).gcd (iv x.1).natAbs:Nat):Int):=by
  have:=g2g (iv x.1).natAbs (tH h);omega
 have c:(((nv x.2).gcd (iv x.1).natAbs:Nat):Int)∣iv x.1:=yH.2 (yV ..);obtain⟨d,a⟩:=c;generalize (((nv x.2).gcd (iv x.1).natAbs:Nat):Int)=g at b a;rw[a,xX _ ω,g4y,uK b,Int.one_mul]
def Ph {x:Int} {d:Nat} (a:d≠0):(mkRat x d).num=x/((d.gcd x.natAbs:Nat):Int)/\(mkRat x d).den=d/d.gcd x.natAbs:=by
 rw[Rat.num_mkRat,Rat.den_mkRat,qG a,qG a];exact⟨rfl,rfl⟩
def dg (l:Wf) (i:Nat):Nat:=(l.getD i 0).toNat
def J9 (l:Wf) (i:Nat):nv (l.take (i+1))=nv (l.take i)+4294967296^i*dg l i:=by
 unfold dg;by_cases h:i<l.length
 . have:=MF (l:=l) (i:=(i:Int)) ω ω;rw[(ω:((i:Int)+1).toNat=i+1),qN]at this;rw[this,O8 ω ω,qN]
 rw[qU ω,qU ω,qE,rW ω];simp
def O5 {l:Wf} (h:B4 l) (i:Nat):dg l i<=4294967295:=by
 unfold dg;by_cases a:i<l.length
 . rw[qE,qQ a];have:=h l[i] (wE a);unfold mC at this;simp only[vW];omega
 rw[qE,rW ω];simp
def Gb {l:Wf} (h:B4 l) {i:Int} (a:0<=i) (b:i<(l.length:Int)):gx 0 l i=(dg l i.toNat:Int):=by
 have:=Vq h a b;unfold dg;rw[<-O8 (d:=(0:Int)) a b];omega
def Ab {l:Wf} (h:B4 l) {i:Nat} :l.getD i 0=(dg l i:Int):=by
 unfold dg;by_cases a:i<l.length
 . have:=h l[i] (wE a);unfold mC at this;rw[qE,qQ a];simp only[vW];omega
 rw[qE,rW ω];rfl
def Qr {l:Wf} {i:Nat} (h:l.length<=i):dg l i=0:=by
 unfold dg;rw[qE,rW h];rfl
def U8 {l:Wf} {i:Nat} {v:Int} (h:i<l.length):nv ((l.set i v).take (i+1))=nv (l.take i)+4294967296^i*v.toNat:=by
 rw[J9,zG (qT _)];unfold dg;rw[qE,sL h];rfl
def Kq:∀ {l:Wf} {k:Nat} {v:Int},k<l.length->nv (l.set k v)+4294967296^k*dg l k=nv l+4294967296^k*v.toNat
 | [],_,_,h=>by simp at h
 |a::l,0,v,_=>by simp[nv,dg];omega
 |a::l,k+1,v,h=>by
  have d:=Kq (l:=l) (k:=k) (v:=v) (by simpa using h);have e:dg (a::l) (k+1)=dg l k:=by simp[dg]
  rw[e];simp only[g4o,nv,sD];generalize nv (l.set k v)=A at*;have b:4294967296^k*4294967296*dg l k=4294967296*(4294967296^k*dg l k):=by rw[sH (4294967296^k) 4294967296,sK]
  have c:4294967296^k*4294967296*v.toNat=4294967296*(4294967296^k*v.toNat):=by rw[sH (4294967296^k) 4294967296,sK]
  rw[b,c,uM,uM, <-sZ, <-sZ,d]
def iF {l:Wf} {k:Nat} {v:Int} (h:B4 l) (b:mC v):B4 (l.set k v):=λx a=>by
 rcases g1s a with a|a
 . exact h x a
 rw[a];exact b
def AH {l:Wf} {k i:Nat} {v:Int} (a:k<l.length):dg (l.set k v) i=if i=k then v.toNat else dg l i:=by
 unfold dg;rw[qE,xU];by_cases h:k=i
 . subst h;rw[qK rfl,qK a,qK rfl];rfl
 rw[qG h,qG (λe=>h e.symm),qE]
def LU (n i:Nat):dg (List.replicate n 0) i=0:=by
 unfold dg;rw[qE,uW];split<;>rfl
def TK {l:Wf} {i:Nat} (h:∀j,i<=j->dg l j=0):nv (l.take i)=nv l:=by
 have b:∀k,nv (l.take (i+k))=nv (l.take i):=by
  intro k
  induction k with
  |zero=>rfl
  |succ k a=>rw[<-uM,J9,a,h (i+k) ω,wV,tD]
 rw[<-b l.length,qU ω]
def iT {P A B o c a b s d:Nat} (h:o+P*c=A+B) (f:s+4294967296*d=c+a+b):(o+P*s)+(P*4294967296)*d=(A+P*a)+(B+P*b):=by
 have:=sA (P* ·) f;simp only[sZ, <-sK]at this;omega
def ZQ {P A B o c a b s d:Nat} (h:A+P*c=o+B) (f:a+4294967296*d=s+b+c):(A+P*a)+(P*4294967296)*d=(o+P*s)+(B+P*b):=by
 have:=sA (P* ·) f;simp only[sZ, <-sK]at this;omega
def B1w {a b:Wf} (c:B4 a) (d:B4 b):nv a+nv b<4294967296^(max a.length b.length+1):=by
 have f:=Hd c;have h:=Hd d;have g:4294967296^a.length<=4294967296^(max a.length b.length):=rY δ (g2x ..);have i:4294967296^b.length<=4294967296^(max a.length b.length):=rY δ (g5k ..);rw[sD];generalize 4294967296^(max a.length b.length)=P at*;omega
def IK {P c x:Nat} (h:P*c<=x) (a:x<P):c=0:=by
 rcases vN c with a|a
 . exact a
 have:=sB P a;omega
def Ko (l:Wf):iv (false,l)=(nv l:Int):=rfl
def YX (l:Wf):iv (true,l)= -(nv l:Int):=rfl
def B6s (b:Bool) (l:Wf):iv (!b,l)= -iv (b,l):=by
 cases b
 . rfl
 show(nv l:Int)= - -(nv l:Int);omega
def Ad (v:Int):(ic v).2.length=(nc v.natAbs).length:=rfl
def A5i:ic 1=(false,[1]):=by unfold ic;rw[show(1:Int).natAbs=1 from rfl,Vu];rfl
def lR:ic 0=(false,[]):=by unfold ic;rw[show(0:Int).natAbs=0 from rfl,R5];rfl
def A9l:rc 0=((false,[]),[1]):=by
 unfold rc;rw[Rat.zero_num,Rat.zero_den,lR,Vu]
def pQ {a:Li} {b:Li} (h:iv b=1):Ll a b=((iv a:Int):Rat):=by
 unfold Ll;rw[h];have:=g0o (iv a) 1;rw[show((1:Nat):Int)=1 from rfl]at this;rw[this];exact Rat.mkRat_one _
def B0z {a:Li} {b:Li} (h:iv b=0):Ll a b=0:=by
 unfold Ll;rw[h,Rat.divInt_zero]
def C2s (x:C6):Ll x.1 (false,x.2)=rv x:=by
 unfold Ll rv;rw[Ko,g0o]
structure dO (U V v1 v2 t u2 P:Nat):Prop where
 pos:0<P
 v1p:0<v1
 v1b:v1<4294967296
 v2b:v2<4294967296
 u2b:u2<4294967296
 vlo:(v1*4294967296+v2)*P<=V
 vhi:V<(v1*4294967296+v2+1)*P
 ulo:(t*4294967296+u2)*P<=U
 uhi:U<(t*4294967296+u2+1)*P
 lt:U<V*4294967296
variable {U V v1 v2 t u2 P:Nat}
def dO.vpos (h:dO U V v1 v2 t u2 P):0<V:=by
 have a:=h.vlo;have a:0<(v1*4294967296+v2)*P:=g3u (by have:=h.v1p;omega) h.pos;omega
def dO.quo (h:dO U V v1 v2 t u2 P):U/V<4294967296:=by
 rw[uA h.vpos,sH];exact h.lt
def A8p {a b c P Q:Nat} (f:0<P) (h:a*P<=Q) (g:Q<(b+1)*P) (d:c<=a):c<=b:=by
 have f:c*P<=a*P:=rG _ d;have d:c*P<(b+1)*P:=ω
 have:=xO d;omega
def dO.top (h:dO U V v1 v2 t u2 P):t*4294967296+u2<(v1*4294967296+v2+1)*4294967296:=by
 have a:=h.ulo;have a:=h.lt;have a:=rG 4294967296 (vV h.vhi);have a:(t*4294967296+u2)*P<((v1*4294967296+v2+1)*4294967296)*P:=by
  have b:V*4294967296<(v1*4294967296+v2+1)*P*4294967296:=xH h.vhi δ;rw[zX];omega
 exact xO a
def dO.t_le (h:dO U V v1 v2 t u2 P):t<=v1*4294967296+v2:=by
 have:=h.top;omega
def dO.est (h:dO U V v1 v2 t u2 P):U/V*v1<=t:=by
 have a:U/V*V<=U:=zI U V;have b:U/V*(v1*4294967296+v2)*P<=U:=by
  rw[sK];exact qY (sB _ h.vlo) a
 have a:U/V*(v1*4294967296+v2)<=t*4294967296+u2:=A8p h.pos b h.uhi (qT _);rw[sZ, <-sK]at a;have:=h.u2b;omega
def dO.dec (h:dO U V v1 v2 t u2 P) {d r:Nat} (f:t=d*v1+r) (a:U/V<=d) (b:4294967296<=d\/r*4294967296+u2<d*v2):U/V+1<=d:=by
 rcases sI (U/V) d with a|a
 . omega
 exfalso;have c:U/V=d:=ω
 rcases b with b|b
 . have:=h.quo;omega
 have a:d*V<=U:=by rw[<-c];exact zI U V
 have b:d*(v1*4294967296+v2)*P<=U:=by
  rw[sK];exact qY (sB _ h.vlo) a
 have a:d*(v1*4294967296+v2)<=t*4294967296+u2:=A8p h.pos b h.uhi (qT _);rw[sZ, <-sK,f,vA]at a;omega
def dO.near (h:dO U V v1 v2 t u2 P) {d r:Nat} (c:t=d*v1+r) (g:d<4294967296) (a:d*v2<=r*4294967296+u2):d<=U/V+1:=by
 have a:=h.ulo;have b:d*(v1*4294967296+v2)<=t*4294967296+u2:=by
  rw[c,vA,sZ, <-sK];omega
 have c:d*(v1*4294967296+v2)*P<=U:=qY (rG _ b) a;have a:d*V<=d*((v1*4294967296+v2+1)*P):=sB _ (vV h.vhi);have b:d*((v1*4294967296+v2+1)*P)=d*(v1*4294967296+v2)*P+d*P:=by
  rw[<-sK,sZ d,wF,vA]
 have f:d*P<V:=by
  have i:d*P<4294967296*P:=xH g h.pos;have g:4294967296*P<=(v1*4294967296+v2)*P:=rG _ (by have:=h.v1p;omega);have:=h.vlo;omega
 have g:d*V<U+V:=xN (qY a (g5b b)) (Nat.add_lt_add_of_le_of_lt c f);rcases vN d with a|a
 . rw[a];exact rQ _
 have a:(d-1)*V<U:=by
  have:d*V=(d-1)*V+V:=by
   conv=>lhs;rw[(ω:d=d-1+1),vA,xI]
  omega
 have:=(vO h.vpos).2 (vV a);omega
def dO.out (h:dO U V v1 v2 t u2 P) {d r:Nat} (c:t=d*v1+r) (b:4294967296<=r) (a:U/V<=d):d<4294967296/\d*v2<=r*4294967296+u2:=by
 have a:=h.t_le;have a:=h.v2b;have b:d<4294967296:=by
  rcases sI d 4294967296 with a|a
  . exact a
  have:=rG v1 a;rw[sH 4294967296]at this;omega
 refine⟨b,?_⟩;have a:d*v2<=4294967295*4294967295:=vB ω ω;omega
def ED:M8 0=0:=rfl
def kP (n:Nat):n<2^M8 n:=by
 unfold M8;split
 . rename_i h;subst h;decide
 exact Nat.lt_log2_self
def EC {n:Nat} (h:n≠0):2^(M8 n-1)<=n/\1<=M8 n:=by
 unfold M8;rw[qG h,Nat.add_sub_cancel];exact⟨Nat.log2_self_le h,ω⟩
def C0j {n k:Nat} (a:2^k<=n) (b:n<2^(k+1)):M8 n=k+1:=by
 have c:0<2^k:=tY δ;unfold M8;rw[qG ω];congr 1;exact(Nat.log2_eq_iff ω).2 ⟨a,b⟩
def LO {n k:Nat} (h:2^k<=n):M8 n=M8 (n/2^k)+k:=by
 have a:0<2^k:=tY δ;have c:n/2^k≠0:=by
  have:1<=n/2^k:=(vO a).2 ω;omega
 obtain⟨b,d⟩:=EC c;have c:=kP (n/2^k);have e:M8 (n/2^k)+k=(M8 (n/2^k)-1+k)+1:=ω
 rw[e];apply C0j
 . rw[uN];have:=(vO a).1 b;exact this
 rw[(ω:M8 (n/2^k)-1+k+1=M8 (n/2^k)+k),uN];exact(uA a).1 c
def Lk (p q:Rat):Int:=if p<q then -1 else if q<p then 1 else 0
def XZ {a b:Int} {c d:Nat} (f:c≠0) (g:d≠0):Lk (mkRat a c) (mkRat b d)=N4 (a*d) (b*c):=by
 have h:∀ {a b:Int} {c d:Nat},c≠0->d≠0->(mkRat a c<mkRat b d↔a*d<b*c):=λ{a b c d} f g=>by
  have i:(0:Rat)<(c:Rat):=Rat.natCast_pos.2 (tH f);have j:(0:Rat)<(d:Rat):=Rat.natCast_pos.2 (tH g);rw[zB,zB,Rat.div_lt_iff i,tS,tU,wW _ (c:Rat), <-tU, <-tS,Rat.lt_div_iff j];have:(a:Rat)*(d:Rat)=((a*(d:Int):Int):Rat):=by rw[zS];rfl
  have i:(b:Rat)*(c:Rat)=((b*(c:Int):Int):Rat):=by rw[zS];rfl
  rw[this,i,Rat.intCast_lt_intCast]
 unfold Lk N4;simp only[h f g,h g f]
def B0p {p q:Rat} (h:p.num.sign≠q.num.sign):Lk p q=N4 p.num.sign q.num.sign:=by
 have l:=g3w p;have n:=g3w q;have e:Lk p q=N4 (p.num*q.den) (q.num*p.den):=by
  have:=XZ (a:=p.num) (b:=q.num) p.den_nz q.den_nz;rwa[g1o,g1o]at this
 rw[e];have j:(p.num*(q.den:Int)).sign=p.num.sign:=by rw[g4y,uK (ω:(0:Int)<q.den),Int.mul_one]
 have k:(q.num*(p.den:Int)).sign=q.num.sign:=by rw[g4y,uK (ω:(0:Int)<p.den),Int.mul_one]
 rw[<-j, <-k]at h|-;generalize p.num*(q.den:Int)=x at*;generalize q.num*(p.den:Int)=y at*;have i:∀z:Int,(z<0/\z.sign= -1)\/(z=0/\z.sign=0)\/(0<z/\z.sign=1):=λz=>by
  rcases g0b z 0 with h|h|h
  . exact .inl ⟨h,wJ h⟩
  . exact .inr (.inl ⟨h,by rw[h];rfl⟩)
  exact .inr (.inr ⟨h,uK h⟩)
 unfold N4;rcases i x with⟨f,c⟩ | ⟨f,c⟩ | ⟨f,c⟩<;>rcases i y with⟨g,d⟩ | ⟨g,d⟩ | ⟨g,d⟩<;>rw[c,d]at h|- <;>first|exact absurd rfl h| (split<;>(try split)<;>(try split)<;>(try split)<;>omega)
end Go.Proofs.YtcbjamefalhfgaaGreat
