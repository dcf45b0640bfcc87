/- Part. -/
import Derived.Test.YtknoakmaeleclaaGreatKWC
set_option linter.all false
namespace Go.Vc
open Go Go.RowKit Go.Gw
open Go.IntKind (i64 u64 u32)
def C3.trans {a b c:St} (h:C3 a b) (k:C3 b c):C3 a c:=by
 refine⟨qY h.ct k.ct,λs d g=>?_,λq d g=>?_,?_⟩
 . have e:=k.s s d (qY g h.ct);rw[e]at d g|-;exact h.s s d g
 . have e:=k.l q d (qY g h.ct);rw[e]at d g|-;exact h.l q d g
 . exact h.f.trans h.ct k.f
def C3.setS (b:St) (d:Nat) (x:DV):C3 b (b.setS d x):=by
 refine⟨uH _,λs c a=>?_,λ_ _ _=>rfl,Bj.refl _ _⟩;rw[St.eS_setS]at c a|-;split at a
 . simp only at a;omega
 . rename_i g;rw[qG g];cases f:GY d (b.S s)with
   |true=>simp only[f,qX]at a;omega
   |false=>rfl
def C3.setL (b:St) (k:Nat) (x:LC):C3 b (b.setL k x):=by
 refine⟨uH _,λ_ _ _=>rfl,λq c a=>?_,Bj.refl _ _⟩;rw[St.eL_setL]at c a|-;split at a
 . simp only at a;omega
 . rename_i d;rw[qG d]
def C3.newL (b:St) (x:LC):C3 b (b.newL x):=by
 refine⟨uH _,λ_ _ _=>rfl,λq c a=>?_,Bj.refl _ _⟩;rw[St.eL_newL]at c a|-;split at a
 . simp only at a;omega
 . rename_i d;rw[qG d]
def P5.mapV (n:Nat) (p:DV->Bool) (f:DV->DV):∀l,P5 n l (Vc.mapV p f (n+1) l)
 | []=>trivial
 | (s,x)::l=>by
  refine⟨rfl,λh=>?_,P5.mapV n p f l⟩;cases a:p x.2 with
  |true=>simp only[a,qX]at h;omega
  |false=>rfl
def Bj.mapV (n:Nat) (p:DV->Bool) (f:DV->DV):∀l,Bj n l (l.map (Vc.mapV p f (n+1)))
 | []=>trivial
 |x::l=>⟨P5.mapV n p f x,Bj.mapV n p f l⟩
def C3.freeze (b:St) (k:Nat) (c:C):C3 b (b.freeze k c):=by
 refine⟨uH _,λs f a=>?_,λq f a=>?_,Bj.mapV _ _ _ _⟩
 . rw[St.eS_freeze]at f a|-;cases d:AB k (b.S s)with
   |true=>simp only[d,qX]at a;omega
   |false=>rfl
 . rw[St.eL_freeze]at f a|-;cases d:iO k (if q=k then(b.ct+1,LC.none)else b.eL q).2 with
   |true=>simp only[d,qX]at a;omega
   |false=>
    simp only[d,rK]at a|-;split at a
    . simp only at a;omega
    . rename_i g;rw[qG g]
def C3.settle (a:St) (cs:List C):C3 a (settle a cs):=by
 induction cs generalizing a with
 |nil=>exact C3.refl _
 |cons c cs b=>
  cases c with
  |row k=>
   simp only[Vc.settle];cases g:a.L k with
   |row t e l=>
    cases Nat.ble a.nm k with
    |true=>exact(C3.freeze a k _).trans (b _)
    |false=>exact b a
   |rows t e f h al d=>
    cases d with
    |some _=>exact b a
    |none=>
     cases Nat.ble a.nm k with
     |true=>exact(C3.freeze a k _).trans (b _)
     |false=>exact b a
   | _=>exact b a
  |win k _ _ _=>
   simp only[Vc.settle];cases d:a.L k with
   |row t e l=>
    cases Nat.ble a.nm k with
    |true=>exact(C3.freeze a k _).trans (b _)
    |false=>exact b a
   | _=>exact b a
  |mp k=>
   simp only[Vc.settle];cases d:a.L k with
   |map _ _ _ _ _=>
    cases Nat.ble a.nm k with
    |true=>exact(C3.freeze a k _).trans (b _)
    |false=>exact b a
   | _=>exact b a
  | _=>exact b a
def C3.settleO (a:St) (x:Operand):C3 a (settleO a x):=by
 unfold Vc.settleO;split
 . exact C3.settle _ _
 . exact C3.refl _
def C3.settleP (a:St) (b:List (Nat×Operand)):C3 a (settleP a b):=by
 induction b generalizing a with
 |nil=>exact C3.refl _
 |cons x b c=>exact(C3.settleO a x.2).trans (c _)
def C3.thawS (a:St) (s:SV):C3 a (thawS a s):=by
 unfold Vc.thawS;split
 . unfold thaw;split
   . cases Nat.ble a.nm _ with
     |true=>exact(C3.setL a _ _).trans (C3.setL _ _ _)
     |false=>exact C3.refl a
   . exact C3.refl a
 . exact C3.refl a
def C3.stillB (cx:Cx) (a:St) (k:Nat):C3 a (stillB cx a k):=by
 unfold Vc.stillB;split
 . rename_i T b _;cases Nat.ble a.nm k with
   |false=>exact C3.refl _
   |true=>
    simp only[qX];split
    . split
      . split
        . exact((C3.settle a b).trans (C3.setL _ _ _)).trans (C3.setL _ _ _)
        . exact C3.refl _
      . exact C3.refl _
    . exact C3.refl _
 . exact C3.refl _
def C3.stillL (cx:Cx):∀(b:List Nat) (a:St),C3 a (b.foldl (Vc.stillB cx) a)
 | [],a=>C3.refl a
 |k::b,a=>(C3.stillB cx a k).trans (C3.stillL cx b _)
def C3.stillF (cx:Cx):∀(a:St) (as:List AM) (ss:List SV),C3 a (stillF cx a as ss)
 |a,[],_=>C3.refl a
 |a,_:: _,[]=>C3.refl a
 |a,b::as,s::ss=>by
  simp only[Vc.stillF];split
  . exact(C3.stillL cx _ a).trans (C3.stillF cx _ as ss)
  . exact C3.stillF cx a as ss
def C3.settleA:∀(as:List AM) (ss:List SV) (a:St),C3 a (settleA a as ss)
 | [],_,a=>C3.refl a
 | .val _ _::as,s::ss,a=>(C3.settle a s.cs).trans (C3.settleA as ss _)
 | .row _ _::as,s::ss,a=>(C3.thawS a s).trans (C3.settleA as ss _)
 | .rows _ _ _::as,_::ss,a=>C3.settleA as ss a
 | .rows _ _ _:: _,[],a=>C3.refl a
 | .box _ _::as,_::ss,a=>C3.settleA as ss a
 | .fn _ _ _::as,_::ss,a=>C3.settleA as ss a
 | .val _ _:: _,[],a=>C3.refl a
 | .row _ _:: _,[],a=>C3.refl a
 | .box _ _:: _,[],a=>C3.refl a
 | .fn _ _ _:: _,[],a=>C3.refl a
def C3.dropM:∀(b:List Nat) (a:St),C3 a (dropM a b)
 | [],a=>C3.refl a
 |k::b,a=>(C3.setL a k _).trans (C3.dropM b _)
def C3.addM:∀(as:List AM) (o:Pb as) (b:List Nat) (a:St),C3 a (addM as o b a)
 | [],_,b,a=>by cases b<;>exact C3.refl a
 | .row t e::as,o,[],a=>C3.refl a
 | .box t e::as,o,[],a=>C3.refl a
 | .row t e::as,o,k::b,a=>(C3.setL a k _).trans (C3.addM as o.2 b _)
 | .box t e::as,o,k::b,a=>(C3.setL a k _).trans (C3.addM as o.2 b _)
 | .val _ _::as,o,b,a=>C3.addM as o b a
 | .fn _ _ _::as,o,b,a=>C3.addM as o b a
 | .rows _ _ _::as,o,[],a=>C3.refl a
 | .rows _ _ _::as,o,k::b,a=>(C3.setL a k _).trans (C3.addM as o.2 b _)
def C3.place:∀(rs:List RT) (r:Cf rs) (a:St),C3 a (G1 rs r a).2
 | [],_,a=>C3.refl a
 | .val _ _::rs,r,a=>C3.place rs r.2 a
 | .own t e::rs,r,a=>(C3.newL a (.row t e r.1)).trans (C3.place rs r.2 _)
 | .obox T t::rs,r,a=>(C3.newL a (.box T (explode t r.1))).trans (C3.place rs r.2 _)
 | .rows t e b::rs,r,a=>(C3.newL a (.rows t e b r.1 [] none)).trans (C3.place rs r.2 _)
def C3.boxS (a:St) (d:Tmp) (T:TypeId) (cs:List C):C3 a (boxS a d T cs):=(C3.newL _ _).trans (C3.setS _ _ _)
def C3.rowS (a:St) (d:Tmp) (t:Ty) (e:TypeId) (l:List t.den):C3 a (rowS a d t e l):=(C3.newL _ _).trans (C3.setS _ _ _)
def C3.dropR (a:St) (c:C):C3 a (dropR a c):=by
 cases c with
 |row k=>exact C3.setL _ _ _
 | _=>exact C3.refl _
section
variable {cx:Cx} {sp:H7} {all:List Oper} {k k':St->Prop} {st:St}
def C3.detO (st:St) (x:Operand):C3 st (detO st x):=by
 have c:∀(b:Bool) (a:St),C3 st a->C3 st (bif b then a else st):=by
  intro b a h;cases b
  . exact C3.refl _
  . exact h
 unfold Vc.detO;split
 . unfold C3n;split
   . split
     . split
       . split
         . exact c _ _ ((C3.setL _ _ _).trans (C3.setL _ _ _))
         . exact C3.refl _
       . exact C3.refl _
     . exact C3.refl _
   . exact C3.refl _
 . exact C3.refl _
def jC {d:Tmp} {T:TypeId} {x:Operand} {a:St} (h:jB cx st d T x=some a):C3 st a:=by
 simp only[jB,qI,bind_some]at h;obtain⟨ti,_,c,_,h⟩:=h;split at h
 . split at h
   . obtain⟨_,h⟩:=E1 h;cases h;exact((C3.newL _ _).trans (C3.setL _ _ _)).trans (C3.setS _ _ _)
   . cases h
 . cases h
def B2v {d:Tmp} {T:TypeId} {x y:Operand} {a:St} (h:A0x cx st d T x y=some a):C3 st a:=by
 simp only[A0x,qI,bind_some]at h;obtain⟨ti,_,t,_,b,_,c,_,f,_,h⟩:=h;cases b with
 |row k=>
  simp only at h;split at h
  . split at h
    . obtain⟨_,h⟩:=E1 h;cases h;exact(C3.setL _ _ _).trans (C3.setS _ _ _)
    . cases h
  . cases h
 | _=>simp at h
def B7r {d:Tmp} {op:Op} {φ:Option Prop} {f:St} (h:B7q cx st d op=some (φ,f)):C3 st f:=by
 unfold B7q at h;split at h
 . simp only[qI,bind_some]at h;obtain⟨s,_,h⟩:=h;obtain⟨_,h⟩:=E1 h;cases h;exact C3.boxS _ _ _ _
 . simp only[qI,bind_some]at h;obtain⟨s,_,h⟩:=h;cases h;exact C3.boxS _ _ _ _
 . simp only[qI,bind_some]at h;obtain⟨ti,_,t,_,n,_,o,_,h⟩:=h;obtain⟨_,h⟩:=E1 h;cases h;exact(C3.settleP _ _).trans (C3.rowS _ _ _ _ _)
 . simp only[qI,bind_some]at h;obtain⟨ti,_,t,_,l,_,k,_,h⟩:=h;cases c:ti.rows with
   |true=>
    simp only[c,qX,qP]at h;obtain⟨g,a,h⟩:=h;cases h;unfold aH at a;split at a
    . simp only[qP]at a;obtain⟨_,_,a⟩:=a;subst a;exact(C3.newL _ _).trans (C3.setS _ _ _)
    . cases a
   |false=>
    simp only[c,rK]at h;obtain⟨_,h⟩:=E1 h;cases h;exact C3.rowS _ _ _ _ _
 . split at h
   . obtain⟨_,h⟩:=E1 h;simp only[C7o,qI,bind_some]at h;obtain⟨ti,_,t,_,i,_,j,_,l,_,r,_,h⟩:=h;obtain⟨_,h⟩:=E1 h;cases h;exact(C3.detO _ _).trans ((C3.dropR _ _).trans (C3.rowS _ _ _ _ _))
   . cases h
 . simp only[qI,bind_some]at h;obtain⟨ti,_,h⟩:=h;split at h
   . cases h;exact(C3.newL _ _).trans (C3.setS _ _ _)
   . simp only[qP]at h;obtain⟨_,_,h⟩:=h;cases h;exact(C3.newL _ _).trans (C3.setS _ _ _)
   . cases h
 . split at h
   . simp only[qI,bind_some]at h;obtain⟨ti,_,h⟩:=h;split at h
     . simp only[bind_some]at h;obtain⟨_,_,_,_,h⟩:=h;cases h;exact C3.setS _ _ _
     . cases h
   . cases h
 . simp only[qP]at h;obtain⟨g,b,h⟩:=h;cases h;exact jC b
 . simp only[qI,bind_some]at h;obtain⟨ti,_,h⟩:=h;split at h
   . simp only[bind_some]at h;obtain⟨_,_,_,_,h⟩:=h;cases h;exact(C3.settleO _ _).trans ((C3.newL _ _).trans (C3.setS _ _ _))
   . cases h
 . simp only[qI,bind_some]at h;obtain⟨_,_,h⟩:=h;split at h
   . split at h
     . obtain⟨_,h⟩:=E1 h;cases h;exact C3.setS _ _ _
     . cases h
   . cases h
 . split at h
   . simp only[qP]at h;obtain⟨g,b,h⟩:=h;cases h;exact B2v b
   . cases h
 . cases h
def A6e {T:TypeId} {x:Operand} {a:St} (h:YT cx st T x=some a):C3 st a:=by unfold YT at h;cases h
def aJ {T:TypeId} {m x y:Operand} {a:St} (h:QK cx st T m x y=some a):C3 st a:=by
 simp only[QK,qI,bind_some]at h;obtain⟨ti,_,c,_,b,_,d,_,h⟩:=h;split at h
 . simp only[bind_some]at h;obtain⟨_,_,_,_,_,_,h⟩:=h;cases h;exact(C3.settleO _ _).trans (C3.setL _ _ _)
 . cases h
def A8l {ti:TI} {s:SV} {k sz i off:Nat} {a:St} (h:oW ti st s k sz i off=some a):C3 st a:=by
 unfold oW at h;split at h
 . obtain⟨_,h⟩:=E1 h;split at h
   . cases h;exact C3.setL _ _ _
   . cases h
 . split at h
   . split at h
     . obtain⟨_,h⟩:=E1 h;split at h
       . cases h;exact C3.setL _ _ _
       . cases h
     . cases h
   . cases h
 . cases h
def A8m {T:TypeId} {p v:Operand} {φ:Option Prop} {a:St} (h:cE cx st T p v=some (φ,a)):C3 st a:=by
 simp only[cE,qI,bind_some]at h;obtain⟨ti,_,c,_,h⟩:=h;split at h
 . simp only[bind_some]at h;obtain⟨s,_,h⟩:=h;split at h
   . obtain⟨_,h⟩:=E1 h;cases h;exact C3.setL _ _ _
   . cases h
 . split at h
   . split at h
     . obtain⟨_,h⟩:=E1 h;unfold Vc.attach at h;split at h
       . split at h
         . obtain⟨_,h⟩:=E1 h;cases h;exact(((C3.setL _ _ _).trans (C3.setL _ _ _)).trans (C3.setL _ _ _)).trans (C3.setL _ _ _)
         . cases h
       . cases h
     . cases h
   . simp only[bind_some,qP]at h;obtain⟨s,_,d,b,h⟩:=h;cases h;exact(C3.settleO _ _).trans (A8l b)
 . cases h
def Aa {sh:Bool} {mu:List Nat} :∀ {as:List AM} {ss:List SV} {k k':A2 as->Prop},N3 cx sp st mu sh as ss k->(∀x,k x->k' x)->N3 cx sp st mu sh as ss k'
 | [],[],_,_,h,b=>b _ h
 | [],_:: _,_,_,h,_=>h.elim
 |a::r,[],_,_,h,_=>by cases a<;>exact h.elim
 | .val a t::r,s::ss,_,_,h,b=>by
  simp only[N3]at h|-;split at h
  . exact Aa h λy=>b _
  . exact h.elim
 | .row t d::r,s::ss,_,_,h,c=>by
  simp only[N3]at h|-;split at h
  . split at h
    . obtain⟨b,h⟩:=B9 h;simp only[b,qX];exact Aa h λy=>c _
    . exact h.elim
  . exact h.elim
 | .box t d::r,s::ss,_,_,h,c=>by
  simp only[N3]at h|-;split at h
  . split at h
    . obtain⟨b,h⟩:=B9 h;simp only[b,qX];exact Aa h λy=>c _
    . exact h.elim
  . exact h.elim
 | .rows t d f::r,s::ss,_,_,h,c=>by
  simp only[N3]at h|-;split at h
  . split at h
    . obtain⟨b,h⟩:=B9 h;simp only[b,qX];exact Aa h λy=>c _
    . exact h.elim
  . exact h.elim
 | .fn j n l::r,s::ss,_,_,h,b=>by
  simp only[N3]at h|-;split at h
  . split at h
    . obtain⟨c,h⟩:=B9 h;simp only[c,qX];obtain⟨g,i,f,h⟩:=h;exact⟨g,i,f,Aa h λy=>b _⟩
    . exact h.elim
  . split at h
    . rename_i d;rw[dif_pos d];exact⟨h.1,h.2.1,Aa h.2.2 λy=>b _⟩
    . exact h.elim
  . exact h.elim
def TB {d:Tmp} {s:A6} {ss:List SV} (h:IE cx sp st d s ss k) (g:∀f,C3 st f->k f->k' f):IE cx sp st d s ss k':=by
 unfold IE at h|-;split at h
 . obtain⟨i,h⟩:=B9 h;simp only[i,qX];cases j:Q6 s.args<;>simp only[j,rK,qX]at h|-
   . exact Aa h λx a=>⟨a.1,λr c b=>g _ ((C3.place _ _ _).trans (C3.setS _ _ _)) (a.2 r c b)⟩
   . exact Aa h λx a=>⟨a.1,λr o c l b n=>g _ ((C3.dropM _ _).trans ((C3.place _ _ _).trans ((C3.addM _ _ _ _).trans (C3.setS _ _ _)))) (a.2 r o c l b n)⟩
 . exact h
def mA {d:Tmp} {f:Operand} {args:List Operand} (h:DU cx sp st d f args k) (b:∀a,C3 st a->k a->k' a):DU cx sp st d f args k':=by
 unfold DU at h|-;split at h
 . split at h
   . split at h
     . exact⟨h.1,h.2.1,λn=>b _ (C3.setS _ _ _) (h.2.2 n)⟩
     . exact h
   . exact h
 . split at h
   . split at h
     . obtain⟨g,h⟩:=B9 h;simp only[g,qX];rename_i s _ _;cases c:s.inl with
       |some o=>
        simp only[c]at h|-;exact o.step h λa r ev j=>b _ (ev.trans (C3.setS _ _ _)) j
       |none=>
       simp only[c]at h|-;cases l:s.shared<;>simp only[l,rK,qX]at h|-
       . exact TB h b
       . split at h
         . obtain⟨i,h⟩:=B9 h;simp only[i,qX];exact TB h λa ev=>b a (((C3.stillF _ _ _ _).trans (C3.settleA _ _ _)).trans ev)
         . exact h
     . exact h
   . exact h
def fD {ctx:Jx} {t:Tmp} {b:Bool} {d:Tmp} {f:Operand} {args:List Operand} (h:Sc cx sp st ctx t b d f args k) (a:∀l,C3 st l->k l->k' l):Sc cx sp st ctx t b d f args k':=by
 unfold Sc at h|-;split at h
 . split at h
   . split at h
     . exact⟨h.1,h.2.1,λx=>a _ (C3.setS _ _ _) (h.2.2 x)⟩
     . exact h
   . exact h
 split at h
 . split at h
   . split at h
     . split at h
       . obtain⟨g,h⟩:=B9 h;simp only[g,qX];exact a _ (C3.setS _ _ _) h
       . exact h
     obtain⟨g,h⟩:=B9 h;simp only[g,qX];rename_i z _ _ _ _;cases s:Q6 z.args<;>simp only[s,rK,qX]at h|-
     case true=>
      obtain⟨o,h⟩:=B9 h;simp only[o,qX];unfold lZ at h|-;split at h
      . obtain⟨n,h⟩:=B9 h;simp only[n,qX];refine Aa h λA j=>⟨λc=>⟨(j.1 c).1,λr y i u v w=>?_⟩,λc=>?_⟩
        . have:=(j.1 c).2 r y i u v w;split at this
          . exact a _ ((C3.dropM _ _).trans ((C3.place _ _ _).trans ((C3.addM _ _ _ _).trans (C3.setS _ _ _)))) this
          . exact this
        . have:=j.2 c;split at this
          . exact a _ (C3.setS _ _ _) this
          . exact this
      . exact h
     refine Aa h λA h=>⟨h.1,λr i=>?_⟩
     have:=h.2 r i;split at this
     . exact a _ (C3.setS _ _ _) this
     . exact this
   . exact h
 . exact h
def A7f {d:Tmp} {T:TypeId} {m x:Operand} {a:St} (h:aI cx st d T m x=some a):C3 st a:=by unfold aI at h;cases h
def A6j {m s y:Operand} {a:St} (h:ZI st m s y=some a):C3 st a:=by unfold ZI at h;cases h
def O5 {α:Type} {c:Bool} {a:Option α} {x:α} (h:(bif c then a else none)=some x):a=some x:=by
 cases c with
 |true=>exact h
 |false=>cases h
def C3.giveS (st:St) (k:Nat):C3 st (giveS st k):=by
 unfold Vc.giveS;split
 . split
   . cases Nat.ble st.nm k&&Nat.ble st.nm _ && !(Nat.beq _ k)with
     |true=>exact(C3.setL _ _ _).trans (C3.setL _ _ _)
     |false=>exact C3.refl _
   . exact C3.setL _ _ _
 . exact C3.refl _
def B5e {φ:Option Prop} {b:St} {d:Tmp} {p i:Nat} (a:kI st d p i=some (φ,b)):C3 st b:=by
 unfold kI at a;split at a
 . have a:=O5 a;cases a;exact(((C3.setL _ _ _).trans (C3.newL _ _)).trans (C3.setL _ _ _)).trans (C3.setS _ _ _)
 . cases a
def B4i {φ:Option Prop} {b:St} {p r i:Nat} (a:bS st p r i=some (φ,b)):C3 st b:=by
 unfold bS at a;split at a
 . split at a
   . have a:=O5 a;split at a
     . cases a;exact((C3.setL _ _ _).trans (C3.setL _ _ _)).trans (C3.setL _ _ _)
     . cases a;exact((C3.setL _ _ _).trans (C3.setL _ _ _)).trans (C3.setL _ _ _)
     . cases a
   . cases a
 . cases a
def A2x {φ:Option Prop} {b:St} {op:Op} {f:Option Tmp} (a:Ps cx st f op=some (φ,b)):C3 st b:=by
 unfold Ps at a;split at a
 . simp only[qI,bind_some]at a;obtain⟨d,_,ti,_,a⟩:=a;have a:=O5 a;simp only[bind_some]at a;obtain⟨t,_,n,_,l,_,c,_,a⟩:=a;have a:=O5 a;cases a;exact(C3.newL _ _).trans (C3.setS _ _ _)
 . simp only[qI,bind_some]at a;obtain⟨d,_,ti,_,c,_,a⟩:=a;split at a
   . have a:=O5 a;exact(C3.giveS _ _).trans (B5e a)
   . cases a
 . split at a
   . simp only[qI,bind_some]at a;obtain⟨ti,_,c,_,r,_,a⟩:=a;split at a
     . have a:=O5 a;exact B4i a
     . cases a
   . cases a
 . simp only[qI,bind_some]at a;obtain⟨d,_,ti,_,c,_,a⟩:=a;split at a
   . simp only[bind_some]at a;obtain⟨g,_,a⟩:=a;have a:=O5 a;cases a;exact((C3.setL _ _ _).trans (C3.newL _ _)).trans (C3.setS _ _ _)
   . cases a
 . simp only[qI,bind_some]at a;obtain⟨d,_,c,_,a⟩:=a;split at a
   . split at a
     . have a:=O5 a;cases a;exact C3.setS _ _ _
     . cases a
   . cases a
 . split at a
   . simp only[qI,bind_some]at a;obtain⟨ti,_,c,_,k,_,a⟩:=a;split at a
     . simp only[bind_some]at a;obtain⟨g,_,j,_,a⟩:=a;cases a;exact C3.setL _ _ _
     . cases a
   . cases a
 . split at a
   . simp only[qI,bind_some]at a;obtain⟨ti,_,t,_,h,_,i,_,o,_,a⟩:=a;split at a
     . simp only[bind_some]at a;obtain⟨l,_,a⟩:=a;have a:=O5 a;cases a;exact((C3.setL _ _ _).trans (C3.newL _ _)).trans (C3.setS _ _ _)
     . cases a
   . cases a
 . cases a
def B3y {φ:Option Prop} {b:St} {q r i:Nat} (a:aN st q r i=some (φ,b)):C3 st b:=by
 unfold aN at a;split at a
 . split at a
   . split at a
     . have a:=O5 a;cases a;exact((C3.setL _ _ _).trans (C3.setL _ _ _)).trans (C3.setL _ _ _)
     . cases a
   . cases a
 . cases a
def A8e {φ:Option Prop} {b:St} {op:Op} {d:Option Tmp} (a:AZ cx st d op=some (φ,b)):C3 st b:=by
 unfold AZ at a;split at a
 . split at a
   . simp only[qI,bind_some]at a;obtain⟨ti,_,a⟩:=a;have a:=O5 a;simp only[bind_some]at a;obtain⟨t,_,f,_,c,_,a⟩:=a;split at a
     . simp only[bind_some]at a;obtain⟨l,_,a⟩:=a;have a:=O5 a;cases a;exact((C3.setL _ _ _).trans (C3.newL _ _)).trans (C3.setS _ _ _)
     . cases a
   . cases a
 . split at a
   . simp only[qI,bind_some]at a;obtain⟨ti,_,c,_,r,_,a⟩:=a;split at a
     . exact B3y (O5 a)
     . cases a
   . cases a
 . split at a
   . simp only[qI,bind_some]at a;obtain⟨ti,_,a⟩:=a;have a:=O5 a;simp only[bind_some]at a;obtain⟨t,_,f,_,g,_,h,_,i,_,a⟩:=a;split at a
     . simp only[bind_some]at a;obtain⟨j,_,a⟩:=a;have a:=O5 a;cases a;exact(((C3.dropR _ _).trans (C3.setL _ _ _)).trans (C3.newL _ _)).trans (C3.setS _ _ _)
     . cases a
   . cases a
 . cases a
def A7k {φ:Option Prop} {b:St} {op:Op} {c:Option Tmp} (a:IP cx st c op=some (φ,b)):C3 st b:=by
 unfold IP at a;split at a
 . rename_i y d;cases a;exact A2x d
 . exact A8e a
def jA {ctx:Jx} {s d:Tmp} {b:Bool} {T:TypeId} {x:Operand} {c:St} (a:iZ cx st ctx s b d T x=some c):C3 st c:=by
 simp only[iZ,qI,bind_some]at a;obtain⟨ti,_,f,_,a⟩:=a;split at a
 . split at a
   . have a:=O5 a;cases a;exact((C3.newL _ _).trans (C3.setL _ _ _)).trans (C3.setS _ _ _)
   . cases a
 . cases a
def A7l {d:Tmp} {p:Nat} (h:jJ st d p k) (b:∀a,C3 st a->k a->k' a):jJ st d p k':=by
 unfold jJ at h|-;split at h
 . obtain⟨a,h⟩:=gQ h;rw[a];exact⟨λa=>b _ (((C3.setL _ _ _).trans (C3.setL _ _ _)).trans (C3.setS _ _ _)) (h.1 a),λc y f a=>b _ ((C3.setL _ _ _).trans (C3.setS _ _ _)) (h.2 c y f a)⟩
 . exact h
def nP {d:Tmp} {x:Operand} (h:EO st d x k) (b:∀a,C3 st a->k a->k' a):EO st d x k':=by
 unfold EO at h|-;split at h
 . split at h
   . exact A7l h b
   . exact h
 . exact h
def JJ {o:Oper} (h:HF cx sp all o k st) (a:∀d,C3 st d->k d->k' d):HF cx sp all o k' st:=by
 obtain⟨t,w,y,x,r,u⟩:=o;unfold HF at h|-;simp only at h|-;split at h
 . split at h
   . split at h
     . exact E9.2 ⟨(E9.1 h).1,a _ (C3.setS _ _ _) (E9.1 h).2⟩
     . exact h
   split at h
   . rename_i b;exact E9.2 ⟨(E9.1 h).1,a _ (A7k b) (E9.1 h).2⟩
   . rename_i j;clear j;split at h
     . split at h
       . split at h
         . rename_i b;exact E9.2 ⟨(E9.1 h).1,a _ (A8m b) (E9.1 h).2⟩
         . exact h
       . exact h
     . split at h
       . split at h
         . rename_i b;exact a _ (aJ b) h
         . exact h
       . exact h
     . split at h
       . split at h
         . rename_i b;exact a _ (aJ b) h
         . exact h
       . exact h
     . split at h
       . exact mA h a
       . exact h
     . split at h
       . rename_i z str v A s;cases str with
         |true=>exact h
         |false=>exact nP h a
       . exact h
     . split at h
       . split at h
         . rename_i b;exact a _ (A7f b) h
         . exact h
       . exact h
     . split at h
       . split at h
         . rename_i b;exact a _ (A6j b) h
         . exact h
       . exact h
     . split at h
       . split at h
         . rename_i b;exact a _ (A6e b) h
         . exact h
       . exact h
     . split at h
       . split at h
         . rename_i f;exact E9.2 ⟨(E9.1 h).1,a _ (B7r f) (E9.1 h).2⟩
         . exact h
       . exact h
 . split at h
   . obtain⟨g,h⟩:=B9 h;simp only[g,qX];split at h
     . obtain⟨n,h⟩:=B9 h;simp only[n,qX];split at h
       . obtain⟨l,h⟩:=B9 h;simp only[l,qX];exact E9.2 ⟨(E9.1 h).1,a _ (C3.setS _ _ _) (E9.1 h).2⟩
       . exact h
       . split at h
         . exact fD h a
         . split at h
           . rename_i c;refine a _ ?_ h;simp only[lV,qI,bind_some]at c;obtain⟨_,_,_,_,_,_,_,_,c⟩:=c;obtain⟨_,c⟩:=E1 c;cases c;exact C3.setS _ _ _
           . exact h
         . split at h
           . rename_i i;exact a _ (jA i) h
           . exact h
         . exact h
     . exact h
   . exact h
def TV:∀ {ops:List Oper} {k k':St->Prop} {st:St},cA cx sp all ops k st->(∀a,C3 st a->k a->k' a)->cA cx sp all ops k' st
 | [],_,_,st,h,a=>a st (C3.refl st) h
 | _:: _,_,_,_,h,f=>JJ h λb a c=>TV c λg b d=>f g (a.trans b) d
end
inductive Xb where
 |val (t:Ty)
 |own (t:Ty) (e:TypeId)
 |ownR (t:Ty) (e e':TypeId)
 |fix (k:Nat)
 |fixB (k:Nat)
def Xb.pin:Xb->Option Nat
 | .fix k=>some k
 | .fixB k=>some k
 | _=>none
@[reducible] def shD:List Xb->Type->Type
 | [],T=>T
 | .val t::r,T=>t.den×shD r T
 | .own t _::r,T=>List t.den×shD r T
 | .ownR t _ _::r,T=>List (List t.den)×shD r T
 | .fix _::r,T=>shD r T
 | .fixB _::r,T=>shD r T
inductive LT where
 |row (t:Ty) (e:TypeId)
 |map (ka:Bool) (kt:Ty) (va:Bool) (vt:Ty)
 |rows (t:Ty) (e e':TypeId)
 |iter (ka:Bool) (kt:Ty) (va:Bool) (vt:Ty)
 |nest (t:Ty) (e e':TypeId)
 |itM (ka:Bool) (kt:Ty) (va:Bool) (vt:Ty) (q:Nat)
@[reducible] def LT.den:LT->Type
 | .row t _=>List t.den
 | .map _ a _ b=>List (a.den×b.den)
 | .rows t _ _=>List (List t.den)
 | .iter _ a _ b=>List (a.den×b.den)
 | .nest t _ _=>List t.den×List Nat
 | .itM _ a _ b _=>List (a.den×b.den)×List (a.den×b.den)
def LT.wf:(l:LT)->l.den->Prop
 | .row t _,x=>(Ty.sl t).wf x
 | .map a b c d,x=>(Ty.mp a b c d).wf x
 | .rows t _ _,x=>(Ty.sl (Ty.sl t)).wf x
 | .iter a b c d,x=>(Ty.mp a b c d).wf x
 | .nest _ _ _,x=>x.1.length<=9223372036854775807
 | .itM a b c d _,x=>(Ty.mp a b c d).wf x.2
def LT.lc:(l:LT)->l.den->LC
 | .row t e,x=> .row t e x
 | .map a b c d,x=> .map a b c d x
 | .rows t e a,x=> .rows t e a x [] none
 | .iter a b c d,x=> .iter a b c d x none
 | .nest t e a,x=> .nest t e a x.1 [] x.2
 | .itM a b c d q,x=> .itM a b c d x.1 x.2 none q
def plugL:List (Nat×LT)->St->St
 | [],a=>a
 | (k, .nest _ _ _)::r,a=>plugL r (giveS a k)
 | (k, .row _ _)::r,a=>plugL r (thaw a k)
 | _::r,a=>plugL r a
def LT.need:LT->Option Nat
 | .itM _ _ _ _ q=>some q
 | _=>none
def A7i (a:St) (t:Ty) (e e':TypeId) (k:Nat):Option (List t.den×List Nat):=match a.L k with
 | .nest f d a c [] b=>if h:f=t then(bif Nat.beq d e&&Nat.beq a e' then some (h▸c,b)else none)else none
 | _=>none
def A7c (a:St) (k:Nat):(l:LT)->Option l.den
 | .row t e=>Xi a t e k
 | .map b c d f=>mapM a b c d f k
 | .rows t e b=>rowsAt a t e b k
 | .iter b d g i=>match a.L k with
  | .iter c f h j n _=>if o:Ty.mp c f h j=Ty.mp b d g i then some (o▸(show(Ty.mp c f h j).den from n):(Ty.mp b d g i).den)else none
  | _=>none
 | .nest t e b=>A7i a t e b k
 | .itM b c f h q=>match a.L k with
  | .itM a d g i j left _ o=>bif Nat.beq q o&&Nat.blt q k then(if n:Ty.mp a d g i=Ty.mp b c f h then some (n▸(show(Ty.mp a d g i).den×(Ty.mp a d g i).den from(j,left)):(Ty.mp b c f h).den×(Ty.mp b c f h).den)else none)else none
  | _=>none
@[reducible] def A3o:List (Nat×LT)->Type
 | []=>Unit
 | (_,t)::r=>t.den×A3o r
structure HR where
 keepS:List Nat
 keepL:List Nat
 modS:List (Nat×Bool×List Xb)
 boxL:List (Nat×TypeId×List Xb)
 rowL:List (Nat×LT)
def D2b:List (Nat×Bool×List Xb)->List Xb->List Xb
 | [],r=>r
 | (_,_,a)::l,r=>a++D2b l r
def D2a:List (Nat×TypeId×List Xb)->List Xb
 | []=> []
 | (_,_,a)::l=>a++D2a l
def HR.shs (A:HR):List Xb:=D2b A.modS (D2a A.boxL)
@[reducible] def HR.den (A:HR):Type:=shD A.shs (A3o A.rowL)
def shW:(shs:List Xb)-> {T:Type} ->(T->Prop)->shD shs T->Prop
 | [],_,q,x=>q x
 | .val t::r,_,q,x=>t.wf x.1/\shW r q x.2
 | .own t _::r,_,q,x=>(Ty.sl t).wf x.1/\shW r q x.2
 | .ownR t _ _::r,_,q,x=>(Ty.sl (Ty.sl t)).wf x.1/\shW r q x.2
 | .fix _::r,_,q,x=>shW r q x
 | .fixB _::r,_,q,x=>shW r q x
def C9r:(l:List (Nat×LT))->A3o l->Prop
 | [],_=>True
 | (_,t)::r,x=>t.wf x.1/\C9r r x.2
def HR.wf (A:HR) (p:A.den):Prop:=shW A.shs (C9r A.rowL) p
def mD (b:St):List (Nat×Bool×List Xb)->List C->Option (List C)
 | [],r=>some r
 | (s,d,shs)::l,r=>match b.S s with
  | .one ⟨c,a⟩=>bif(c==d)&&Nat.beq a.length shs.length then(mD b l r).map (a++ ·)else none
  | _=>none
def mC (b:St):List (Nat×TypeId×List Xb)->Option (List C)
 | []=>some []
 | (k,T,shs)::l=>match b.L k with
  | .box T' a=>bif Nat.beq T' T&&Nat.beq a.length shs.length then(mC b l).map (a++ ·)else none
  | _=>none
def HR.cells (A:HR) (a:St):Option (List C):=(mC a A.boxL).bind (mD a A.modS)
def settleSh:St->List Xb->List C->St
 |b, .val _::r,c::a=>settleSh (settle b [c]) r a
 |b, .own _ _::r,c::a=>settleSh (thawS b ⟨false,[c]⟩) r a
 |b, .ownR _ _ _::r,_::a=>settleSh b r a
 |b, .fix _::r,_::a=>settleSh b r a
 |b, .fixB _::r,_::a=>settleSh b r a
 |a,_,_=>a
def D1s (k:Nat):C->Bool
 | .row j=>Nat.beq j k
 | _=>false
def D1q (k:Nat):C->Bool
 | .box j 0=>Nat.beq j k
 | _=>false
def Ag (a:St):(shs:List Xb)-> {T:Type} ->T->List C->Option (shD shs T)
 | [],_,x,[]=>some x
 | .val t::r,_,x,c::b=>(YP t c).bind λy=>(Ag a r x b).map λz=>(y,z)
 | .own t e::r,_,x,c::b=>(SD a t e c).bind λy=>(Ag a r x b).map λz=>(y,z)
 | .ownR t e d::r,_,x,c::b=>(jZ a t e d c).bind λy=>(Ag a r x b).map λz=>(y,z)
 | .fix k::r,_,x,c::b=>bif D1s k c then Ag a r x b else none
 | .fixB k::r,_,x,c::b=>bif D1q k c then Ag a r x b else none
 | _,_,_,_=>none
def B7y (l:List (Nat×LT)) (bl:List (Nat×TypeId×List Xb)):Xb->Bool
 | .fixB k=>bl.any λx=>Nat.beq x.1 k
 | .fix k=>l.any λx=>Nat.beq x.1 k
 | _=>true
def B4l (a:St):(l:List (Nat×LT))->Option (A3o l)
 | []=>some ()
 | (k,t)::r=>(A7c a k t).bind λy=>(B4l a r).map λz=>(y,z)
def O0:List Xb->List C->List Nat
 | .own _ _::r, .row k::a=>k::O0 r a
 | .ownR _ _ _::r, .row k::a=>k::O0 r a
 | _::r,_::a=>O0 r a
 | _,_=> []
def A2j {α:Type} (d:α) (l:List (Nat×α)):List Nat->List (Nat×α)
 | []=> []
 |s::r=>(s,find d s l)::A2j d l r
def gath (A:HR) (b:St):Option (St×A.den):=do
 let c<-A.cells (plugL A.rowL b)
 let a:=settleSh (plugL A.rowL b) A.shs c
 let b<-A.cells a
 let tl<-B4l a A.rowL
 let p<-Ag a A.shs tl b
 bif IQ (A.keepL++(O0 A.shs b++((A.rowL.map λx=>x.1)++(A.boxL.map λx=>x.1))))&&A.shs.all (B7y A.rowL A.boxL)then some (a,p)else none
def C9k:(t:Ty)->t.den->C
 | .ptr t,x=> .pf t x 0
 |t,x=> .val t x
def placeSh:(shs:List Xb)-> {T:Type} ->shD shs T->St->List C×St×T
 | [],_,x,a=>([],a,x)
 | .val t::r,_,x,a=>(λp=>(C9k t x.1::p.1,p.2)) (placeSh r x.2 a)
 | .own t e::r,_,x,a=>(λp=>(C.row a.nx::p.1,p.2)) (placeSh r x.2 (a.newL (.row t e x.1)))
 | .ownR t e b::r,_,x,a=>(λp=>(C.row a.nx::p.1,p.2)) (placeSh r x.2 (a.newL (.rows t e b x.1 [] none)))
 | .fix k::r,_,x,a=>(λp=>(C.row k::p.1,p.2)) (placeSh r x a)
 | .fixB k::r,_,x,a=>(λp=>(C.box k 0::p.1,p.2)) (placeSh r x a)
def putRows:(l:List (Nat×LT))->A3o l->St->St
 | [],_,a=>a
 | (k,t)::r,x,a=>putRows r x.2 (a.setL k (t.lc x.1))
def putS:List (Nat×Bool×List Xb)->List C->St->List C×St
 | [],a,b=>(a,b)
 | (s,b,shs)::r,a,c=>putS r (a.drop shs.length) (c.setS s (.one ⟨b,a.take shs.length⟩))
def putB:List (Nat×TypeId×List Xb)->List C->St->St
 | [],_,a=>a
 | (k,T,shs)::r,a,b=>putB r (a.drop shs.length) (b.setL k (.box T (a.take shs.length)))
def B5f:List (Nat×TypeId×List Xb)->Nat->Nat
 | [],n=>n
 |y::r,n=>B5f r (bif Nat.blt y.1 n then n else y.1+1)
def Qa:∀(l:List (Nat×TypeId×List Xb)) (n:Nat),n<=B5f l n
 | [],n=>qV n
 |y::r,n=>by
  refine qY ?_ (Qa r _);cases a:Nat.blt y.1 n with
  |true=>exact qV n
  |false=>
   have:¬y.1<n:=λh=>by rw[show Nat.blt y.1 n=true from by rw[Nat.blt_eq];exact h]at a;cases a
   show n<=y.1+1;omega
def cI:∀ {l:List (Nat×TypeId×List Xb)} {n:Nat},∀y∈l,y.1<B5f l n
 |y::r,n,z,a=>by
  rcases qS.1 a with rfl|a
  . refine rJ ?_ (Qa r _);cases b:Nat.blt z.1 n with
    |true=>rw[Nat.blt_eq]at b;exact b
    |false=>exact rM _
  . exact cI (l:=r) z a
def kept (A:HR) (a:St):St:=⟨A2j (0, .dead) a.sl A.keepS,A2j (0, .none) a.lc A.keepL,B5f A.boxL a.nx,a.ct+1,a.nm,a.fr⟩
def reflect (A:HR) (a:St) (p:A.den):St:=
 (λq=>(λr=>putB A.boxL r.1 r.2) (putS A.modS q.1 (putRows A.rowL q.2.2 q.2.1))) (placeSh A.shs p (kept A a))
def mQ (n:Nat) (g:Nat):Bool:=Nat.ble 1 g&&Nat.ble g n
def B8x (A:HR) (a b:St):Bool:=(A.keepS.all λs=>mQ a.ct (b.eS s).1)&&(A.keepL.all λk=>mQ a.ct (b.eL k).1)&&(A.rowL.all λx=>Nat.blt x.1 a.nx)&&C9j a.ct b.fr
def PU (A:HR) (b:St) (J:A.den->Prop) (a:St):Prop:=
 match gath A a with
 |some (a,p)=>bif B8x A b a then J p else False
 |none=>False
section
variable {za:Zn} {w0 w:World} {Z:Nat->Prop} {B:Nat->Value} {st st0:St} {E:I2}
def C3.plugL:∀(l:List (Nat×LT)) (st:St),C3 st (plugL l st)
 | [],st=>C3.refl st
 | (k, .nest _ _ _)::r,st=>(C3.giveS st k).trans (C3.plugL r _)
 | (k, .row _ _)::r,st=>(C3.thawS st ⟨false,[.row k]⟩).trans (C3.plugL r _)
 | (_, .map _ _ _ _)::r,st=>C3.plugL r st
 | (_, .rows _ _ _)::r,st=>C3.plugL r st
 | (_, .iter _ _ _ _)::r,st=>C3.plugL r st
 | (_, .itM _ _ _ _ _)::r,st=>C3.plugL r st
def C4.plugL (a:za.b0=0):∀ {l:List (Nat×LT)} {st:St} {Z:Nat->Prop},C4 za w0 st E w Z B->∃Z',C4 za w0 (plugL l st) E w Z' B
 | [],_,Z,h=>⟨Z,h⟩
 | (k, .nest _ _ _)::r,_,_,h=>C4.plugL a (l:=r) (h.giveS a k)
 | (k, .row _ _)::r,_,_,h=>by
  obtain⟨Z1,b⟩:=h.thaw k;exact C4.plugL a (l:=r) b
 | (_, .map _ _ _ _)::r,_,_,h=>C4.plugL a (l:=r) h
 | (_, .rows _ _ _)::r,_,_,h=>C4.plugL a (l:=r) h
 | (_, .iter _ _ _ _)::r,_,_,h=>C4.plugL a (l:=r) h
 | (_, .itM _ _ _ _ _)::r,_,_,h=>C4.plugL a (l:=r) h
def C3.settleSh:∀(shs:List Xb) (cs:List C) (st:St),C3 st (settleSh st shs cs)
 | .val _::r,c::cs,st=>(C3.settle st [c]).trans (C3.settleSh r cs _)
 | .own _ _::r,c::cs,st=>(C3.thawS st ⟨false,[c]⟩).trans (C3.settleSh r cs _)
 | .ownR _ _ _::r,_::cs,st=>C3.settleSh r cs st
 | .ownR _ _ _:: _,[],st=>C3.refl st
 | .fix _::r,_::cs,st=>C3.settleSh r cs st
 | .fixB _::r,_::cs,st=>C3.settleSh r cs st
 | .fixB _:: _,[],st=>C3.refl st
 | [],_,st=>C3.refl st
 | .val _:: _,[],st=>C3.refl st
 | .own _ _:: _,[],st=>C3.refl st
 | .fix _:: _,[],st=>C3.refl st
def C4.settleSh:∀ {shs:List Xb} {cs:List C} {st:St} {Z:Nat->Prop},C4 za w0 st E w Z B->∃Z',C4 za w0 (settleSh st shs cs) E w Z' B
 | .val _::r,c::cs,st,Z,h=>by
  obtain⟨Z1,a⟩:=h.settle [c];exact C4.settleSh (shs:=r) (cs:=cs) a
 | .own _ _::r,c::cs,st,Z,h=>by
  obtain⟨Z1,a⟩:=h.thawS ⟨false,[c]⟩;exact C4.settleSh (shs:=r) (cs:=cs) a
 | .ownR _ _ _::r,_::cs,st,Z,h=>C4.settleSh (shs:=r) (cs:=cs) h
 | .ownR _ _ _:: _,[],st,Z,h=>⟨Z,h⟩
 | .fix _::r,_::cs,st,Z,h=>C4.settleSh (shs:=r) (cs:=cs) h
 | .fixB _::r,_::cs,st,Z,h=>C4.settleSh (shs:=r) (cs:=cs) h
 | .fixB _:: _,[],st,Z,h=>⟨Z,h⟩
 | [],_,st,Z,h=>⟨Z,h⟩
 | .val _:: _,[],st,Z,h=>⟨Z,h⟩
 | .own _ _:: _,[],st,Z,h=>⟨Z,h⟩
 | .fix _:: _,[],st,Z,h=>⟨Z,h⟩
def C3.putRows:∀(l:List (Nat×LT)) (x:A3o l) (st:St),C3 st (putRows l x st)
 | [],_,st=>C3.refl st
 | (k,t)::r,x,st=>(C3.setL st k _).trans (C3.putRows r x.2 _)
def C3.placeSh:∀(shs:List Xb) {T:Type} (x:shD shs T) (st:St),C3 st (placeSh shs x st).2.1
 | [],_,_,st=>C3.refl st
 | .val t::r,_,x,st=>C3.placeSh r x.2 st
 | .own t e::r,_,x,st=>(C3.newL st (.row t e x.1)).trans (C3.placeSh r x.2 _)
 | .ownR t e a::r,_,x,st=>(C3.newL st (.rows t e a x.1 [] none)).trans (C3.placeSh r x.2 _)
 | .fix _::r,_,x,st=>C3.placeSh r x st
 | .fixB _::r,_,x,st=>C3.placeSh r x st
def C3.putS:∀(l:List (Nat×Bool×List Xb)) (cs:List C) (st:St),C3 st (putS l cs st).2
 | [],_,st=>C3.refl st
 | (s,a,shs)::r,cs,st=>(C3.setS st s _).trans (C3.putS r _ _)
def C3.putB:∀(l:List (Nat×TypeId×List Xb)) (cs:List C) (st:St),C3 st (putB l cs st)
 | [],_,st=>C3.refl st
 | (k,T,shs)::r,cs,st=>(C3.setL st k _).trans (C3.putB r _ _)
def C3.reflect (A:HR) (st0:St) (p:A.den):C3 (kept A st0) (reflect A st0 p):=
 (C3.placeSh A.shs p _).trans ((C3.putRows _ _ _).trans ((C3.putS _ _ _).trans (C3.putB _ _ _)))
def IH {α:Type} (d:α) (l:List (Nat×α)) (q:Nat):∀b:List Nat,find d q (A2j d l b)=if q∈b then find d q l else d
 | []=>rfl
 |s::r=>by
  simp only[A2j,find,IH d l q r];cases a:Nat.beq s q with
  |true=>have:=qE a;subst this;simp
  |false=>
   have:q≠s:=λh=>by subst h;simp at a
   simp[this]
def mZ (A:HR) (st:St) (s:Nat):(kept A st).eS s=if s∈A.keepS then st.eS s else(0, .dead):=IH ..
def mY (A:HR) (st:St) (k:Nat):(kept A st).eL k=if k∈A.keepL then st.eL k else(0, .none):=IH ..
def A3n {A:HR} {p:A.den} {s:Nat} (a:((reflect A st0 p).eS s).1≠0) (b:((reflect A st0 p).eS s).1<=st0.ct):(reflect A st0 p).eS s=st0.eS s:=by
 have e:=(C3.reflect A st0 p).s s a (xW b);rw[e]at a|-;rw[mZ]at a|-;split
 . rfl
 . rename_i b;rw[qG b]at a;exact absurd rfl a
def oK {A:HR} {p:A.den} {k:Nat} (a:((reflect A st0 p).eL k).1≠0) (b:((reflect A st0 p).eL k).1<=st0.ct):(reflect A st0 p).eL k=st0.eL k:=by
 have e:=(C3.reflect A st0 p).l k a (xW b);rw[e]at a|-;rw[mY]at a|-;split
 . rfl
 . rename_i b;rw[qG b]at a;exact absurd rfl a
structure C3a (n:Nat) (st:St):Prop where
 nms:st.nm=n/\n<=st.nx
 refs:∀s,NC st.nx (st.S s)
 refl:∀k,AX st.nx (st.L k)
 fresh:∀k,st.nx<=k->st.L k= .none
 frf:pT st.nx st.fr
def C4.pure (h:C4 za w0 st E w Z B):C3a za.n st:=⟨h.nms,h.refs,h.refl,h.fresh,h.frf⟩
structure Jw (za:Zn) (w0:World) (st2:St) (E:I2) (w:World) (Z:Nat->Prop) (B:Nat->Value) (used:List Nat) (st:St) (BX:Nat->Value):Prop where
 rel:C4 za w0 st E w Z BX
 own:∀j b,B4 w (BX j) (st.L j) b->∃q,q∈used/\B4 w (B q) (st2.L q) b
def Jw.disj {a:St} {d:List Nat} {BX:Nat->Value} (f:C4 za w0 a E w Z B) (c:Jw za w0 a E w Z B d st BX) {q:Nat} (h:q∉d):∀k b,B4 w (B q) (a.L q) b->¬B4 w (BX k) (st.L k) b:=λk b a d=>by
 obtain⟨j,i,g⟩:=c.own k b d;exact f.disj q j b (λd=>h (d▸i)) a g
end
section
variable {za:Zn} {w0 w:World} {Z:Nat->Prop} {B:Nat->Value} {st st0 st2:St} {E:I2}
def C4.setSame (h:C4 za w0 st E w Z B) (s:Nat) {x:DV} (c:RD w Z B E x (E s)) (b:NC st.nx x):C4 za w0 (st.setS s x) E w Z B:=by
 have e:upd E s (E s)=E:=by
  funext t;by_cases a:t=s
  . subst a;exact C0 _ _ _
  . exact C5 _ _ _ _ a
 have:=h.setS s (x:=x) (v:=E s) (by rw[e];exact c) b;rwa[e]at this
def C8a {A:HR} (a:C4 za w0 st2 E w Z B) (d:C3a za.n st0) (c:∀s∈A.keepS,st2.eS s=st0.eS s) (b:∀k∈A.keepL,st2.eL k=st0.eL k) (j:st2.fr=st0.fr):Jw za w0 st2 E w Z B A.keepL (kept A st0) B:=by
 have eS:∀s,(kept A st0).S s=if s∈A.keepS then st2.S s else .dead:=λs=>by
  show((kept A st0).eS s).2= _;rw[mZ];split
  . rename_i f;rw[<-c s f];rfl
  . rfl
 have eL:∀k,(kept A st0).L k=if k∈A.keepL then st2.L k else .none:=λk=>by
  show((kept A st0).eL k).2= _;rw[mY];split
  . rename_i c;rw[<-b k c];rfl
  . rfl
 have i:∀s,(kept A st0).S s=if s∈A.keepS then st0.S s else .dead:=λs=>by
  show((kept A st0).eS s).2= _;rw[mZ];split<;>rfl
 have g:∀k,(kept A st0).L k=if k∈A.keepL then st0.L k else .none:=λs=>by
  show((kept A st0).eL s).2= _;rw[mY];split<;>rfl
 have f:∀k b,B4 w (B k) ((kept A st0).L k) b->k∈A.keepL/\B4 w (B k) (st2.L k) b:=λk b c=>by
  rw[eL]at c;split at c
  . rename_i h;exact⟨h,c⟩
  . exact c.elim
 refine⟨⟨a.ext,a.zlt,λs=>?_,λk=>?_,λk h b l o r=>a.disj k h b l (f k b o).2 (f h b r).2,λs=>?_,λk=>?_,λk c=>?_,a.bone,a.zin,⟨d.nms.1,qY d.nms.2 (Qa _ _)⟩,a.bfix,⟨a.mrk.1,λk b c h=>a.mrk.2 k b c (f k b h).2⟩,(by have:=a.frs;rw[j]at this;exact this),d.frf.le (Qa _ _)⟩,λj b h=>⟨j,(f j b h).1,(f j b h).2⟩⟩
 . rw[eS];split
   . exact a.slots s
   . trivial
 . rw[eL];split
   . exact a.locs k
   . trivial
 . rw[i];split
   . exact(d.refs s).le (Qa _ _)
   . trivial
 . rw[g];split
   . exact(d.refl k).le (Qa _ _)
   . trivial
 . rw[g];split
   . exact d.fresh k (qY (Qa _ _) c)
   . rfl
def SE (j:C4 za w0 st2 E w Z B) {t:Ty} {e:TypeId} {c:C} {l:List t.den} {v:Value} (o:RC w Z B c v) (a:SD st2 t e c=some l):
 ∃xs,w.ownsRow w0.heap.size e t.size v l.length xs/\G3 (C6 t w Z) xs l/\(∀b,v.ownBlock=some b->¬Z b)/\((∃q,c= .row q/\live (st2.L q)/\v=B q)\/(root v=none/\∀q,c≠ .row q)):=by
 unfold SD at a;split at a
 . rename_i q;split at a
   . rename_i G A F f;split at a
     . rename_i x;subst x;obtain⟨g,a⟩:=E1 a;cases a;simp only[qC]at g;have D:=qQ g.2;have u:=qE g.1;subst u;have n:=j.locs q;rw[f]at n;obtain⟨xs,r,s,k⟩:=n;have h:v=B q:=o;subst h;have z:∀b,(B q).ownBlock=some b->w0.heap.size<=b:=λb d=>by
        rcases(k b d).1 with i|i
        . exact i.2
        . have:=j.nms.1;omega
       exact⟨xs,oC r z,s,λb d=>(k b d).2, .inl ⟨q,rfl,by rw[f];trivial,rfl⟩⟩
     . cases a
   . cases a
 . obtain⟨y,a⟩:=E1 a;cases a;have h:v= .slice none 0 0:=by rw[o.1];exact Hp y
   subst h;exact⟨[],World.ownsRow_nil _ _ _ _,rfl,λb d=>(by cases d), .inr ⟨rfl,λq f=>(by cases f)⟩⟩
 . cases a
def A3r (j:C4 za w0 st2 E w Z B) {t:Ty} {e e':TypeId} {c:C} {ls:List (List t.den)} {v:Value} (k:RC w Z B c v) (a:jZ st2 t e e' c=some ls):
 Dd w Z t e e' v ls/\v.oneCell'=true/\(∀b,B4 w v (.rows t e e' ls [] none) b->¬Z b/\w0.heap.size<=b/\b<w.heap.size)/\((∃q,c= .row q/\v=B q/\∀b,B4 w v (.rows t e e' ls [] none) b->B4 w (B q) (st2.L q) b)\/((∀b,¬B4 w v (.rows t e e' ls [] none) b)/\∀q,c≠ .row q)):=by
 unfold jZ at a;split at a
 . rename_i q;obtain⟨h,a⟩:=E1 a;obtain⟨al,o⟩:=Ah a;obtain⟨n,g⟩:=j.rowsAt o (qQ h);have f:v=B q:=k;subst f;exact⟨n,j.bone q,λb d=>⟨(g b d).1,(g b d).2.1,(g b d).2.2.1⟩, .inl ⟨q,rfl,rfl,λb d=>(g b d).2.2.2⟩⟩
 . obtain⟨s,a⟩:=E1 a;cases a;have f:v= .slice none 0 0:=by rw[k.1];exact Hp s
   exact⟨⟨[],by rw[f];exact World.ownsRow_nil _ _ _ _,λl y u r=>(by simp at r),λl x u v b _ i=>(by simp at i),λl u b i=>(by simp at i)⟩,by rw[f];rfl,λb d=>absurd d (aS f), .inr ⟨λb=>aS f,λq h=>(by cases h)⟩⟩
 . cases a
def C5a {t:Ty} {v:Value} {x:t.den} (h:C6 t w Z [v] x):RC w Z B (C9k t x) v:=by
 cases t with
 |ptr t=>
  obtain⟨b,o,a,e,r⟩:=h;simp only[sO,vY]at e;exact⟨b,o,a,by rw[e];rfl,r⟩
 | _=>exact h
def C0e {n:Nat} {t:Ty} {x:t.den} :Dx n (C9k t x):=by cases t<;>trivial
def Sx (l:za.b0=0) (f:C4 za w0 st2 E w Z B):∀ {shs:List Xb} {T:Type} {tl:T} {cs:List C} {vs:List Value} {p:shD shs T} {st:St} {BX:Nat->Value} {a:List Nat},Jw za w0 st2 E w Z B a st BX->Dp w Z B cs vs->Ag st2 shs tl cs=some p->(∀q∈O0 shs cs,q∉a)->(O0 shs cs).Nodup->(∀c∈shs,∀k,c.pin=some k->k<st.nx/\BX k=B k)->
 ∃BX',Jw za w0 st2 E w Z B (O0 shs cs++a) (placeSh shs p st).2.1 BX'/\Dp w Z BX' (placeSh shs p st).1 vs/\(∀c∈(placeSh shs p st).1,Dx (placeSh shs p st).2.1.nx c)/\(∀k,k<st.nx->BX' k=BX k)/\st.nx<=(placeSh shs p st).2.1.nx/\(placeSh shs p st).2.2=tl
 | [],_,tl,[],vs,p,st,BX,a,c,d,b,_,_,_=>by
  simp only[Ag,rF]at b;exact⟨BX,c,d,by simp[placeSh],λ_ _=>rfl,qV _,b.symm⟩
 | [],_,_,_:: _,_,_,_,_,_,_,_,b,_,_,_=>by cases b
 | .val t::r,_,_,[],_,_,_,_,_,_,_,b,_,_,_=>by cases b
 | .own t e::r,_,_,[],_,_,_,_,_,_,_,b,_,_,_=>by cases b
 | .ownR t e d::r,_,_,[],_,_,_,_,_,_,_,b,_,_,_=>by cases b
 | .fix k::r,_,_,[],_,_,_,_,_,_,_,b,_,_,_=>by cases b
 | .fixB k::r,_,_,[],_,_,_,_,_,_,_,b,_,_,_=>by cases b
 | .fix k::u,T,tl,d::cs,vs,p,st,BX,a,c,⟨v,I,e,G,H⟩,b,t,s,o=>by
  simp only[Ag]at b;obtain⟨r,b⟩:=E1 b;have D:O0 (.fix k::u) (d::cs)=O0 u cs:=by cases d<;>rfl
  rw[D]at t s|-;obtain⟨BX',x,y,z,i,n,A⟩:=Sx l f c H b t s (λj F=>o j (qO _ F));subst e;have g:=o _ rH k rfl;cases d with
  |row j=>
   have:=qE r;subst this;refine⟨BX',x,⟨v,I,rfl,?_,y⟩,λq h=>?_,i,n,A⟩
   . show v=BX' j;rw[i j g.1,g.2];exact G
   . rcases qS.1 h with rfl|h
     . exact rJ g.1 n
     . exact z q h
  | _=>cases r
 | .fixB k::x,T,tl,d::cs,vs,p,st,BX,a,c,⟨v,O,e,M,N⟩,b,t,s,r=>by
  simp only[Ag]at b;obtain⟨g,b⟩:=E1 b;have H:O0 (.fixB k::x) (d::cs)=O0 x cs:=by cases d<;>rfl
  rw[H]at t s|-;obtain⟨BX',z,A,D,n,o,F⟩:=Sx l f c N b t s (λj I=>r j (qO _ I));subst e;have h:=r _ rH k rfl;cases d with
  |box j u=>
   cases u with
   |succ u=>cases g
   |zero=>
   have:=qE g;subst this;refine⟨BX',z,⟨v,O,rfl,?_,A⟩,λq i=>?_,n,o,F⟩
   . obtain⟨y,G,J⟩:=M;exact⟨y,by rw[n j h.1,h.2];exact G,J⟩
   . rcases qS.1 i with rfl|i
     . exact rJ h.1 o
     . exact D q i
  | _=>cases g
 | .val I::r,T,tl,d::cs,vs,p,st,BX,a,c,⟨v,J,e,A,D⟩,h,i,g,x=>by
  simp only[Ag,bind_some,qP]at h;obtain⟨M,F,N,G,rfl⟩:=h;have y:O0 (.val I::r) (d::cs)=O0 r cs:=by cases d<;>rfl
  rw[y]at i g|-;obtain⟨BX',j,n,o,s,t,u⟩:=Sx l f c D G i g (λH z=>x H (qO _ z));subst e;refine⟨BX',j,⟨v,J,rfl,C5a (lS A F),n⟩,λq b=>?_,s,t,u⟩;rcases qS.1 b with rfl|b
  . exact C0e
  . exact o q b
 | .ownR t i j::r,T,tl,G::cs,vs,p,st,BX,a,c,⟨v,ag,e,a9,ab⟩,F,u,A,a3=>by
  simp only[Ag,bind_some,qP]at F;obtain⟨x,a5,ai,ac,rfl⟩:=F;subst e;obtain⟨ae,aa,O,af⟩:=A3r f a9 a5;have ad:∃h,Jw za w0 st2 E w Z B h (st.newL (.rows t i j x [] none)) (upd BX st.nx v)/\(∀q∈O0 r cs,q∉h)/\(O0 r cs).Nodup/\(∀q,q∈O0 (.ownR t i j::r) (G::cs)++a↔q∈O0 r cs++h):=by
   have mk:∀h,(∀q∈a,q∈h)->(∀b,B4 w v (.rows t i j x [] none) b->∃q,q∈h/\B4 w (B q) (st2.L q) b)->(∀k b,B4 w v (.rows t i j x [] none) b->¬B4 w (BX k) (st.L k) b)->Jw za w0 st2 E w Z B h (st.newL (.rows t i j x [] none)) (upd BX st.nx v):=by
    intro h a7 s a2;refine⟨c.rel.new (v:=v) (lc:= .rows t i j x [] none) (Dd.rl (by rw[C0];exact ae) λb d=>by rw[C0]at d;exact⟨.inl ⟨c.rel.nms.2,(O b d).2.1⟩,(O b d).1,(O b d).2.2⟩) a2 (λp F=>by cases F) aa (λb _ _=>by rw[l];exact rP _),λo b g=>?_⟩;rw[St.L_newL]at g;by_cases M:o=st.nx
    . subst M;rw[C0,qN rfl]at g;exact s b g
    . rw[qG M,C5 _ _ _ _ M]at g;obtain⟨q,H,I⟩:=c.own o b g;exact⟨q,a7 q H,I⟩
   rcases af with⟨q,rfl,ah,U⟩ | ⟨V,a6⟩
   . have J:O0 (.ownR t i j::r) (.row q::cs)=q::O0 r cs:=rfl;rw[J]at u A|-;have D:=sK.1 A;refine⟨q::a,mk _ (λy n=>qO _ n) (λb d=>⟨q,by simp,U b d⟩) (λk b d=>?_),λy n=>?_,D.2,λy=>by grind⟩
     . exact c.disj f (u q (by simp)) k b (U b d)
     . intro N;rcases qS.1 N with rfl|N
       . exact D.1 n
       . exact u y (qO _ n) N
   . have J:O0 (.ownR t i j::r) (G::cs)=O0 r cs:=by cases G<;>first|rfl|exact absurd rfl (a6 _)
     rw[J]at u A|-;exact⟨a,mk _ (λy n=>n) (λb d=>absurd d (V b)) (λk b d=>absurd d (V b)),u,A,λy=>yA⟩
  obtain⟨h,W,a8,D,a4⟩:=ad;obtain⟨BX',P,X,Y,Q,R,a0⟩:=Sx l f W ab ac a8 D (λo g k z=>by
   obtain⟨d,b⟩:=a3 o (qO _ g) k z;exact⟨uP d,(C5 _ _ _ _ (uD d)).trans b⟩)
  have a1:BX' st.nx=v:=by rw[Q st.nx (rM _),C0]
  refine⟨BX',⟨P.rel,λo b g=>?_⟩,⟨v,ag,rfl,a1.symm,X⟩,λq s=>?_,λk z=>?_,qY (uH _) R,a0⟩
  . obtain⟨q,H,I⟩:=P.own o b g;exact⟨q,(a4 q).2 H,I⟩
  . rcases qS.1 s with rfl|s
    . exact rJ (rM _) R
    . exact Y q s
  . rw[Q k (uP z),C5 _ _ _ _ (uD z)]
 | .own t i::r,T,tl,D::cs,vs,p,st,BX,a,c,⟨v,ai,e,aa,ac⟩,U,s,y,a4=>by
  simp only[Ag,bind_some,qP]at U;obtain⟨M,a6,am,ad,rfl⟩:=U;subst e;obtain⟨aj,A,af,ag,ah⟩:=SE f aa a6;have ab:v.oneCell'=true:=by rcases A.2 with⟨V,_⟩ | ⟨_,_,_,V,_⟩<;>rw[V]<;>rfl
  have ak:=E3 A;have ae:∃h,Jw za w0 st2 E w Z B h (st.newL (.row t i M)) (upd BX st.nx v)/\(∀q∈O0 r cs,q∉h)/\(O0 r cs).Nodup/\(∀q,q∈O0 (.own t i::r) (D::cs)++a↔q∈O0 r cs++h):=by
   have mk:∀h,(∀q∈a,q∈h)->(∀b,root v=some b->∃q,q∈h/\B4 w (B q) (st2.L q) b)->(∀k b,root v=some b->¬B4 w (BX k) (st.L k) b)->Jw za w0 st2 E w Z B h (st.newL (.row t i M)) (upd BX st.nx v):=by
    intro h a8 o a3;refine⟨c.rel.new (v:=v) (lc:= .row t i M) ⟨aj,by rw[C0];exact Ng A (rP _),af,λb d=>by rw[C0]at d;exact⟨.inl ⟨c.rel.nms.2,(World.ownsRow.lt A b d).1⟩,ag b d⟩⟩ a3 trivial ab (λb _ _=>by rw[l];exact rP _),λn b g=>?_⟩;rw[St.L_newL]at g;by_cases I:n=st.nx
    . subst I;rw[C0,qN rfl]at g;exact o b g
    . rw[qG I,C5 _ _ _ _ I]at g;obtain⟨q,F,G⟩:=c.own n b g;exact⟨q,a8 q F,G⟩
   rcases ah with⟨q,rfl,Q,W⟩ | ⟨R,a7⟩
   . have H:O0 (.own t i::r) (.row q::cs)=q::O0 r cs:=rfl;rw[H]at s y|-;have z:=sK.1 y;refine⟨q::a,mk _ (λx j=>qO _ j) (λb d=>⟨q,by simp,B4.of Q (by rw[<-W];exact d)⟩) (λk b d=>?_),λx j=>?_,z.2,λx=>by grind⟩
     . rw[W]at d;exact c.disj f (s q (by simp)) k b (B4.of Q d)
     . intro J;rcases qS.1 J with rfl|J
       . exact z.1 j
       . exact s x (qO _ j) J
   . have H:O0 (.own t i::r) (D::cs)=O0 r cs:=by cases D<;>first|rfl|exact absurd rfl (a7 _)
     rw[H]at s y|-;exact⟨a,mk _ (λx j=>j) (λb d=>by rw[R]at d;cases d) (λk b d=>by rw[R]at d;cases d),s,y,λx=>yA⟩
  obtain⟨h,X,a9,z,a5⟩:=ae;obtain⟨BX',N,Y,a0,O,P,a1⟩:=Sx l f X ac ad a9 z (λn g k u=>by
   obtain⟨d,b⟩:=a4 n (qO _ g) k u;exact⟨uP d,(C5 _ _ _ _ (uD d)).trans b⟩)
  have a2:BX' st.nx=v:=by rw[O st.nx (rM _),C0]
  refine⟨BX',⟨N.rel,λn b g=>?_⟩,⟨v,ai,rfl,a2.symm,Y⟩,λq o=>?_,λk u=>?_,qY (uH _) P,a1⟩
  . obtain⟨q,F,G⟩:=N.own n b g;exact⟨q,(a5 q).2 F,G⟩
  . rcases qS.1 o with rfl|o
    . exact rJ (rM _) P
    . exact a0 q o
  . rw[O k (uP u),C5 _ _ _ _ (uD u)]
end
section
variable {za:Zn} {w0 w:World} {Z:Nat->Prop} {B:Nat->Value} {st st0 st2:St} {E:I2}
def XU (E:I2):List (Nat×Bool×List Xb)->List Value->List Value->Prop
 | [],b,a=>b=a
 | (s,b,shs)::l,f,d=>∃a c,f=a++c/\a.length=shs.length/\(b=true->E s= .agg a.toArray)/\(b=false->a= [E s])/\XU E l c d
def kS (za:Zn) (w0:World) (w:World) (Z:Nat->Prop) (B:Nat->Value) (st2:St):List (Nat×TypeId×List Xb)->List Value->Prop
 | [],a=>a= []
 | (k,T,shs)::l,d=>∃a c,d=a++c/\a.length=shs.length/\live (st2.L k)/\(∃b,B k= .pointer (some ⟨b,0,none⟩)/\up za w0 k b/\¬Z b/\KN w b a.toArray T)/\kS za w0 w Z B st2 l c
def gV (f:C4 za w0 st2 E w Z B):∀ {l:List (Nat×Bool×List Xb)} {r cs:List C} {b:List Value},Dp w Z B r b->mD st2 l r=some cs->∃vs,Dp w Z B cs vs/\XU E l vs b
 | [],r,cs,b,a,h=>by cases h;exact⟨b,a,rfl⟩
 | (s,z,shs)::l,r,cs,b,x,h=>by
  simp only[mD]at h;split at h
  . rename_i n o y;obtain⟨c,h⟩:=E1 h;simp only[qP]at h;obtain⟨A,t,rfl⟩:=h;simp only[qC,g1u]at c;obtain⟨u,c⟩:=c;subst u;have j:=qE c;obtain⟨d,g,i⟩:=gV f x t;have a:=f.slots s;rw[y]at a;cases n with
    |true=>
     obtain⟨k,e,a⟩:=a;exact⟨k++d,a.append g,k,d,rfl,by rw[<-j,a.len],λ_=>e,λv=>(by cases v),i⟩
    |false=>
     have a:Dp w Z B o [E s]:=a;exact⟨[E s]++d,a.append g,[E s],d,rfl,by rw[<-j,a.len],λk=>(by cases k),λ_=>rfl,i⟩
  . cases h
def gU (b:C4 za w0 st2 E w Z B):∀ {l:List (Nat×TypeId×List Xb)} {cs:List C},mC st2 l=some cs->∃vs,Dp w Z B cs vs/\kS za w0 w Z B st2 l vs
 | [],cs,h=>by cases h;exact⟨[],rfl,rfl⟩
 | (u,T,shs)::l,cs,h=>by
  simp only[mC]at h;split at h
  . rename_i T' v f;obtain⟨a,h⟩:=E1 h;simp only[qP]at h;obtain⟨x,j,rfl⟩:=h;simp only[qC]at a;have hT:=qE a.1;subst hT;have t:=qE a.2;obtain⟨g,k,n⟩:=gU b j;have d:=b.locs u;rw[f]at d;obtain⟨i,vs,e,o,r,s,c⟩:=d;exact⟨vs.toList++g,c.append k,vs.toList,g,rfl,by rw[<-t,c.len],by rw[f];trivial,⟨i,e,o,r,by simpa using s⟩,n⟩
  . cases h
def jI {k:Nat} {t:Ty} {e e':TypeId} {x:List t.den×List Nat} (a:A7i st2 t e e' k=some x):st2.L k= .nest t e e' x.1 [] x.2:=by
 unfold A7i at a;split at a
 . rename_i j f g i h d;split at a
   . rename_i c;subst c;obtain⟨b,a⟩:=E1 a;cases a;simp only[qC]at b;rw[d,qE b.1,qE b.2]
   . cases a
 . cases a
def ZY {k q:Nat} {c f:Bool} {d g:Ty} {x:(LT.itM c d f g q).den} (a:A7c st2 k (.itM c d f g q)=some x):∃cur,st2.L k= .itM c d f g x.1 x.2 cur q/\q<k:=by
 simp only[A7c]at a;split at a
 . rename_i l n r s j left cur o i;obtain⟨b,a⟩:=E1 a;simp only[qC]at b;split at a
   . rename_i h;cases h;cases a;have:=qE b.1;subst this;exact⟨cur,i,qQ b.2⟩
   . cases a
 . cases a
def iX {k q:Nat} {t:LT} {x:t.den} (b:A7c st2 k t=some x) (a:t.need=some q):q<k:=by
 cases t with
 |itM c d g h f=>cases a;exact(ZY b).choose_spec.2
 | _=>cases a
def LW (b:C4 za w0 st2 E w Z B) {k:Nat} {t:LT} {x:t.den} (a:A7c st2 k t=some x):live (st2.L k)/\RL (up za w0 k) w Z B k (t.lc x)/\t.wf x:=by
 cases t with
 |row t e=>
  have d:=Kd a;have c:=b.locs k;rw[d]at c;refine⟨by rw[d];trivial,c,?_⟩;obtain⟨h,f,g,_⟩:=c;exact C6.wf (Di (Z:=λ_=>True) f (g.mono λ_ _=>C6.mono (λ_ _=>trivial) (λ_ _=>rfl)) (λ_ _=>trivial))
 |map n o r s=>
  have d:=XF a;have c:=b.locs k;rw[d]at c;refine⟨by rw[d];trivial,c,?_⟩;obtain⟨i,l,j,e,_,_,f,h,g⟩:=c;exact C6.wf (nI (Z:=λ_=>True) f h (g.mono (λ_ _=>trivial) (λ_ _=>rfl)) trivial)
 |rows t e o=>
  obtain⟨al,d⟩:=Ah a;have f:=b.locs k;have c:=f;rw[d]at c;have c:=c.rowsR;refine⟨by rw[d];trivial,c.rl λj l=>?_,c.wf⟩;have n:B4 w (B k) (st2.L k) j:=by rw[d];exact(X2 λ_ _=>rfl).1 l
  obtain⟨g,h,i⟩:=f.root n;exact⟨g,i,h⟩
 |iter J N P R=>
  simp only[A7c]at a;cases d:st2.L k with
  |iter M O Q T I H=>
   rw[d]at a;simp only at a;split at a
   . rename_i D;cases D;cases a;have l:=b.locs k;rw[d]at l;obtain⟨G,e,z,A,j⟩:=l;refine⟨trivial,⟨G,e,z,A,j.imp (λh=>⟨h.1,h.2.1,rfl⟩) fun⟨m,seen,i,g,n,o,r,s,f,F⟩=>⟨m,seen,i,g,n,o,r,s,f,λx c=>by cases c⟩⟩,?_⟩;rcases j with⟨_,h,_⟩ | ⟨m,seen,i,g,n,o,r,s,f,F⟩
     . rw[h];intro x c;cases c
     . intro x c;obtain⟨m,_,u,v⟩:=U2.mem f c;exact⟨U9.wf' (λ_ _=>C6.wf) u,U9.wf' (λ_ _=>C6.wf) v⟩
   . cases a
  | _=>rw[d]at a;cases a
 |nest t e h=>
  have d:=jI a;have c:=b.locs k;rw[d]at c;refine⟨by rw[d];trivial,c,?_⟩;obtain⟨l,g,_⟩:=c;rcases g.own.2 with⟨_,j⟩ | ⟨_,_,_,_,_,_,i,f,_⟩
  . show x.1.length<= _;omega
  . show x.1.length<= _;simp only[maxLen]at f;omega
 |itM D F G H q=>
  obtain⟨A,f,_⟩:=ZY a;have d:=b.locs k;rw[f]at d;obtain⟨z,m,seen,j,g,h,i,c,o,r,s,u⟩:=d;refine⟨by rw[f];trivial,⟨z,m,seen,j,g,h,i,⟨c.it,c.mp,c.ok,c.all,c.rest,λx v=>(by cases v)⟩,o,r,s,u⟩,λy hy=>?_⟩;obtain⟨m,_,l,n⟩:=U2.mem c.rest hy;exact⟨U9.wf' (λ_ _=>C6.wf) l,U9.wf' (λ_ _=>C6.wf) n⟩
def RL.setB {U:Nat->Prop} {B':Nat->Value} {k:Nat} {t:LT} {x:t.den} (h:RL U w Z B k (t.lc x)) (e:B' k=B k) (d:∀q,t.need=some q->B' q=B q):RL U w Z B' k (t.lc x):=by
 cases t with
 |nest t g i=>
  obtain⟨f,a,b⟩:=h;exact⟨f,⟨by rw[e];exact a.own,λp c=>(by cases c),a.elt,a.dis,by rw[e];exact a.top⟩,by rw[e];exact b⟩
 |itM i j l n q=>
  obtain⟨r,m,seen,f,a,b,c,g⟩:=h;exact⟨r,m,seen,f,a,e.trans b,(d q rfl).trans c,g⟩
 |row t g=>obtain⟨f,a,b,c⟩:=h;exact⟨f,by rw[e];exact a,b,by rw[e];exact c⟩
 |map g i j l=>obtain⟨b,f,c,a,r⟩:=h;exact⟨b,f,c,e.trans a,r⟩
 |iter c f g i=>obtain⟨r,a,b⟩:=h;exact⟨r,e.trans a,b⟩
 |rows t l n=>
  obtain⟨j,a,⟨o,b,c⟩,f,g⟩:=h;exact⟨j,by rw[e];exact a,⟨λp i=>(by cases i),b,c⟩,by rw[e];exact f,by rw[e];exact g⟩
def C4l (c:C4 za w0 st2 E w Z B) {k b:Nat} {t:LT} {x:t.den} (a:A7c st2 k t=some x) (h:B4 w (B k) (t.lc x) b):B4 w (B k) (st2.L k) b:=by
 cases t with
 |row t e=>exact B4.of (LW c a).1 h
 |map d f g i=>exact B4.of (LW c a).1 h
 |iter d f g i=>exact B4.of (LW c a).1 h
 |rows t e f=>
  obtain⟨al,d⟩:=Ah a;rw[d];exact(X2 λ_ _=>rfl).1 h
 |nest t e d=>rw[jI a];exact h
 |itM g i j l q=>obtain⟨f,d,_⟩:=ZY a;rw[d];exact h
def bR (d:C4 za w0 st2 E w Z B) {BX:Nat->Value} {n0:Nat} (s:∀k,k<n0->BX k=B k):∀ {l:List (Nat×LT)} {x:A3o l} {st:St} {c:List Nat},Jw za w0 st2 E w Z B c st BX->n0<=st.nx->B4l st2 l=some x->(∀y∈l,y.1<n0)->(∀y∈l,y.1∉c)->(l.map λy=>y.1).Nodup->
 Jw za w0 st2 E w Z B ((l.map λy=>y.1)++c) (putRows l x st) BX/\(putRows l x st).nx=st.nx
 | [],_,st,c,a,_,_,_,_,_=>⟨a,rfl⟩
 | (k,t)::Q,x,st,c,o,H,n,G,I,v=>by
  simp only[B4l,bind_some,qP]at n;obtain⟨l,i,R,O,rfl⟩:=n;have h:=G (k,t) (by simp);have F:=I (k,t) (by simp);simp only at h F;obtain⟨P,J,_⟩:=LW d i;have D:BX k=B k:=s k h;simp only[sE,sK]at v;have u:∀b,B4 w (BX k) (t.lc l) b->B4 w (B k) (st2.L k) b:=λb f=>C4l d i (by rw[<-D];exact f)
  have c1:Jw za w0 st2 E w Z B (k::c) (st.setL k (t.lc l)) BX:=by
   refine⟨o.rel.addL ω (J.setB D λq N=>s q (Nat.lt_trans (iX i N) h)) (λj b _ f a=>?_) (by cases t<;>first|trivial|exact λp n=>(by cases n) |exact rJ (Nat.lt_trans (iX i rfl) h) H) (λb hk f=>d.mrk.2 k b hk (u b f)),λj b a=>?_⟩
   . exact o.disj d F j b (u b f) a
   . rw[St.L_setL]at a;by_cases g:j=k
     . subst g;rw[qN rfl]at a;exact⟨j,by simp,u b a⟩
     . rw[qG g]at a;obtain⟨q,A,r⟩:=o.own j b a;exact⟨q,qO _ A,r⟩
  obtain⟨z,M⟩:=bR d s c1 H O (λy hy=>G y (qO _ hy)) (λy hy=>by
   intro g;rcases qS.1 g with g|g
   . exact v.1 (g▸vL hy)
   . exact I y (qO _ hy) g) v.2
  refine⟨⟨z.rel,λj b a=>?_⟩,M⟩;obtain⟨q,A,r⟩:=z.own j b a;refine⟨q,?_,r⟩;simp only[sE];grind
def B1c {BX:Nat->Value} :∀ {l:List (Nat×Bool×List Xb)} {cs:List C} {vs d:List Value} {st:St} {b:List Nat},Jw za w0 st2 E w Z B b st BX->Dp w Z BX cs vs->XU E l vs d->(∀c∈cs,Dx st.nx c)->
 Jw za w0 st2 E w Z B b (putS l cs st).2 BX/\Dp w Z BX (putS l cs st).1 d/\(∀c∈(putS l cs st).1,Dx st.nx c)/\(putS l cs st).2.nx=st.nx
 | [],cs,vs,d,st,b,c,a,g,f=>by rw[show vs=d from g]at a;exact⟨c,a,f,rfl⟩
 | (s,f,shs)::l,cs,vs,d,st,b,c,j,⟨t,u,e,h,n,o,r⟩,i=>by
  subst e;have a:=j.take shs.length;have g:=j.drop shs.length;rw[<-h,g3q]at a;rw[<-h,g3o]at g;rw[h]at a g;have k:RS w Z BX ⟨f,cs.take shs.length⟩ (E s):=by
   cases f with
   |true=>exact⟨t,n rfl,a⟩
   |false=>rw[o rfl]at a;exact a
  have c1:Jw za w0 st2 E w Z B b (st.setS s (.one ⟨f,cs.take shs.length⟩)) BX:=⟨c.rel.setSame s k (λx hx=>i x (rW hx)),c.own⟩;have:=B1c (l:=l) (cs:=cs.drop shs.length) c1 g r (λx hx=>i x (vQ hx));exact this
def B1b (g:C4 za w0 st2 E w Z B) {BX:Nat->Value} {n0:Nat} (s:∀k,k<n0->BX k=B k):∀ {l:List (Nat×TypeId×List Xb)} {cs:List C} {vs:List Value} {st:St} {f:List Nat},Jw za w0 st2 E w Z B f st BX->n0<=st.nx->Dp w Z BX cs vs->kS za w0 w Z B st2 l vs->(∀c∈cs,Dx st.nx c)->(∀y∈l,y.1<n0)->(∀y∈l,y.1∉f)->(l.map λy=>y.1).Nodup->
 C4 za w0 (putB l cs st) E w Z BX
 | [],_,_,st,f,c,_,_,_,_,_,_,_=>c.rel
 | (k,T,shs)::l,cs,vs,st,f,c,Q,F,⟨W,X,e,i,P,⟨H,I,M,R,N⟩,U⟩,u,D,G,n=>by
  subst e;have b:=F.take shs.length;have d:=F.drop shs.length;rw[<-i,g3q]at b;rw[<-i,g3o]at d;rw[i]at b d;have z:=D (k,T,shs) (by simp);have A:=G (k,T,shs) (by simp);simp only at z A;have t:BX k=B k:=s k z;simp only[sE,sK]at n;have h:∀q,B4 w (BX k) (.box T (cs.take shs.length)) q->B4 w (B k) (st2.L k) q:=λq o=>B4.of P (by rw[<-t];exact o)
  have c1:Jw za w0 st2 E w Z B (k::f) (st.setL k (.box T (cs.take shs.length))) BX:=by
   refine⟨c.rel.addL ω ⟨H,W.toArray,t.trans I,M,R,N,by simpa using b⟩ (λj q _ o a=>?_) (λx r=>u x (rW r)) (λq O J=>g.mrk.2 k q O (h q J)),λj q a=>?_⟩
   . exact c.disj g A j q (h q o) a
   . rw[St.L_setL]at a;by_cases v:j=k
     . subst v;rw[qN rfl]at a;exact⟨j,by simp,h q a⟩
     . rw[qG v]at a;obtain⟨V,b,d⟩:=c.own j q a;exact⟨V,qO _ b,d⟩
  have:=B1b (l:=l) (cs:=cs.drop shs.length) g s c1 Q d U (λx r=>u x (vQ r)) (λy hy=>D y (qO _ hy)) (λy hy=>by
   intro a;rcases qS.1 a with a|a
   . exact n.1 (a▸vL hy)
   . exact G y (qO _ hy) a) n.2
  exact this
def Mj (a:C4 za w0 st2 E w Z B):∀ {shs:List Xb} {T:Type} {tl:T} {q:T->Prop} {cs:List C} {vs:List Value} {p:shD shs T},q tl->Dp w Z B cs vs->Ag st2 shs tl cs=some p->shW shs q p
 | [],_,tl,q,[],vs,p,c,_,b=>by simp only[Ag,rF]at b;subst b;exact c
 | [],_,_,_,_:: _,_,_,_,_,b=>by cases b
 | .val t::r,_,_,_,[],_,_,_,_,b=>by cases b
 | .own t e::r,_,_,_,[],_,_,_,_,b=>by cases b
 | .ownR t e c::r,_,_,_,[],_,_,_,_,b=>by cases b
 | .fix k::r,_,_,_,[],_,_,_,_,b=>by cases b
 | .fixB k::r,_,_,_,[],_,_,_,_,b=>by cases b
 | .fixB k::r,_,tl,q,f::cs,vs,p,d,⟨v,h,_,g,c⟩,b=>by
  simp only[Ag]at b;exact Mj (shs:=r) a d c (E1 b).2
 | .fix k::r,_,tl,q,f::cs,vs,p,d,⟨v,h,_,g,c⟩,b=>by
  simp only[Ag]at b;exact Mj (shs:=r) a d c (E1 b).2
 | .val t::r,_,tl,q,i::cs,vs,p,f,⟨v,j,e,c,d⟩,b=>by
  simp only[Ag,bind_some,qP]at b;obtain⟨y,g,z,h,rfl⟩:=b;exact⟨C6.wf (lS c g),Mj a f d h⟩
 | .own t e::r,_,tl,q,k::cs,vs,p,g,⟨v,n,_,c,d⟩,b=>by
  simp only[Ag,bind_some,qP]at b;obtain⟨l,f,z,h,rfl⟩:=b;obtain⟨o,i,j,_⟩:=SE a c f;exact⟨C6.wf (Di (Z:=λ_=>True) i (j.mono λ_ _=>C6.mono (λ_ _=>trivial) (λ_ _=>rfl)) (λ_ _=>trivial)),Mj a g d h⟩
 | .ownR t e j::r,_,tl,q,i::cs,vs,p,g,⟨v,k,_,c,d⟩,b=>by
  simp only[Ag,bind_some,qP]at b;obtain⟨l,f,z,h,rfl⟩:=b;exact⟨Dd.wf (A3r a c f).1,Mj a g d h⟩
def B1j (a:C4 za w0 st2 E w Z B):∀ {l:List (Nat×LT)} {x:A3o l},B4l st2 l=some x->C9r l x
 | [],_,_=>trivial
 | (k,t)::r,x,b=>by
  simp only[B4l,bind_some,qP]at b;obtain⟨l,c,z,d,rfl⟩:=b;exact⟨(LW a c).2.2,B1j a d⟩
def B0f {A:HR} {p:A.den} {o:St} (F:za.b0=0) (h:C4 za w0 st E w Z B) (g:gath A st=some (o,p)) (ab:C3a za.n st0) (a0:∀s∈A.keepS,o.eS s=st0.eS s) (X:∀k∈A.keepL,o.eL k=st0.eL k) (Y:∀y∈A.rowL,y.1<st0.nx) (W:o.fr=st0.fr):
 A.wf p/\∃Z' B',C4 za w0 (reflect A st0 p) E w Z' B':=by
 simp only[gath,qI,bind_some]at g;obtain⟨u,_,cs,j,tl,I,af,G,g⟩:=g;obtain⟨f,g⟩:=E1 g;cases g;simp only[qC,uB]at f;obtain⟨f,a5⟩:=f;obtain⟨Z0,V⟩:=h.plugL F (l:=A.rowL);obtain⟨Z1,d⟩:=C4.settleSh (shs:=A.shs) (cs:=u) V;generalize settleSh (plugL A.rowL st) A.shs u=st2 at*;have f:=Ka f;simp only[HR.cells,bind_some]at j;obtain⟨ac,a4,j⟩:=j;obtain⟨ag,a2,a3⟩:=gU d a4;obtain⟨ah,H,a6⟩:=gV d a2 j;refine⟨Mj d (B1j d I) H G,?_⟩;have O:=C8a d ab a0 X W;have D:∀y∈A.rowL,y.1<B5f A.boxL st0.nx:=λy b=>rJ (Y y b) (Qa _ _)
 rw[tV]at f;obtain⟨ae,J,r⟩:=f;rw[tV]at J;obtain⟨a7,M,N⟩:=J;rw[tV]at M;obtain⟨a8,a9,aa⟩:=M;obtain⟨BX,P,Q,R,T,v,U⟩:=Sx F d O H G (λq hq hk=>r q hk q (by simp[hq]) rfl) a7 (λc hc k hk=>by
  have:=a5 _ hc;cases c with
  |fix ad=>
   cases hk;simp only[B7y,yB]at this;obtain⟨y,b,a1⟩:=this;have:=qE a1;subst this;exact⟨D y b,rfl⟩
  |fixB ad=>
   cases hk;simp only[B7y,yB]at this;obtain⟨y,b,a1⟩:=this;have:=qE a1;subst this;exact⟨cI y b,rfl⟩
  | _=>cases hk)
 have z:∀k,k<B5f A.boxL st0.nx->BX k=B k:=T;have t:=bR d z (x:=(placeSh A.shs p (kept A st0)).2.2) P v (by rw[U];exact I) D (λy b a=>by
  rcases rB.1 a with a|a
  . exact N y.1 a y.1 (by simp only[rB,sS];exact .inl ⟨y,b,rfl⟩) rfl
  . exact r y.1 a y.1 (by simp only[rB,sS];exact .inr (.inl ⟨y,b,rfl⟩)) rfl) a8
 have i:=B1c (l:=A.modS) t.1 Q a6 (by rw[t.2];exact R);refine⟨Z1,BX,?_⟩;exact B1b d z i.1 (by rw[i.2.2.2,t.2];exact v) i.2.1 a3 (by rw[i.2.2.2];exact i.2.2.1) (λy b=>cI y b) (λy b a=>by
  rcases rB.1 a with a|a
  . exact aa y.1 a y.1 (vL b) rfl
  . rcases rB.1 a with a|a
    . exact N y.1 a y.1 (by simp only[rB,sS];exact .inr ⟨y,b,rfl⟩) rfl
    . exact r y.1 a y.1 (by simp only[rB,sS];exact .inr (.inr ⟨y,b,rfl⟩)) rfl) a9
end
def addA (a:St) (d:Tmp) (lc:LC) (mk:Nat->C):St:=(a.newL lc).setS d (one1 (mk a.nx))
def PF (cx:Cx) (a:St) (d:Tmp):Op->Option (Option Prop×LC×(Nat->C))
 | .alloc T=>do
  let ti<-cx.ti T
  some (none, .box T (DK ti.ty),λk=> .box k 0)
 | .makeSlice T c b=>do
  let ti<-cx.ti T
  let t<-slT ti.ty
  let l<-mT a c
  let c<-mT a b
  bif ti.nest.any (Nat.beq d)then do
   let a<-cx.ti ti.elem
   bif MV t then some (some (0<=l/\l<=c/\(ti.bytes:Int)*c<=281474976710656/\c<=9223372036854775807), .nest t ti.elem a.elem (List.replicate l.toNat t.dflt) [] (Qz t l.toNat), .row)else none
  else bif !ti.rows&&Sk t then some (some (0<=l/\l<=c/\(ti.bytes:Int)*c<=281474976710656/\c<=9223372036854775807), .row t ti.elem (List.replicate l.toNat t.dflt), .row)else none
 | _=>none
def B6g (lc:LC) (mk:Nat->C) (X:Obj) (f:Nat->Value):Prop:=
 ∀(d:Zn) (c w:World) (a:St) (E:I2) (Z:Nat->Prop) (B:Nat->Value) (h b:Nat),C4 d c a E w Z B->w.heap[b]? =some X->c.heap.size<=b->¬Z b->(∀k,¬B4 w (B k) (a.L k) b)->d.b0<=b->
  C4 d c (addA a h lc mk) (upd E h (f b)) w Z (upd B a.nx (f b))/\∀g,B4 w (f b) lc g->g=b
section
variable {za:Zn} {w0 w w':World} {st:St} {E:I2} {Z:Nat->Prop} {B:Nat->Value} {cx:Cx} {d:Tmp} {φ:Option Prop}
def C3.addA (st:St) (d:Tmp) (lc:LC) (mk:Nat->C):C3 st (addA st d lc mk):=(C3.newL _ _).trans (C3.setS _ _ _)
def C0m {a b e sz n c:Nat} {cs:Array Value} (h:w.heap[b]? =some (.cells cs e (0,0))) (g:a<=b) (d:cs.size=c*sz) (f:n<=c) (i:c<=maxLen):w.ownsRow a e sz (.slice (some ⟨b,0,none⟩) n c) n (cs.toList.take (n*sz)):=by
 refine⟨?_, .inr ⟨b,c,cs,rfl,g,h,f,i,d,rfl⟩⟩;rw[qZ,sP,d];exact tF (rD _ f)
def B2e {op:Op} {lc:LC} {mk:Nat->C} (h:C4 za w0 st E w Z B) (U:H5 cx.P cx.tys=true) (a:PF cx st d op=some (φ,lc,mk)) (Y:MC φ):
 ∃(X:Obj) (f:Nat->Value),(∀ty w',Gw.E8 cx.P E ty op w' (f w'.heap.size) (w'.alloc X))/\B6g lc mk X f:=by
 unfold PF at a;split at a
 . simp only[qI,bind_some]at a;obtain⟨ti,I,a⟩:=a;cases a;obtain⟨z,J,k⟩:=Hi (M8 (C2 U I)).2.2;rename_i T;refine⟨.cells z.cells T,λb=> .pointer (some ⟨b,0,none⟩),λty w'=>B1w J,λza w0 w st E Z B d b h i o A y s=>?_⟩;have F:=Dq (w:=w) (Z:=Z) (B:=B) (n:=st.nx) (Fb ti.ty);have G:∀c,B4 w (.pointer (some ⟨b,0,none⟩)) (.box T (DK ti.ty)) c->c=b:=λc g=>by
    simp only[B4,root,rF]at g;exact g.symm
   have a7:=h.new (v:= .pointer (some ⟨b,0,none⟩)) (lc:= .box T (DK ti.ty)) ⟨b,z.cells,C0 _ _ _, .inl ⟨h.nms.2,o⟩,A,i,
    Dp.mono (n:=st.nx) (λ_=>id) (λ_ _=>rfl) (λa0 aa=>C5 _ _ _ _ (uD aa)) F.2 (by rw[k];exact F.1)⟩
    (λa0 c g u=>y a0 (G c g▸u)) (λc g=>(F.2 c g).le (uH _)) rfl (λc _ g=>by rw[G c g];exact s)
   refine⟨a7.setS d (x:=one1 (.box st.nx 0)) ⟨_,[],rfl,⟨b,C0 _ _ _,rfl⟩,rfl⟩ (λc g=>?_),G⟩;simp at g;subst g;exact rM _
 . rename_i T ai a4;simp only[qI,bind_some]at a;obtain⟨ti,I,t,H,l,ab,c,g,a⟩:=a;have H:=Kr H;have a1:∀ {φ':Option Prop},MC (some (0<=l/\l<=c/\(ti.bytes:Int)*c<=281474976710656/\c<=9223372036854775807))->∃z:Value,z.cells.toList=Fb t/\z.cells.size=t.size/\l.toNat<=c.toNat/\c.toNat<=maxLen/\∀ty w',Gw.E8 cx.P E ty (.makeSlice T ai a4) w' (.slice (some ⟨w'.heap.size,0,none⟩) l.toNat c.toNat) (w'.alloc (.cells (madeCells z.cells (c.toNat*t.size)) ti.elem)):=by
    intro _ ⟨D,M,N,O⟩;obtain⟨a5,z,a2,Q,J,W,k,a3,i,a9⟩:=Ho (C2 U I) H;obtain⟨a6,j,_⟩:=h.int (F5 E) ab;obtain⟨a8,r,_⟩:=h.int (F5 E) g;refine⟨z,k,a3,ω,by simp only[maxLen];omega,λty w'=>?_⟩;have V:=run_make (P:=cx.P) w' T ti.elem a5 z a2 Q J a6 a8 l c D M (by rw[i];exact N) O;rw[<-W];exact λ_ _ _ _=>by simp[execOp,j,r,V]
   cases R:ti.nest.any (Nat.beq d)with
   |true=>
    simp only[R,qX,qI,bind_some]at a;obtain⟨aj,_,a⟩:=a;cases D:MV t with
    |false=>simp only[D,rK]at a;cases a
    |true=>
     simp only[D,qX]at a;cases a;obtain⟨z,k,ah,ac,ad,W⟩:=a1 (φ':=none) Y;obtain⟨ag,N,V⟩:=jQ D;rw[ag]at ah W;refine⟨_,λb=> .slice (some ⟨b,0,none⟩) l.toNat c.toNat,W,λza w0 w st E Z B d b h i o A y s=>?_⟩;generalize Q:madeCells z.cells (c.toNat*1)=O at i;have a8:O.size=c.toNat*1:=by rw[<-Q];simp[madeCells]
     have af:=C0m (sz:=1) i o a8 ac ad;have ae:∀x∈O.toList.take (l.toNat*1),x=N:=λx j=>by
      have j:=rW j;rw[<-Q]at j;simp only[madeCells,g2c,sS]at j;obtain⟨M,_,rfl⟩:=j;have r:z.cells.toList= [N]:=k.trans V;have a2:z.cells= #[N]:=by rw[<-uE (xs:=z.cells),r]
      rw[a2];simp[g5m]
     obtain⟨ak,am⟩:=jR D V.symm;obtain⟨a5,a6⟩:=h.newNestE d (t:=t) (e':=aj.elem) (dd:=Qz t l.toNat) af (λM x j=>by
      have:=ae x (tA j);subst this;have a9:M<l.toNat:=by have:=(sQ.1 j).1;rw[qZ]at this;omega
      exact⟨ak,am _ _ _ M _ a9⟩) (λa2 r=>by
      simp only[Value.ownBlock,rF]at r;subst r;exact⟨A,y⟩) (λa2 _ r=>by simp only[Value.ownBlock,rF]at r;subst r;exact s)
     exact⟨a5,λa3 u=>by have:=a6 a3 u;simp only[Value.ownBlock,rF]at this;exact this.symm⟩
   |false=>
    simp only[R,rK]at a;cases r: !ti.rows&&Sk t with
    |false=>simp only[r,rK]at a;cases a
    |true=>
     simp only[r,qX]at a;cases a;simp only[qC]at r;obtain⟨z,k,a5,M,W,a3⟩:=a1 (φ':=none) Y;refine⟨_,λb=> .slice (some ⟨b,0,none⟩) l.toNat c.toNat,a3,λza w0 w st E Z B d b h i o A y s=>?_⟩;have D:G3 (C6 t w Z) ((madeCells z.cells (c.toNat*t.size)).toList.take (l.toNat*t.size)) (List.replicate l.toNat t.dflt):=QJ k r.2 a5 _ _ M;generalize Q:madeCells z.cells (c.toNat*t.size)=O at i D;have V:O.size=c.toNat*t.size:=by rw[<-Q];simp[madeCells]
     have a2:=C0m i o V M W;refine⟨h.newRowE d (t:=t) (e:=ti.elem) (l:=List.replicate l.toNat t.dflt) (by rw[rN];exact a2) D (λN j=>by
      simp only[Value.ownBlock,rF]at j;subst j;exact⟨A,y⟩) (λN _ j=>by simp only[Value.ownBlock,rF]at j;subst j;exact s),λa6 u=>?_⟩
     have:=u;simp only[B4,root,rF]at this;exact this.symm
 . cases a
end
def HE (cx:Cx) (all:List Oper) (a:St):List Nat->(St->Prop)->St->Prop
 | [],k=>k
 |i::r,k=>λb=>match all[i]? with
  |some o=>match PF cx a (Hj all i) o.op with
   |some (c,lc,mk)=>fC c (HE cx all a r k (addA b (Hj all i) lc mk))
   |none=>False
  |none=>False
def A8v (all:List Oper) (f:Nat->Nat->Value) (bl:Nat->Nat):List Nat->I2->I2
 | [],E=>E
 |i::r,E=>A8v all f bl r (upd E (Hj all i) (f i (bl i)))
section
variable {za:Zn} {w0 w w':World} {Z:Nat->Prop} {cx:Cx} {all:List Oper} {st0:St} {k k':St->Prop} {f:Nat->Nat->Value} {X:Nat->Obj} {bl:Nat->Nat}
def kC:∀ {ls:List Nat} {c:St},HE cx all st0 ls k c->∀i∈ls,∃o φ lc mk,all[i]? =some o/\PF cx st0 (Hj all i) o.op=some (φ,lc,mk)/\MC φ
 | [],_,_,_,h=>by cases h
 |i::r,c,a,j,b=>by
  simp only[HE]at a;split at a
  . rename_i o h;split at a
    . rename_i φ lc mk g;obtain⟨d,f⟩:=E9.1 a;rcases qS.1 b with rfl|b
      . exact⟨o,φ,lc,mk,h,g,d⟩
      . exact kC f j b
    . exact a.elim
  . exact a.elim
def bY:∀ {ls:List Nat} {a:St},HE cx all st0 ls k a->(∀b,C3 a b->k b->k' b)->HE cx all st0 ls k' a
 | [],a,h,c=>c a (C3.refl a) h
 |i::r,a,h,c=>by
  simp only[HE]at h|-;split at h
  . split at h
    . exact E9.2 ⟨(E9.1 h).1,bY (E9.1 h).2 λb e a=>c b ((C3.addA _ _ _ _).trans e) a⟩
    . exact h
  . exact h
def JO {x:Nat} :∀ {l:List Nat} {E:I2},x∉Bz all l->A8v all f bl l E x=E x
 | [],_,_=>rfl
 |i::l,E,h=>by
  simp only[Bz,sE,qS,g5r]at h;simp only[A8v];rw[JO h.2,C5 _ _ _ _ h.1]
def A4q {i:Nat} :∀ {l:List Nat} {E:I2},(Bz all l).Nodup->i∈l->A8v all f bl l E (Hj all i)=f i (bl i)
 | [],_,_,h=>by cases h
 |j::l,E,b,h=>by
  simp only[Bz,sE]at b;obtain⟨c,d⟩:=sK.1 b;simp only[A8v];by_cases a:i∈l
  . exact A4q d a
  . rcases qS.1 h with rfl|h
    . rw[JO c,C0]
    . exact absurd h a
def A3y:∀ {ls:List Nat} {a:St} {E:I2} {B:Nat->Value},C4 za w0 a E w Z B->(∀i∈ls,∀o φ lc mk,all[i]? =some o->PF cx st0 (Hj all i) o.op=some (φ,lc,mk)->B6g lc mk (X i) (f i))->
 (∀i∈ls,w.heap[bl i]? =some (X i)/\w0.heap.size<=bl i/\¬Z (bl i)/\za.b0<=bl i/\∀k,¬B4 w (B k) (a.L k) (bl i))->(∀i∈ls,∀j∈ls,i≠j->bl i≠bl j)->ls.Nodup->HE cx all st0 ls k a->∃s B',C4 za w0 s (A8v all f bl ls E) w Z B'/\k s
 | [],a,E,B,h,_,_,_,_,b=>⟨a,B,h,b⟩
 |i::T,a,E,B,M,r,g,n,O,b=>by
  simp only[HE]at b;obtain⟨Q,R⟩:=sK.1 O;split at b
  . rename_i o P;split at b
    . rename_i φ lc mk h;obtain⟨_,b⟩:=E9.1 b;obtain⟨v,x,y,z,A⟩:=g i (rH);obtain⟨I,J⟩:=r i rH o φ lc mk P h za w0 w a E Z B (Hj all i) (bl i) M v x y A z;refine A3y (ls:=T) (E:=upd E (Hj all i) (f i (bl i))) I (λj c=>r j (qO _ c)) (λj c=>?_) (λt h u g=>n t (qO _ h) u (qO _ g)) R b;obtain⟨c1,D,F,G,H⟩:=g j (qO _ c);refine⟨c1,D,F,G,λq d=>?_⟩;have N:(addA a (Hj all i) lc mk).L q=(a.newL lc).L q:=rfl;rw[N,St.L_newL]at d;by_cases l:q=a.nx
      . subst l;rw[qN rfl,C0]at d;exact n i rH j (qO _ c) (λe=>Q (e▸c)) (J _ d).symm
      . rw[qG l,C5 _ _ _ _ l]at d;exact H q d
    . exact b.elim
  . exact b.elim
def kA:∀(l:List Nat) (E:I2) (w:World),l.Nodup->(Bz all l).Nodup->R8 w (Hk all f X l E w).2/\∃bl:Nat->Nat,(∀i∈l,w.heap.size<=bl i/\(Hk all f X l E w).2.heap[bl i]? =some (X i)/\(Hk all f X l E w).1 (Hj all i)=f i (bl i))/\∀i∈l,∀j∈l,i≠j->bl i≠bl j
 | [],_,w,_,_=>⟨R8.refl w,λ_=>0,by simp,by simp⟩
 |i::r,E,w,z,o=>by
  obtain⟨D,F⟩:=sK.1 z;simp only[Bz,sE]at o;obtain⟨s,t⟩:=sK.1 o;obtain⟨n,bl,h,x⟩:=kA r (upd E (Hj all i) (f i w.heap.size)) (w.alloc (X i)) F t;have B:R8 w (w.alloc (X i)):=R8.alloc w _;have A:(w.alloc (X i)).heap.size=w.heap.size+1:=Array.size_push ..;simp only[Hk];refine⟨B.trans n,λj=>if j=i then w.heap.size else bl j,λj d=>?_,λa ha b hb hab=>?_⟩
  . rcases qS.1 d with rfl|d
    . have y:(if j=j then w.heap.size else bl j)=w.heap.size:=qN rfl;show w.heap.size<=(if j=j then w.heap.size else bl j)/\(Hk all f X r _ _).2.heap[if j=j then w.heap.size else bl j]? = _ /\ _=f j (if j=j then w.heap.size else bl j);rw[y];refine⟨qV _,?_,by rw[Jl _ _ _ s,C0]⟩;rw[n.block _ (by rw[A];exact rM _)];exact heap_alloc_new w _
    . have:j≠i:=λe=>D (e▸d)
      simp only[qG this];obtain⟨G,u,v⟩:=h j d;exact⟨ω,u,v⟩
  . simp only;have g:∀q,q∈i::r->q≠i->q∈r:=λq hq hqi=>(qS.1 hq).resolve_left hqi
    by_cases c:a=i
    . rw[qN c,qG (λe=>hab (c.trans e.symm))];have:=(h b (g b hb (λe=>hab (c.trans e.symm)))).1;omega
    . rw[qG c];by_cases k:b=i
      . rw[qN k];have:=(h a (g a ha c)).1;omega
      . rw[qG k];exact x a (g a ha c) b (g b hb k) hab
end
structure K where
 n:St->Prop
 x:Nat->St->Prop
 r:St->Prop
def K.at (k:K):Exit->St->Prop
 | .normal=>k.n
 | .exit i=>k.x i
 | .ret=>k.r
 | _=>λ_=>False
structure An where
 join:List (Nat×HR):= []
 loop:List (Nat×HR):= []
 plan:List (Nat×List Nat×List Nat×Bool×Pl):= []
 bump:Nat:=0
 mv:List (Nat×List Nat):= []
def A2p:Code->Option Nat
 | .region id _ _=>some id
 | .seq a b=>match A2p a with
  |some i=>some i
  |none=>A2p b
 | .cond _ a b=>match A2p a with
  |some i=>some i
  |none=>A2p b
 | .block _ c=>A2p c
 | .loop c=>A2p c
 | _=>none
def C6s (l:List (Nat×HR)):Option Nat->Option HR
 |some i=>Ez i l
 |none=>none
def D4g (A:HR) (a:St) (b:(St->Prop)->Prop) (c:St->Prop):Prop:=
 ∃J:A.den->Prop,b (PU A a J)/\∀p,A.wf p->J p->c (reflect A a p)
def C7k (A:HR) (a:St) (d:(St->Prop)->St->Prop):Prop:=
 match gath A a with
 |some (a,f)=>bif(A.rowL.all λx=>Nat.blt x.1 a.nx)&&(A.boxL.all λx=>Nat.blt x.1 a.nx)then
  (∃(I:A.den->Prop) (c:A.den->Nat),I f/\∀p,A.wf p->I p->d (PU A a λb=>I b/\c b<c p) (reflect A a p))else False
 |none=>False
def Py (cx:Cx) (all:List Oper) (o:Oper) (k:St->Prop) (a:St):Prop:=
 match o.guard with
 |none=>match AV cx a [] o.op with
  |some (b,v)=>match o.dst with
   |some d=>fC b (k (a.setS d v))
   |none=>False
  |none=>match o.op with
   | .load T x=>match o.dst with
    |some d=>(match jB cx a d T x with
     |some b=>k b
     |none=>False)
    |none=>False
   | _=>False
 |some (j,b)=>match(all[j]?).bind (·.dst)with
  |some t=>bif Pm a 20 t then(match o.dst with
   |some d=>bif !(Nat.beq t d)then(match AV cx a (gctx a 20 t b) o.op with
    |some (c, .one s)=>bif s.cs.all (C0y a.nx)then fC (C4e (ctxP a (gctx a 20 t b)) c) (k (a.setS d (.cnd t b s)))else False
    |some _=>False
    |none=>match o.op with
     | .load T x=>(match iZ cx a (gctx a 20 t b) t b d T x with
      |some a=>k a
      |none=>False)
     | _=>False)else False
   |none=>False)else False
  |none=>False
def TW (cx:Cx) (all:List Oper):List Nat->(St->Prop)->St->Prop
 | [],k=>k
 |j::r,k=>λa=>match all[j]? with
  |some o=>bif !(B9o o.op)&&C5w (jO all j) (Bz all (j::r))then Py cx all o (TW cx all r k) a else False
  |none=>False
def S7 (cx:Cx) (sp:H7) (all:List Oper) (tails:List Nat) (n0:Nat) (nw:Bool):Pl->Bool->Bool->(St->Prop)->St->Prop
 | .done,_,_,k=>k
 | .q i p,a,t,k=>λb=>match all[i]? with
  |some o=>bif a|| !nw then Py cx all o (S7 cx sp all tails n0 nw p a t k) b else False
  |none=>False
 | .p i p,a,t,k=>λb=>match all[i]? with
  |some o=>bif !(B9o o.op)then Py cx all o (S7 cx sp all tails n0 nw p a t k) b else False
  |none=>False
 | .e i p,_,t,k=>λa=>match all[i]? with
  |some o=>bif((t||tails.contains i) || !(eM sp a o) || (nw&&frO n0 a o.op))&&(!nw||nU sp n0 a o.op)then HF cx sp all o (S7 cx sp all tails n0 nw p false (t||tails.contains i) k) a else False
  |none=>False
 | .or i p q,b,t,k=>λa=>
  (match all[i]? with
  |some o=>bif((t||tails.contains i) || !(eM sp a o) || (nw&&frO n0 a o.op))&&(!nw||nU sp n0 a o.op)then HF cx sp all o (S7 cx sp all tails n0 nw p false (t||tails.contains i) k) a else False
  |none=>False)/\S7 cx sp all tails n0 nw q b t k a
 | .al a b p,_,t,k=>λc=>bif B2d all a b then HE cx all c a (TW cx all b (S7 cx sp all tails n0 nw p false t k)) c else False
def pkO:Op->Bool
 | .move _=>true
 | .assign _=>true
 | .pick _ _ _=>true
 | .build _ _=>true
 | .nilCheck _=>true
 | .binOp _ _ _ _ _=>true
 | .unOp _ _ _=>true
 | .convert _ _ _=>true
 | .fieldAddr _ _ _=>true
 | .field _ _ _=>true
 | .indexAddr _ _ _=>true
 | .index _ _ _=>true
 | .extract _ _=>true
 | .slice _ _ _ _ _=>true
 | .makeFunc _ _ _=>true
 | .call ⟨.builtin .len,_,_⟩=>true
 | .call ⟨.builtin .max,_,_⟩=>true
 | .call ⟨.builtin .min,_,_⟩=>true
 | _=>false
def B6l (all:List Oper) (a tails:List Nat) (nw:Bool):Nat->Array Bool->Bool->Pl
 |0,_,_=> .done
 |n+1,l,b=>
  let r:=Region.ready .any all.toArray l
  let c:=λi=>((all[i]?).map λo=>pkO o.op).getD false
  match r.find? λi=>Region.free .any all.toArray l i&& !tails.contains i&&(c i|| (a.contains i&&(b|| !nw)))with
  |some i=>bif c i then .p i (B6l all a tails nw n (l.setIfInBounds i true) b)else .q i (B6l all a tails nw n (l.setIfInBounds i true) b)
  |none=>match r.reverse with
   | []=> .done
   |i::b=>b.foldl (λq j=> .or j (B6l all a tails nw n (l.setIfInBounds j true) false) q) (.e i (B6l all a tails nw n (l.setIfInBounds i true) false))
def C7g (all:List Oper) (a tails:List Nat) (nw:Bool):Pl->Pl
 | .done=>B6l all a tails nw all.length (Array.replicate all.length false) true
 |p=>p
def mvB (a:St) (q:Nat):St:=match a.S q with
 | .one ⟨false,[.box k 0]⟩=>match a.L k with
  | .box T b=>bif Nat.ble a.nm k then((a.setL k .none).newL (.box T b)).setS q (one1 (.box a.nx 0))else a
  | _=>a
 | _=>a
def mvs (an:An) (id:Nat) (k:St->Prop):St->Prop:=match Ez id an.mv with
 |some qs=>λa=>k (qs.foldl mvB a)
 |none=>k
def Pd (cx:Cx) (sp:H7) (an:An):Code->K->St->Prop
 | .skip,k=>k.n
 | .label _,k=>k.n
 | .region id ops b,k=>λa=>bif b then(match Ez id an.plan with
  |some (c,b,d,f)=>let p:=C7g ops.toList c b d f;bif C7c ops.toList c b p&&cx.P.follows .mixedOrders then S7 cx sp ops.toList b a.nx d p true false (mvs an id k.n) a else False
  |none=>False)else cA cx sp ops.toList ops.toList k.n a
 | .seq c b,k=>λa=>match C6s an.join (A2p b)with
  |some A=>D4g A a (λj=>Pd cx sp an c {k with n:=j} a) (Pd cx sp an b k)
  |none=>Pd cx sp an c {k with n:=Pd cx sp an b k} a
 | .cond d b c,k=>λa=>match(a.ev [] d).bind TA with
  |some e=>(e=true->Pd cx sp an b k a)/\(e=false->Pd cx sp an c k a)
  |none=>False
 | .block id c,k=>Pd cx sp an c {k with x:=λi a=>bif Nat.beq i id then k.n a else k.x i a}
 | .loop c,k=>λa=>match C6s an.loop (A2p c)with
  |some A=>C7k A a λj=>Pd cx sp an c {k with n:=j}
  |none=>False
 | .exit i,k=>k.x i
 | .ret,k=>k.r
 | _,_=>λ_=>False
section
variable {za:Zn} {w0:World} {cx:Cx} {sp:H7} {an:An} {all:List Oper}
def Wh {o:Oper} {k k':St->Prop} {b:St} (h:Py cx all o k b) (a:∀c,C3 b c->k c->k' c):Py cx all o k' b:=by
 unfold Py at h|-;split at h
 . split at h
   . split at h
     . exact E9.2 ⟨(E9.1 h).1,a _ (C3.setS _ _ _) (E9.1 h).2⟩
     . exact h
   . split at h
     . split at h
       . split at h
         . rename_i b;exact a _ (jC b) h
         . exact h
       . exact h
     . exact h
 . split at h
   . obtain⟨c,h⟩:=B9 h;simp only[c,qX];split at h
     . obtain⟨c,h⟩:=B9 h;simp only[c,qX];split at h
       . obtain⟨c,h⟩:=B9 h;simp only[c,qX];exact E9.2 ⟨(E9.1 h).1,a _ (C3.setS _ _ _) (E9.1 h).2⟩
       . exact h
       . split at h
         . split at h
           . rename_i b;exact a _ (jA b) h
           . exact h
         . exact h
     . exact h
   . exact h
def cB:∀ {ls:List Nat} {k k':St->Prop} {a:St},TW cx all ls k a->(∀b,C3 a b->k b->k' b)->TW cx all ls k' a
 | [],_,_,a,h,b=>b a (C3.refl a) h
 |j::r,_,_,a,h,f=>by
  simp only[TW]at h|-;split at h
  . obtain⟨a,h⟩:=B9 h;simp only[a,qX];exact Wh h λb a c=>cB c λg b d=>f g (a.trans b) d
  . exact h
def Bv {tails:List Nat} {n0:Nat} {nw:Bool} :∀ {p:Pl} {pre t:Bool} {k k':St->Prop} {a:St},S7 cx sp all tails n0 nw p pre t k a->(∀b,C3 a b->k b->k' b)->S7 cx sp all tails n0 nw p pre t k' a
 | .done,_,_,_,_,a,h,b=>b a (C3.refl a) h
 | .q i p,pre,t,_,_,a,h,g=>by
  simp only[S7]at h|-;split at h
  . obtain⟨b,h⟩:=B9 h;simp only[b,qX]at h|-;exact Wh h λc b d=>Bv d λi c f=>g i (b.trans c) f
  . exact h
 | .p i p,pre,t,_,_,a,h,g=>by
  simp only[S7]at h|-;split at h
  . obtain⟨b,h⟩:=B9 h;simp only[b,qX];exact Wh h λc b d=>Bv d λi c f=>g i (b.trans c) f
  . exact h
 | .e i p,pre,t,_,_,a,h,g=>by
  simp only[S7]at h|-;split at h
  . obtain⟨b,h⟩:=B9 h;simp only[b,qX];exact JJ h λc b d=>Bv d λi c f=>g i (b.trans c) f
  . exact h
 | .or i p q,pre,t,_,_,a,h,b=>by
  simp only[S7]at h|-;refine⟨?_,Bv h.2 b⟩;have h:=h.1;split at h
  . obtain⟨c,h⟩:=B9 h;simp only[c,qX];exact JJ h λd c f=>Bv f λi d g=>b i (c.trans d) g
  . exact h
 | .al b c p,pre,t,_,_,a,h,g=>by
  simp only[S7]at h|-;obtain⟨a,h⟩:=B9 h;simp only[a,qX];exact bY h λb a c=>cB c λf b d=>Bv d λh c f=>g h (a.trans (b.trans c)) f
def C3.told (A:HR) (a:St) (p:A.den):C3 a (Vc.reflect A a p):=
 ⟨qY (uH _) (C3.reflect A a p).ct,λ_ b c=>A3n b c,λ_ b c=>oK b c,(C3.reflect A a p).f.le (uH _)⟩
def C3.gath {A:HR} {a b:St} {p:A.den} (h:gath A a=some (b,p)):C3 a b:=by
 simp only[Vc.gath,qI,bind_some]at h;obtain⟨d,_,c,_,tl,_,f,_,h⟩:=h;obtain⟨_,h⟩:=E1 h;cases h;exact(C3.plugL _ _).trans (C3.settleSh _ _ _)
def C3.mvB (a:St) (q:Nat):C3 a (Vc.mvB a q):=by
 unfold Vc.mvB;split
 . split
   . cases Nat.ble a.nm _ with
     |true=>exact(C3.setL ..).trans ((C3.newL ..).trans (C3.setS ..))
     |false=>exact C3.refl _
   . exact C3.refl _
 . exact C3.refl _
def C3.mvBs:∀(qs:List Nat) (a:St),C3 a (qs.foldl Vc.mvB a)
 | [],a=>C3.refl a
 |q::qs,a=>(C3.mvB a q).trans (C3.mvBs qs _)
def SH:∀ {c:Code} {k k':K} {a:St},Pd cx sp an c k a->(∀e b,C3 a b->k.at e b->k'.at e b)->Pd cx sp an c k' a:=by
 intro c
 induction c with
 |skip=>intro k k' a h d;exact d .normal a (C3.refl a) h
 |label l=>intro k k' a h d;exact d .normal a (C3.refl a) h
 |region id ops i=>
  intro k k' a h f;simp only[Pd]at h|-;cases i with
  |true=>
   simp only[qX]at h|-;split at h
   . obtain⟨j,h⟩:=B9 h;simp only[j,qX];refine Bv h λb e d=>?_
     cases g:Ez id an.mv with
     |none=>simp only[mvs,g]at d|-;exact f .normal b e d
     |some qs=>simp only[mvs,g]at d|-;exact f .normal _ (e.trans (C3.mvBs ..)) d
   . exact h
  |false=>
   simp only[rK]at h|-;exact TV h λb e=>f .normal b e
 |seq v w j l=>
  intro k k' a h f;simp only[Pd]at h|-;split at h
  . rename_i A _;obtain⟨J,r,i⟩:=h;refine⟨J,j r λe b ev d=>?_,λp t s=>l (i p t s) λe b ev d=>?_⟩
    . cases e with
      |normal=>exact d
      |exit o=>exact f (.exit o) b ev d
      |ret=>exact f .ret b ev d
      | _=>exact d
    . exact f e b ((C3.told A a p).trans ev) d
  . refine j h λe n g d=>?_
    cases e with
    |normal=>exact l d λe u o i=>f e u (g.trans o) i
    |exit o=>exact f (.exit o) n g d
    |ret=>exact f .ret n g d
    | _=>exact d
 |cond c i j f g=>
  intro k k' a h d;simp only[Pd]at h|-;split at h
  . exact⟨λe=>f (h.1 e) d,λe=>g (h.2 e) d⟩
  . exact h
 |block id c j=>
  intro k k' a h f;simp only[Pd]at h|-;refine j h λe b ev d=>?_
  cases e with
  |exit i=>
   simp only[K.at]at d|-;cases g:Nat.beq i id with
   |true=>simp only[g,qX]at d|-;exact f .normal b ev d
   |false=>simp only[g,rK]at d|-;exact f (.exit i) b ev d
  |normal=>exact f .normal b ev d
  |ret=>exact f .ret b ev d
  | _=>exact d
 |loop c t=>
  intro k k' a h g;simp only[Pd]at h|-;split at h
  . rename_i A _;unfold C7k at h|-;split at h
    . rename_i i v f;obtain⟨o,h⟩:=B9 h;simp only[o,qX];obtain⟨I,u,j,l⟩:=h;refine⟨I,u,j,λp r n=>t (l p r n) λe b ev d=>?_⟩;cases e with
      |normal=>exact d
      |exit s=>exact g (.exit s) b ((C3.gath f).trans ((C3.told A i p).trans ev)) d
      |ret=>exact g .ret b ((C3.gath f).trans ((C3.told A i p).trans ev)) d
      | _=>exact d
    . exact h
  . exact h
 |exit i=>intro k k' a h d;exact d (.exit i) a (C3.refl a) h
 |ret=>intro k k' a h d;exact d .ret a (C3.refl a) h
 | _=>intro k k' a h d;exact h
def gP {A:HR} (k:za.b0=0) {b c:St} {J:A.den->Prop} {E:I2} {w:World} {Z:Nat->Prop} {B:Nat->Value} (h:C4 za w0 c E w Z B) (a:PU A b J c) (v:C3a za.n b) (ev:C3 b c):∃p,A.wf p/\J p/\∃Z' B',C4 za w0 (reflect A b p) E w Z' B':=by
 unfold PU at a;split at a
 . rename_i b p d;obtain⟨b,a⟩:=B9 a;simp only[B8x,qC,uB]at b;obtain⟨⟨⟨i,j⟩,t⟩,u⟩:=b;have c:=ev.trans (C3.gath d);have b:∀ {n g:Nat},mQ n g=true->g≠0/\g<=n:=λhh=>by
    simp only[mQ,qC]at hh;have o:=qQ hh.1;have o:=qQ hh.2;omega
   obtain⟨r,Z',B',o⟩:=B0f k h d v (λs hs=>c.s s (b (i s hs)).1 (b (i s hs)).2) (λq hq=>c.l q (b (j q hq)).1 (b (j q hq)).2) (λy hy=>Zp (t y hy)) (c.f.old u);exact⟨p,r,a,Z',B',o⟩
 . exact a.elim
variable (hty:H5 cx.P cx.tys=true) (hsp:Ur cx.P sp)
include hty in
theorem JK {S:World->Prop} {o:Oper} {k:St->Prop} {I:St} {E:I2} {w:World} {Z:Nat->Prop} {B:Nat->Value} (j:∀w',S w'->(B9o o.op=true->R8 w w')) (h:C4 za w0 I E w Z B) (a:Py cx all o k I):JG cx.P S all o (Nx za w0 k) E w:=by
 obtain⟨a1,X,ty,G,A,a2⟩:=o;unfold Py at a;simp only at a j;split at a
 . split at a
   . rename_i Y a6 y;split at a
     . rename_i d;replace a:=E9.1 a;obtain⟨u,c,f,r⟩:=EQ (ty:=ty) h hty (F5 E) y a.1;exact .inl ⟨rfl,u,λw' g=>c w' (j w' g) _ _ _ _,_,_,_,h.setS d (f _) r,a.2⟩
     . exact a.elim
   . split at a
     . rename_i T x _;split at a
       . rename_i d;split at a
         . rename_i a4 s;obtain⟨u,B',c,f⟩:=A2r (ty:=ty) h hty s;exact .inl ⟨rfl,u,λw' g=>c w' (j w' g rfl) _ _ _ _,_,_,_,f,a⟩
         . exact a.elim
       . exact a.elim
     . exact a.elim
 . rename_i F i;split at a
   . rename_i t l;have a3:=(B9 a).1;replace a:=(B9 a).2;split at a
     . rename_i d;have U:=(B9 a).1;replace a:=(B9 a).2;have z:t≠d:=vH (by simpa using U);split at a
       . rename_i Y H y;obtain⟨R,a⟩:=B9 a;replace a:=E9.1 a;rw[A2d]at a;by_cases b:E t= .bool i
         . have D:=h.gctx (n:=20) b;obtain⟨u,c,f,r⟩:=EQ (ty:=ty) h hty D y (a.1 (h.ctxP D));refine .inl ⟨MQ l b,u,λw' g=>c w' (j w' g) _ _ _ _,_,_,_,h.setS d (x:= .cnd t i H) (.inl ⟨?_,f E⟩) r,a.2⟩;rw[C5 _ _ _ _ z];exact b
         . have v:D8 all ⟨some d,X,ty,G,A,some (F,i)⟩ E=false:=by
            unfold D8 Bg;simp only[l];cases N:E t with
            |bool a0=>simp only[vM,g4k,rF];intro Q;exact b (by rw[N,Q])
            | _=>rfl
           refine .inr ⟨v,_,_,_,h.setS d (x:= .cnd t i H) (.inr ⟨?_,rfl⟩) (λJ O=>oJ (uB.1 R J O)),a.2⟩;rw[C5 _ _ _ _ z];exact b
       . exact a.elim
       . split at a
         . rename_i T x _;split at a
           . rename_i a5 s;obtain⟨V,W⟩:=A2q (ty:=ty) h hty z s;by_cases b:E t= .bool i
             . obtain⟨u,B',c,f⟩:=V b (h.gctx (n:=20) b);exact .inl ⟨MQ l b,u,λw' g=>c w' (j w' g rfl) _ _ _ _,_,_,_,f,a⟩
             . have v:D8 all ⟨some d, .load T x,ty,G,A,some (F,i)⟩ E=false:=by
                unfold D8 Bg;simp only[l];cases N:E t with
                |bool a0=>simp only[vM,g4k,rF];intro Q;exact b (by rw[N,Q])
                | _=>rfl
               obtain⟨B',M⟩:=W b;exact .inr ⟨v,_,_,_,M,a⟩
           . exact a.elim
         . exact a.elim
     . exact a.elim
   . exact a.elim
theorem bU {P:Program} {S:World->Prop} {o:Oper} {n a:I2->World->Prop} {E:I2} {w:World} (h:JG P S all o n E w) (c:∀E',n E' w->a E' w):JG P S all o a E w:=by
 rcases h with⟨a,v,b,d⟩ | ⟨a,b⟩
 . exact .inl ⟨a,v,b,c _ d⟩
 . exact .inr ⟨a,c _ b⟩
def RW (nw:Bool) (b0:Nat) (w w':World):Prop:=bif nw then(Below b0 w w'/\True)else R8 w w'
theorem RW.of {nw:Bool} {b0:Nat} {w w':World} (a:b0<=w.heap.size) (h:R8 w w'):RW nw b0 w w':=by
 cases nw with
 |true=>exact⟨⟨h.os,h.tape,h.output,h.size,λk b=>h.block k (rJ b a)⟩,h.drw⟩
 |false=>exact h
theorem RW.refl (nw:Bool) (b0:Nat) (w:World):RW nw b0 w w:=by
 cases nw with
 |true=>exact⟨Below.refl _ _,trivial⟩
 |false=>exact R8.refl _
theorem RW.trans {nw:Bool} {b0:Nat} {a b c:World} (h:RW nw b0 a b) (d:RW nw b0 b c):RW nw b0 a c:=by
 cases nw with
 |true=>exact⟨Below.trans h.1 d.1,trivial⟩
 |false=>exact R8.trans h d
include hty hsp in
theorem B1m {nw tl:Bool} {n0:Nat} {k:St->Prop} {o:Oper} {d:St} {E:I2} {w:World} {Z:Nat->Prop} {B:Nat->Value} (i:nw=true->za.k0=n0) (s:nw=false->za.b0=0) (h:C4 za w0 d E w Z B)
 (b:((tl|| !(eM sp d o) || (nw&&frO n0 d o.op))&&(!nw||nU sp n0 d o.op))=true) (a:HF cx sp all o k d):N6 cx.P all o (λE' w'=>(tl=true\/RW nw za.b0 w w')/\Nx za w0 k E' w') E w:=by
 simp only[qC,tD,rO]at b;obtain⟨b,c⟩:=b;have j:za.b0=0\/nU sp za.k0 d o.op=true:=by
  cases f:nw with
  |false=>exact .inl (s f)
  |true=>rw[f]at c;exact .inr (by rw[i f];simpa using c)
 rcases b with(b|b) |b
 . refine O4 ?_ (bZ h j hty hsp a);rintro E' w' ⟨_,n⟩;exact⟨.inl b,n⟩
 . refine O4 ?_ (bZ h j hty hsp a);rintro E' w' ⟨y,n⟩;exact⟨.inr (RW.of h.mrk.1 (y b)),n⟩
 . obtain⟨v,b⟩:=b;subst v;obtain⟨l,D,H,F,A,r⟩:=o;have t:=b;unfold frO at b;split at b
   . rename_i T p z g;simp only at g;subst g;unfold HF at a;simp only at a;cases r with
     |none=>
      simp only[AV]at a;cases l with
      |none=>
       simp only at a;have u:IN d (.store T p z)=false:=by
        rcases c with c|c
        . cases c
        . simp only[nU,qC,rO]at c;exact c.2
       rw[A2y u]at a;simp only at a;split at a
       . rename_i I G x;refine O4 ?_ (kH h hty x (E9.1 a).1 (E9.1 a).2 rfl);rintro E' w' ⟨f,n⟩;exact⟨.inr (f (by rw[i rfl];exact t)),n⟩
       . exact a.elim
      |some f=>exact a.elim
     |some f=>
      obtain⟨x,u⟩:=f;simp only[AV]at a;split at a
      . obtain⟨_,a⟩:=B9 a;split at a
        . obtain⟨_,a⟩:=B9 a;exact a.elim
        . exact a.elim
      . exact a.elim
   . cases b
include hty in
theorem A3z {k:St->Prop} :∀ {d:List Nat},(∀j∈d,oD all j=true)->(Bz all d).Nodup->∀ {f:St} {E:I2} {w:World} {Z:Nat->Prop} {B:Nat->Value},C4 za w0 f E w Z B->TW cx all d k f->∃F,(∀x,x∉Bz all d->F x=E x)/\AlV cx.P all d F/\Nx za w0 k F w
 | [],_,_,f,E,w,Z,B,h,b=>⟨E,λ_ _=>rfl,λ_ a=>(by cases a),f,Z,B,h,b⟩
 |j::W,r,o,f,E,w,Z,B,A,b=>by
  simp only[TW]at b;simp only[Bz,sE]at o;obtain⟨T,U⟩:=sK.1 o;split at b
  . rename_i t i;obtain⟨g,b⟩:=B9 b;simp only[qC,rO]at g;obtain⟨G,H,I⟩:=AU (r j rH) i;have N:=SI g.2;have J:=JK (S:=λ_=>True) (all:=all) hty (λv _ hh=>by rw[hh]at g;cases g.1) A b;have R:D8 all t E=true:=by simp[D8,H]
    rcases J with⟨_,V,Q,X,Z1,B1,n,M⟩ | ⟨s,_⟩
    . rw[G]at n;obtain⟨F,h,y,z⟩:=A3z (λl c=>r l (qO _ c)) U n M;have D:F (Hj all j)=V:=by rw[h _ T];exact C0 _ _ _
      refine⟨F,λx a=>?_,λl c=>?_,z⟩
      . simp only[Bz,sE,qS,g5r]at a;rw[h x a.2];exact C5 _ _ _ _ a.1
      . rcases qS.1 c with rfl|c
        . refine⟨t,i,λv=>?_⟩;rw[D,QD (E:=F) (E':=E) i I λu O=>?_]
          . exact Q v trivial
          . have a:=N u O;simp only[Bz,sE,qS,g5r]at a;rw[h u a.2];exact C5 _ _ _ _ a.1
        . exact y l c
    . rw[R]at s;cases s
  . exact b.elim
theorem RW.size {nw:Bool} {b0:Nat} {a b:World} (h:RW nw b0 a b):a.heap.size<=b.heap.size:=by
 cases nw with
 |true=>exact h.1.size
 |false=>exact(show R8 a b from h).size
include hty in
theorem B4r {nw:Bool} {b s:List Nat} {k:St->Prop} {v:St} {E:I2} {w:World} {Z:Nat->Prop} {B:Nat->Value} (N:B2d all b s=true) (h:C4 za w0 v E w Z B) (M:HE cx all v b (TW cx all s k) v):∃f X,B5z cx.P (RW nw za.b0) all b s f X (Nx za w0 k) E w:=by
 simp only[B2d,qC,uB]at N;obtain⟨⟨⟨a6,u⟩,r⟩,ah⟩:=N;have u:=(tV.1 (My u)).1;have r:=My r;have r:(Bz all b++Bz all s).Nodup:=by simpa[Bz]using r
 obtain⟨F,T,a9⟩:=tV.1 r;have I:=kC M;have a1:∀i,∃x:Obj×(Nat->Value),i∈b->∀o n lc mk,all[i]? =some o->PF cx v (Hj all i) o.op=some (n,lc,mk)->(∀d,(execOp (ev E) o).run cx.P d= .ok (.value (x.2 d.heap.size)) (d.alloc x.1))/\B6g lc mk x.1 x.2:=λi=>by
  by_cases a:i∈b
  . obtain⟨o,n,lc,mk,l,j,Q⟩:=I i a;obtain⟨X,f,U,V⟩:=B2e h hty j Q;refine⟨(X,f),λ_ ae aj ac ad J z=>?_⟩;rw[l]at J;cases J;rw[j]at z;cases z;obtain⟨aa,af,a7,ag,a8,ab⟩:=o;exact⟨λd=>U a7 d _ _ _ _,V⟩
  . exact⟨(.cells #[] 0 (0,0),λ_=>undef),λa2=>absurd a2 a⟩
 obtain⟨g,H⟩:=g2d a1;refine⟨λi=>(g i).2,λi=>(g i).1,⟨λi a=>?_,λi a d a5=>RW.of (qY h.mrk.1 a5.size) (R8.alloc d _),λt c=>?_⟩⟩
 . obtain⟨o,n,lc,mk,l,j,Q⟩:=I i a;exact⟨o,l,(H i a o n lc mk l j).1⟩
 . have a4:t.Nodup:=c.nodup_iff.2 u;have a3:(Bz all t).Nodup:=(c.map _).nodup_iff.2 F;obtain⟨O,bl,D,R⟩:=kA (f:=λi=>(g i).2) (X:=λi=>(g i).1) t E w a4 a3;have W:=h.more (Z':=Z) O (λ_=>id) (λ_=> .inl);obtain⟨ai,B1,G,Y⟩:=A3y (f:=λi=>(g i).2) (X:=λi=>(g i).1) (bl:=bl) W (λi a o n lc mk l j=>(H i a o n lc mk l j).2) (λi a=>by
    obtain⟨c1,z,a2⟩:=D i (c.symm.subset a);refine⟨z,qY h.ext.size c1,λV=>?_,qY h.mrk.1 c1,λq U=>?_⟩
    . have:=h.zlt _ V;omega
    . have:=((h.locs q).root (h.ft O U)).2.1;omega) (λi a A y J=>R i (c.symm.subset a) A (c.symm.subset y) J) u M
   have a0:A8v all (λi=>(g i).2) bl b E=(Hk all (λi=>(g i).2) (λi=>(g i).1) t E w).1:=funext λx=>by
    by_cases z:x∈Bz all b
    . obtain⟨i,a,e⟩:=K4.1 z;subst e;rw[A4q F a,(D i (c.symm.subset a)).2.2]
    . rw[JO z,Jl _ _ _ λJ=>z ((c.map _).subset J)]
   rw[a0]at G;exact A3z hty (λA y=>a6 A (tT _ y)) T G Y
include hty hsp in
theorem Ek {za0:Zn} {tails:List Nat} {n0:Nat} {nw:Bool} {k:St->Prop} (d:nw=true->za.k0=n0) (c:nw=false->za.b0=0) (f:∀ {a:St} {E:I2} {w:World} {Z:Nat->Prop} {B:Nat->Value},C4 za w0 a E w Z B->C4 za0 w0 a E w Z B):∀ {p:Pl} {pre t:Bool} {a:St} {E:I2} {w:World} {Z:Nat->Prop} {B:Nat->Value},(nw=true->pre=true->za.b0=w.heap.size)->C4 za w0 a E w Z B->S7 cx sp all tails n0 nw p pre t k a->ZA cx.P (RW nw za.b0) all tails (Nx za0 w0 k) p t E w
 | .done,_,_,_,_,_,_,_,_,h,b=>⟨_,_,_,f h,b⟩
 | .q u p,pre,t,a,E,w,Z,B,h,i,b=>by
  simp only[S7]at b;split at b
  . rename_i r n;obtain⟨o,b⟩:=B9 b;refine⟨r,n,bU (JK hty (λs g _=>?_) i b) ?_⟩
    . cases nw with
      |false=>exact g
      |true=>
       have g:Below za.b0 w s/\True:=g;rw[h rfl (by simpa using o)]at g;exact⟨g.1,g.2⟩
    . rintro E' ⟨v,Z',B',j,l⟩;exact Ek d c f h j l
  . exact b.elim
 | .p s p,pre,t,a,E,w,Z,B,o,h,b=>by
  simp only[S7]at b;split at b
  . rename_i r n;obtain⟨g,b⟩:=B9 b;refine⟨r,n,bU (JK hty (λv _ j=>by rw[j]at g;cases g) h b) ?_⟩;rintro E' ⟨u,Z',B',i,l⟩;exact Ek d c f o i l
  . exact b.elim
 | .e r p,pre,t,a,E,w,Z,B,u,h,b=>by
  simp only[S7]at b;split at b
  . rename_i s n;obtain⟨l,b⟩:=B9 b;refine⟨s,n,O4 ?_ (B1m hty hsp d c (tl:=t||tails.contains r) h l b)⟩;rintro E' x ⟨o,v,Z',B',g,j⟩;exact⟨o,Ek d c f (λ_ i=>by cases i) g j⟩
  . exact b.elim
 | .or s p q,pre,t,a,E,w,Z,B,o,h,b=>by
  simp only[S7]at b;refine⟨?_,Ek d c f o h b.2⟩;have b:=b.1;split at b
  . rename_i u n;obtain⟨l,b⟩:=B9 b;refine⟨u,n,O4 ?_ (B1m hty hsp d c (tl:=t||tails.contains s) h l b)⟩;rintro E' x ⟨r,v,Z',B',g,j⟩;exact⟨r,Ek d c f (λ_ i=>by cases i) g j⟩
  . exact b.elim
 | .al y z p,pre,t,a,E,w,Z,B,x,l,b=>by
  simp only[S7]at b;obtain⟨u,b⟩:=B9 b;obtain⟨h,X,g⟩:=B4r (nw:=nw) hty u l b;refine⟨h,X,g.one,g.rel,λv s=>?_⟩;obtain⟨F,i,j,A,Z',B',n,r⟩:=g.fin v s;exact⟨F,i,j,Ek d c f (λ_ o=>by cases o) n r⟩
theorem C4.marked {a:St} {E:I2} {w:World} {Z:Nat->Prop} {B:Nat->Value} (h:C4 za w0 a E w Z B):C4 {za with k0:=a.nx,b0:=w.heap.size} w0 a E w Z B:=
 ⟨h.ext,h.zlt,h.slots,h.locs,h.disj,h.refs,h.refl,h.fresh,h.bone,h.zin,h.nms,h.bfix,⟨qV _,λk d c b=>by
  have:a.L k= .none:=h.fresh k c;rw[this]at b;exact b.elim⟩,h.frs,h.frf⟩
theorem C4.unmark {k0 b0:Nat} (a:za.b0=0) {b:St} {E:I2} {w:World} {Z:Nat->Prop} {B:Nat->Value} (h:C4 {za with k0:=k0,b0:=b0} w0 b E w Z B):C4 za w0 b E w Z B:=
 ⟨h.ext,h.zlt,h.slots,h.locs,h.disj,h.refs,h.refl,h.fresh,h.bone,h.zin,h.nms,h.bfix,⟨by rw[a];exact rP _,λk b _ _=>by rw[a];exact rP _⟩,h.frs,h.frf⟩
end
section
variable {za:Zn} {w0:World} {cx:Cx} {sp:H7} {an:An}
def B8f {A:HR} {b c:St} {p:A.den} {E:I2} {w:World} {Z:Nat->Prop} {B:Nat->Value} (f:za.b0=0) (h:C4 za w0 b E w Z B) (a:gath A b=some (c,p)):∃Z',C4 za w0 c E w Z' B:=by
 simp only[Vc.gath,qI,bind_some]at a;obtain⟨i,_,g,_,tl,_,j,_,a⟩:=a;obtain⟨_,a⟩:=E1 a;cases a;obtain⟨Z0,d⟩:=h.plugL f (l:=A.rowL);exact C4.settleSh d
def C4.mvB (G:za.b0=0) {a:St} {E:I2} {w:World} {Z:Nat->Prop} {B:Nat->Value} (h:C4 za w0 a E w Z B) (q:Nat):∃B',C4 za w0 (Vc.mvB a q) E w Z B':=by
 unfold Vc.mvB;split
 . rename_i k g;split
   . rename_i T j d;cases o:Nat.ble a.nm k with
     |false=>exact⟨B,h⟩
     |true=>
      have o:=qQ o;have R:k<a.nx:=by
       by_cases c:k<a.nx
       . exact c
       . rw[h.fresh k ω]at d;cases d
      have l:=h.locs k;have i:=h.refl k;have N:up za w0 k=up za w0 a.nx:=by
       funext b;have:=h.nms;refine propext ⟨λhh=>?_,λhh=>?_⟩<;>(rcases hh with hh|hh<;>first|exact .inl ⟨ω,hh.2⟩ | (exfalso;omega))
      have J:∀b,B4 w (B k) (.box T j) b->B4 w (B k) (a.L k) b:=λb f=>by rw[d];exact f
      rw[d]at l i;have I:=h.drop k;have r:(a.setL k .none).nx=a.nx:=rfl;have A:=I.new (v:=B k) (lc:= .box T j) (by
       rw[r, <-N];obtain⟨b,P,t,u,x,y,z⟩:=l;exact⟨b,P,by rw[C0];exact t,u,x,y,z.mono (n:=a.nx) (λ_=>id) (λ_ _=>rfl) (λq g=>C5 _ _ _ _ (uD g)) i⟩) (λO b f c=>by
       rw[St.L_setL]at c;split at c
       . exact c.elim
       . rename_i M;exact h.disj k O b (Ne.symm M) (J b f) c) (AX.le (uH _) i) (h.bone k) (λb _ _=>by rw[G];exact rP _)
      refine⟨_,A.setSame q ?_ ?_⟩
      . have s:=h.slots q;rw[g]at s;obtain⟨v,U,e,D,F⟩:=(show Dp w Z B [.box k 0] [E q]from s);cases e;exact⟨_,_,rfl,(by
         obtain⟨b,c,t⟩:=D;exact⟨b,by rw[r,C0];exact c,t⟩),F⟩
      . intro Q H;cases qK.1 H;exact rM _
   . exact⟨B,h⟩
 . exact⟨B,h⟩
def C4.mvBs (a:za.b0=0):∀(qs:List Nat) {b:St} {E:I2} {w:World} {Z:Nat->Prop} {B:Nat->Value},C4 za w0 b E w Z B->∃B',C4 za w0 (qs.foldl Vc.mvB b) E w Z B'
 | [],_,_,_,_,B,h=>⟨B,h⟩
 |q::qs,_,_,_,_,_,h=>by
  obtain⟨B',b⟩:=C4.mvB a h q;exact C4.mvBs a qs b
def post (za:Zn) (w0:World) (k:K):Exit->I2->World->Prop:=λe E w=>Nx za w0 (k.at e) E w
variable (hty:H5 cx.P cx.tys=true) (hsp:Ur cx.P sp)
include hty hsp in
theorem B1l (f:za.b0=0) {n:Nat} :∀ {c:Code} {k:K} {a:St} {E:I2} {w:World} {Z:Nat->Prop} {B:Nat->Value},C4 za w0 a E w Z B->Pd cx sp an c k a->Gw.Wp cx.P n c (post za w0 k) E w:=by
 intro c
 induction c with
 |skip=>intro k a E w Z B h d _ g b;exact wp_skip ⟨E,b,a,Z,B,h,d⟩
 |label l=>intro k a E w Z B h d _ g b;exact wp_label ⟨E,b,a,Z,B,h,d⟩
 |exit i=>intro k a E w Z B h d _ g b;exact wp_exit ⟨E,b,a,Z,B,h,d⟩
 |ret=>intro k a E w Z B h d _ g b;exact wp_ret ⟨E,b,a,Z,B,h,d⟩
 |region id ops H=>
  intro k a E w Z B h b u i D;simp only[Cz]at u;simp only[Pd]at b;have z:ops=ops.toList.toArray:=by simp
  cases H with
  |false=>
   simp only[rK]at b;rw[z];refine wp_region ?_;have:=bM (P:=cx.P) (Q:=post za w0 k) u ops.toList 0 (by simp) i E w D (kD f hty hsp h b);simpa[g3p]using this
  |true=>
   simp only[qX]at b;split at b
   . rename_i M tails nw O _;generalize C7g ops.toList M tails nw O=p at b;obtain⟨g,b⟩:=B9 b;simp only[qC]at g;obtain⟨g,N⟩:=g;simp only[C7c,qC]at g;refine wp_mono (Q:=FR n (post za w0 {k with n:=mvs an id k.n})) ?_ (λe T w' d=>?_)
     rotate_left
     . obtain⟨E',o,s,Z',B',l,d⟩:=d;cases e with
       |normal=>
        change mvs an id k.n s at d;cases j:Ez id an.mv with
        |none=>simp only[mvs,j]at d;exact⟨E',o,s,Z',B',l,d⟩
        |some qs=>
         simp only[mvs,j]at d;obtain⟨B2,F⟩:=C4.mvBs f qs l;exact⟨E',o,_,Z',B2,F,d⟩
       |exit j=>exact⟨E',o,s,Z',B',l,d⟩
       |ret=>exact⟨E',o,s,Z',B',l,d⟩
       | _=>exact d.elim
     rw[z];refine wp_region_any N (eJ (S:=λ_=>True) (tails:=tails) _ _ _ _ ?_);have y:H6 tails (Array.replicate ops.toList.length false)=false:=by
      unfold H6;rw[g0h];intro x _;simp only[yS,zM];split<;>simp
     have v:=h.more (Z':=Z) (w':=w.drew) (R8.refl w).drew (λ_ h=>h) (λ_=> .inl);have fin:∀b0,ZA cx.P (RW nw b0) ops.toList tails (Nx za w0 (mvs an id k.n)) p false E w.drew->Ab cx.P ops.toList.toArray (FR n (post za w0 {k with n:=mvs an id k.n})) (RW nw b0 w.drew) tails ops.toList.length (Array.replicate ops.toList.length false) i w.drew:=λb0 hd=>
      B7m (P:=cx.P) (R:=RW nw b0) (RW.refl nw _) (λi G=>i.trans G) (Q:=post za w0 {k with n:=mvs an id k.n}) u g.1.1 g.1.2 (λc E w j=>by obtain⟨_,_,_,_,j⟩:=j;exact j) p ops.toList.length _ none g.2 ⟨A0t _ _,λF=>by rw[y]at F;cases F⟩ false y.symm i E w.drew D (λ_ j=>by cases j) hd
     cases nw with
     |true=>
      have:=fin _ (Ek (za0:=za) (nw:=true) hty hsp (n0:=a.nx) (λ_=>rfl) (λj=>by cases j) (λh=>h.unmark f) (λ_ _=>rfl) v.marked b);simpa using Ky (S':=λ_=>True) (λ_ _=>trivial) _ _ _ _ this
     |false=>
      have:=fin _ (Ek (za0:=za) (nw:=false) hty hsp (n0:=a.nx) (λj=>by cases j) (λ_=>f) (λh=>h) (λj=>by cases j) v b);simpa using Ky (S':=λ_=>True) (λ_ _=>trivial) _ _ _ _ this
   . exact b.elim
 |seq O T y z=>
  intro k a E w Z B s l i u v;simp only[Cz,qC]at i;simp only[Pd]at l;split at l
  . rename_i A _;obtain⟨J,D,G⟩:=l;have F:=SH (k':= {n:=λd=>C3 a d/\PU A a J d,x:=k.x,r:=k.r}) D (λe d ev j=>by
     cases e with
     |normal=>exact⟨ev,j⟩
     |exit H=>exact j
     |ret=>exact j
     | _=>exact j)
    refine wp_seq (wp_mono (y s F i.1 u v) ?_);rintro e o w' ⟨E',h,d,Z',B',g,b⟩;cases e with
    |normal=>
     obtain⟨p,N,M,Z2,B2,H⟩:=gP f g b.2 s.pure b.1;exact z H (G p N M) i.2 o h
    |exit H=>exact⟨E',h,d,Z',B',g,b⟩
    |ret=>exact⟨E',h,d,Z',B',g,b⟩
    | _=>exact b.elim
  . refine wp_seq (wp_mono (y s l i.1 u v) ?_);rintro e o w' ⟨E',h,d,Z',B',g,b⟩;cases e with
    |normal=>exact z g b i.2 o h
    |exit H=>exact⟨E',h,d,Z',B',g,b⟩
    |ret=>exact⟨E',h,d,Z',B',g,b⟩
    | _=>exact b.elim
 |cond c x z u v=>
  intro k a E w Z B h b d i g;simp only[Cz,qC]at d;simp only[Pd]at b;split at b
  . rename_i e j;obtain⟨y,l,o⟩:=bind_some.1 j;have s:=Sa (h.ev (F5 E) l).1 o;refine wp_cond (t:=e) (by rw[g.ev];exact s) ?_;cases e with
    |true=>exact u h (b.1 rfl) d.1 i g
    |false=>exact v h (b.2 rfl) d.2 i g
  . exact b.elim
 |block id c v=>
  intro k a E w Z B l u o j s;refine wp_block (wp_mono (v l u o j s) ?_);rintro e z w' ⟨E',g,h,Z',B',d,b⟩;cases e with
  |normal=>exact⟨E',g,h,Z',B',d,b⟩
  |ret=>exact⟨E',g,h,Z',B',d,b⟩
  |exit y=>
   simp only[Exit.inBlock];simp only[K.at]at b;by_cases i:y=id
   . subst i;simp only[wN];simp at b;exact⟨E',g,h,Z',B',d,b⟩
   . simp only[i,yF];rw[E6 i]at b;exact⟨E',g,h,Z',B',d,b⟩
  | _=>exact b.elim
 |loop c a3=>
  intro k a E w Z B v b F a6 X;simp only[Cz]at F;simp only[Pd]at b;split at b
  . rename_i A _;unfold C7k at b;split at b
    . rename_i l H D;obtain⟨z,b⟩:=B9 b;simp only[qC,uB]at z;obtain⟨I,i,M,N⟩:=b;obtain⟨Z1,G⟩:=B8f f v D;obtain⟨a2,Z2,B2,O⟩:=B0f f v D G.pure (λ_ _=>rfl) (λ_ _=>rfl) (λa4 hy=>Zp (z.1 a4 hy)) rfl;refine wp_loop_ghost (λm o w=>∃p E',i p=m/\Gw.C6 n o E'/\A.wf p/\I p/\∃Z B,C4 za w0 (reflect A l p) E' w Z B) (i H) ⟨H,E,rfl,X,a2,M,Z2,B2,O⟩ ?_;rintro m o w ⟨p,E',a7,Y,a0,W,Z3,B3,T⟩;have U:=SH (k':= {n:=λd=>C3 (reflect A l p) d/\PU A l (λh=>I h/\i h<i p) d,x:=k.x,r:=k.r}) (N p a0 W) (λe d ev j=>by
       cases e with
       |normal=>exact⟨ev,j⟩
       |exit y=>exact j
       |ret=>exact j
       | _=>exact j)
      refine wp_mono (a3 T U F o Y) ?_;rintro e a5 w' ⟨E'',u,d,Z',B',s,g⟩;cases e with
      |normal=>
       obtain⟨h,a1,y,Z5,B5,V⟩:=gP f s g.2 G.pure ((C3.told A l p).trans g.1);exact⟨i h,by have:=y.2;omega,h,E'',rfl,u,a1,y.1,Z5,B5,V⟩
      |exit y=>exact⟨E'',u,d,Z',B',s,g⟩
      |ret=>exact⟨E'',u,d,Z',B',s,g⟩
      | _=>exact g.elim
    . exact b.elim
  . exact b.elim
 | _=>intro k a E w Z B h b;exact b.elim
end
abbrev Bh (α:Type):List α:= []
def AY (cx:Cx) (a:St):List ResultVar->Option (List SV)
 | []=>some []
 | .tmp t::r=>match a.S t with
  | .one s=>(AY cx a r).map (s:: ·)
  | _=>none
 | .cell b T::r=>do
  let ti<-cx.ti T
  match a.S b with
  | .one ⟨false,[.box k 0]⟩=>match a.L k with
   | .box _ b=>bif Nat.beq b.length ti.ty.size then(AY cx a r).map (⟨ti.agg,b⟩:: ·)else none
   | _=>none
  | _=>none
def settleR:St->List RT->List SV->St
 |c, .val _ _::a,s::b=>settleR (settle c s.cs) a b
 |c, .own _ _::a,_::b=>settleR c a b
 |a, .obox _ _::c,s::d=>settleR (match c1 s with
  |some (.box k 0)=>(match a.L k with
   | .box _ b=>settle a b
   | _=>a)
  | _=>a) c d
 |c, .rows _ _ _::a,_::b=>settleR c a b
 |a,_,_=>a
def HB (a:St):(rs:List RT)->List SV->Option (Cf rs)
 | [],[]=>some ()
 | .val b t::rs,s::c=>(Sv b t s).bind λx=>(HB a rs c).map λy=>(x,y)
 | .own t e::rs,s::b=>((c1 s).bind (SD a t e)).bind λx=>(HB a rs b).map λy=>(x,y)
 | .obox T t::rs,s::b=>((gR s).bind λk=>bif Nat.ble a.nm k then A0p a T t k else none).bind λx=>(HB a rs b).map λy=>(x,y)
 | .rows t e b::rs,s::c=>((Sy s).bind λk=>bif Nat.ble a.nm k then rowsAt a t e b k else none).bind λx=>(HB a rs c).map λy=>(x,y)
 | _,_=>none
def Da:List RT->List SV->List Nat
 | .own _ _::a,⟨false,[.row k]⟩::b=>k::Da a b
 | .obox _ _::a,⟨false,[.box k 0]⟩::b=>k::Da a b
 | .rows _ _ _::a,⟨false,[.row k]⟩::b=>k::Da a b
 | _::a,_::b=>Da a b
 | _,_=> []
def settleM:St->List AM->Nat->St
 |a, .box _ _::r,j=>settleM (match a.L j with| .box _ cs=>settle a cs| _=>a) r (j+1)
 |a, .row _ _::r,j=>settleM a r (j+1)
 |a, .val _ _::r,j=>settleM a r j
 |a, .fn _ _ _::r,j=>settleM a r j
 |a, .rows _ _ _::r,j=>settleM a r (j+1)
 |a,[],_=>a
def fE (a:St):(as:List AM)->Nat->Option (Pb as)
 | [],_=>some ()
 | .row t e::r,j=>(Xi a t e j).bind λx=>(fE a r (j+1)).map λy=>(x,y)
 | .box T t::r,j=>(A0p a T t j).bind λx=>(fE a r (j+1)).map λy=>(x,y)
 | .val _ _::r,j=>fE a r j
 | .fn _ _ _::r,j=>fE a r j
 | .rows t e b::r,j=>(rowsAt a t e b j).bind λx=>(fE a r (j+1)).map λy=>(x,y)
def C6z:AM->Bool
 | .row t _=>Mu t
 | .rows t _ _=>Mu t
 | .box _ t=>Mu t
 | _=>true
def D1h (s:A6) (x:A2 s.args) (r:Cf s.res) (o:Pb s.args):Prop:=bif Q6 s.args then s.post x r/\s.mpost x r o else s.post x r
def fin (cx:Cx) (s:A6) (c:List ResultVar) (x:A2 s.args) (a:St):Prop:=
 match AY cx a c with
 |some b=>match AY cx (settleM (settleR a s.res b) s.args 0) c with
  |some c=>match HB (settleM (settleR a s.res b) s.args 0) s.res c,fE (settleM (settleR a s.res b) s.args 0) s.args 0 with
   |some r,some o=>bif(IQ (Da s.res c)&&Nn s.res)&&(s.shared|| (s.res.all B0b&&s.args.all C6z))then D1h s x r o else False
   | _,_=>False
  |none=>False
 |none=>False
def Iw (P:Program):(as:List AM)->A2 as->Nat->Nat->List (Nat×Nat×DV)
 | [],_,_,_=> []
 | .val a t::r,x,i,j=>(i,1, .one ⟨a,explode t x.1⟩)::Iw P r x.2 (i+1) j
 | .row _ _::r,x,i,j=>(i,1, .one ⟨false,[.row j]⟩)::Iw P r x.2 (i+1) (j+1)
 | .box _ _::r,x,i,j=>(i,1, .one ⟨false,[.box j 0]⟩)::Iw P r x.2 (i+1) (j+1)
 | .rows _ _ _::r,x,i,j=>(i,1, .one ⟨false,[.row j]⟩)::Iw P r x.2 (i+1) (j+1)
 | .fn a c b::r,x,i,j=>(i,1, .one ⟨false,[.fv P a c b x.1.1 x.1.2]⟩)::Iw P r x.2 (i+1) j
def Fa:(as:List AM)->A2 as->Nat->List (Nat×Nat×LC)
 | [],_,_=> []
 | .val _ _::r,x,j=>Fa r x.2 j
 | .fn _ _ _::r,x,j=>Fa r x.2 j
 | .row t e::r,x,j=>(j,1, .row t e x.1)::Fa r x.2 (j+1)
 | .box T t::r,x,j=>(j,1, .box T (explode t x.1))::Fa r x.2 (j+1)
 | .rows t e a::r,x,j=>(j,1, .rows t e a x.1 [] none)::Fa r x.2 (j+1)
def Mb:List AM->Nat
 | []=>0
 | .row _ _::r=>Mb r+1
 | .box _ _::r=>Mb r+1
 | .rows _ _ _::r=>Mb r+1
 | .val _ _::r=>Mb r
 | .fn _ _ _::r=>Mb r
def A6u (P:Program) (as:List AM) (x:A2 as):St:=⟨Iw P as x 0 0,Fa as x 0,Mb as,1,Mb as,[]⟩
def C9t (cx:Cx) (sp:H7) (an:An) (s:A6) (a:List ResultVar) (c:Code) (x:A2 s.args):Prop:=
 Pd cx sp an c ⟨fin cx s a x,λ_ _=>False,fin cx s a x⟩ (A6u cx.P s.args x)
section
variable {za:Zn} {w0 w:World} {Z:Nat->Prop} {B:Nat->Value} {st:St} {E:I2} {cx:Cx} {sp:H7} {an:An}
def A1y (tmps:Array Value):ResultVar->Sem Value
 | .tmp t=>pure (tmps.getD t undef)
 | .cell a t=>do loadVar t (<-asAddr (tmps.getD a undef))
def ND (j:H5 cx.P cx.tys=true) (h:C4 za w0 st E w Z B) {tmps:Array Value} (b:∀t,tmps.getD t undef=E t):∀ {A:List ResultVar} {ss:List SV},AY cx st A=some ss->∃vs,(A.mapM (A1y tmps)).run cx.P w= .ok vs w/\Rt w Z B ss vs
 | [],ss,a=>by cases a;exact⟨[],rfl,rfl⟩
 | .tmp t::r,ss,a=>by
  simp only[AY]at a;split at a
  . rename_i s g;simp only[qP]at a;obtain⟨k,i,rfl⟩:=a;obtain⟨vs,d,f⟩:=ND j h b i;have c:=h.slots t;rw[g]at c;refine⟨E t::vs,?_,E t,vs,rfl,c,f⟩;rw[wW];simp only[A1y,b,Sem.run_bind,Sem.run_pure,Result.andThen_ok,d]
  . cases a
 | .cell D T::a1,ss,a=>by
  simp only[AY,qI,bind_some]at a;obtain⟨ti,W,a⟩:=a;split at a
  . rename_i X N;split at a
    . rename_i T' a0 O;obtain⟨J,a⟩:=E1 a;simp only[qP]at a;obtain⟨a2,R,rfl⟩:=a;obtain⟨vs,r,s⟩:=ND j h b R;have Q:=qE J;have y:=h.slots D;rw[N]at y;obtain⟨_,_,F,⟨l,G,n⟩,_⟩:=y;cases F;have v:=h.locs X;rw[O]at v;obtain⟨Y,c,o,_,_,x,d⟩:=v;rw[G]at o;cases o;have k:c.toList.length=ti.ty.size:=by rw[<-Q,d.len]
      rcases(M8 (C2 j W)).2.1 with⟨i,I⟩ | ⟨i,V,U⟩
      . refine⟨.agg c.toList.toArray::vs,?_,_,vs,rfl,by rw[i];exact⟨c.toList,rfl,d⟩,s⟩;obtain⟨f,H⟩:=Rh (P:=cx.P) (w:=w) I;have g:=run_loadCells_list (P:=cx.P) (w:=w) ⟨l,0,none⟩ c.toList x.cellsAt;rw[k]at g;unfold loadCells at g;rw[wW];simp[A1y,b,n,asAddr,loadVar,f,H,g,r,go_sem]
      . rw[U]at k
        match z:c.toList,k with
        | [u],_=>
         rw[z]at d;have M:w.cell? ⟨l,0,none⟩=some u:=by
          have:=x.cellsAt 0 u (by rw[z];rfl);rwa[L5]at this
         refine⟨u::vs,?_,u,vs,rfl,by rw[i];exact d,s⟩;have f:=Jm (P:=cx.P) (w:=w) V;rw[wW];simp[A1y,b,n,asAddr,loadVar,f,M,r,go_sem]
    . cases a
  . cases a
def C4.settleR:∀ {rs:List RT} {ss:List SV} {st:St} {Z:Nat->Prop},C4 za w0 st E w Z B->∃Z',C4 za w0 (settleR st rs ss) E w Z' B
 | .val _ _::rs,s::ss,st,Z,h=>by
  obtain⟨Z1,a⟩:=h.settle s.cs;exact C4.settleR (rs:=rs) (ss:=ss) a
 | .own _ _::rs,_::ss,st,Z,h=>C4.settleR (rs:=rs) (ss:=ss) h
 | .obox _ _::rs,s::ss,st,Z,h=>by
  simp only[Vc.settleR];split
  . split
    . obtain⟨Z1,a⟩:=h.settle _;exact C4.settleR (rs:=rs) (ss:=ss) a
    . exact C4.settleR (rs:=rs) (ss:=ss) h
  . exact C4.settleR (rs:=rs) (ss:=ss) h
 | [],_,st,Z,h=>⟨Z,h⟩
 | .val _ _:: _,[],st,Z,h=>⟨Z,h⟩
 | .own _ _:: _,[],st,Z,h=>⟨Z,h⟩
 | .obox _ _:: _,[],st,Z,h=>⟨Z,h⟩
 | .rows _ _ _::rs,_::ss,st,Z,h=>C4.settleR (rs:=rs) (ss:=ss) h
 | .rows _ _ _:: _,[],st,Z,h=>⟨Z,h⟩
def Su (h:C4 za w0 st E w Z B) {Zn:Nat->Prop} (f:∀b,Zn b->Z b):∀ {rs:List RT} {ss:List SV} {vs:List Value} {r:Cf rs},((∀b,Z b->Zn b)\/rs.all B0b=true)->Rt w Z B ss vs->HB st rs ss=some r->(Da rs ss).Nodup->Nn rs=true->
 Ph w0.heap.size w Zn rs vs r/\∀u∈Y0 rs vs,∀b,root u=some b->∃k∈Da rs ss,B4 w (B k) (st.L k) b
 | [],[],vs,_,_,a,_,_,_=>⟨a,λu c=>by simp[Y0]at c⟩
 | [],_:: _,_,_,_,_,a,_,_=>by cases a
 | .val _ _:: _,[],_,_,_,_,a,_,_=>by cases a
 | .own _ _:: _,[],_,_,_,_,a,_,_=>by cases a
 | .obox _ _:: _,[],_,_,_,_,a,_,_=>by cases a
 | .rows _ _ _:: _,[],_,_,_,_,a,_,_=>by cases a
 | .rows v n o::rs,ac::ss,_,r,c,⟨ad,ae,e,Q,R⟩,A,z,F=>by
  simp only[HB,bind_some,qP]at A;obtain⟨G,⟨q,l,s⟩,ai,g,rfl⟩:=A;subst e;obtain⟨a2,s⟩:=E1 s;have ah:=qQ a2;have X:ac=⟨false,[.row q]⟩:=by
   unfold Sy at l;split at l
   . cases l;rfl
   . cases l
  subst X;obtain⟨_,_,N,t,_⟩:=Q;cases N;have t:ad=B q:=t;subst t;obtain⟨al,D⟩:=Ah s;have x:=h.locs q;rw[D]at x;have U:=x.rowsR;have y:∀b,B4 w (B q) (.rows v n o G [] none) b->B4 w (B q) (st.L q) b:=λb a=>by rw[D];exact(X2 λ_ _=>rfl).1 a
  simp only[Nn,Ca,Qv,qC,zP,wI,rO]at F;obtain⟨⟨aa,H⟩,ab⟩:=F;have Y:Da (.rows v n o::rs) (⟨false,[.row q]⟩::ss)=q::Da rs ss:=rfl;rw[Y]at z|-;have a1:=sK.1 z;obtain⟨O,P⟩:=Su h f (c.imp id λj=>by simp only[tN,qC]at j;exact j.2) R g a1.2 ab;have V:Dd w Zn v n o (B q) G:=by
   obtain⟨ag,a6,a7,a8,a9⟩:=U;refine⟨ag,a6,λa5 I af W a3=>(a7 a5 I af W a3).imp λaj g=>⟨g.1,?_⟩,a8,a9⟩;rcases c with c|c
   . exact g.2.mono λ_ _=>C6.mono c (λ_ _=>rfl)
   . simp only[tN,qC]at c;exact g.2.mono λ_ _ j=>C6.flat c.1 j
  refine⟨⟨B q,ae,rfl,⟨V,λb a=>?_⟩,λ_=>⟨⟨aa,λ_=>H⟩,λb a u d=>by rw[Wb H]at d;cases d⟩,O⟩,λu d b a=>?_⟩
  . obtain⟨i,J,M⟩:=(h.locs q).root (y b a);refine⟨?_,λa4=>M (f b a4),J⟩;rcases i with i|i
    . exact i.2
    . have:=h.nms.1;omega
  . simp only[Y0,qS]at d;rcases d with rfl|d
    . exact⟨q,by simp,y b (.inl a)⟩
    . obtain⟨k,a0,r⟩:=P u d b a;exact⟨k,qO _ a0,r⟩
 | .val g F::rs,s::ss,_,r,a,⟨v,G,e,t,x⟩,j,i,l=>by
  simp only[Nn,qC]at l;obtain⟨H,z⟩:=l;simp only[HB,bind_some,qP]at j;obtain⟨M,A,N,D,rfl⟩:=j;have y:Da (.val g F::rs) (s::ss)=Da rs ss:=by
   obtain⟨I,J⟩:=s;simp only[Da]
  rw[y]at i|-;obtain⟨n,o⟩:=Su h f (a.imp id λd=>by simp only[tN,qC]at d;exact d.2) x D i z;subst e;refine⟨⟨v,G,rfl,?_,λd=>(by cases d),n⟩,o⟩;have c:=Fj t A;rcases a with a|a
  . exact c.mono a (λ_ _=>rfl)
  . simp only[tN,qC]at a;cases g with
    |true=>obtain⟨cs,e,c⟩:=c;exact⟨cs,e,C6.flat a.1 c⟩
    |false=>exact C6.flat (cs:= [v]) a.1 c
 | .own y D::rs,ab::ss,_,r,g,⟨z,V,e,X,F⟩,M,l,P=>by
  simp only[Nn,Ca,Qv,qC,zP,wI,g1n,g1i,Bool.and_true,rO]at P;obtain⟨N,O⟩:=P;simp only[HB,bind_some,qP]at M;obtain⟨a8,⟨n,j,a0⟩,ac,R,rfl⟩:=M;subst e;have Y:ab=⟨false,[n]⟩:=by
   unfold c1 at j;split at j
   . cases j;rfl
   . cases j
  subst Y;obtain⟨_,_,W,a4,_⟩:=X;cases W;obtain⟨A,x,U,a9,aa⟩:=SE h a4 a0;have a6:=E3 x;have G:G3 (C6 y w Zn) A a8:=by
   rcases g with g|g
   . exact U.mono λ_ _=>C6.mono g (λ_ _=>rfl)
   . simp only[tN,qC]at g;exact U.mono λ_ _ d=>C6.flat g.1 d
  have H:(∀b,Z b->Zn b)\/rs.all B0b=true:=g.imp id λd=>by simp only[tN,qC]at d;exact d.2
  rcases aa with⟨q,rfl,I,Q⟩ | ⟨a2,a1⟩
  . have s:Da (.own y D::rs) (⟨false,[.row q]⟩::ss)=q::Da rs ss:=rfl;rw[s]at l|-;have J:=sK.1 l;obtain⟨o,i⟩:=Su h f H F R J.2 O;refine⟨⟨z,V,rfl,⟨A,x,G,λb a a7=>a9 b a (f b a7)⟩,λ_=>⟨⟨N,λd=>(by cases d)⟩,λb a u c hub=>?_⟩,o⟩,λu c b a=>?_⟩
    . obtain⟨k,t,a5⟩:=i u c b hub;have a3:root (B q)=some b:=by rw[<-Q];exact a
      exact h.disj q k b (λd=>J.1 (d▸t)) (B4.of I a3) a5
    . simp only[Y0,qS]at c;rcases c with rfl|c
      . exact⟨q,by simp,B4.of I (by rw[<-Q];exact a)⟩
      . obtain⟨k,t,r⟩:=i u c b a;exact⟨k,qO _ t,r⟩
  . have s:Da (.own y D::rs) (⟨false,[n]⟩::ss)=Da rs ss:=by cases n<;>first|rfl|exact absurd rfl (a1 _)
    rw[s]at l|-;obtain⟨o,i⟩:=Su h f H F R l O;have v:∀b,root z≠some b:=λb a=>by rw[a2]at a;cases a
    refine⟨⟨z,V,rfl,⟨A,x,G,λb a=>absurd (a6.trans a) (v b)⟩,λ_=>⟨⟨N,λd=>(by cases d)⟩,λb a=>absurd a (v b)⟩,o⟩,λu c b a=>?_⟩;simp only[Y0,qS]at c;rcases c with rfl|c
    . exact absurd a (v b)
    . exact i u c b a
 | .obox T M::rs,ab::ss,_,r,a,⟨ac,ad,e,V,W⟩,G,D,J=>by
  simp only[Nn,Ca,Qv,qC,zP,wI,g1n,g1i,Bool.and_true,rO]at J;obtain⟨a5,a6⟩:=J;simp only[HB,bind_some,qP]at G;obtain⟨ae,⟨q,l,t⟩,ag,a9,rfl⟩:=G;subst e;obtain⟨a3,t⟩:=E1 t;have a0:ab=⟨false,[.box q 0]⟩:=by
   unfold gR at l;split at l
   . cases l;rfl
   . cases l
  subst a0;obtain⟨_,_,R,⟨i,x,o⟩,_⟩:=V;cases R;obtain⟨cs,H,a4⟩:=Zq t;have z:=h.locs q;rw[H]at z;obtain⟨af,N,v,j,O,P,Q⟩:=z;rw[v]at x;cases x;have I:=Hv Q a4;have a7:C6 M w Zn N.toList ae:=by
   rcases a with a|a
   . exact C6.mono a (λ_ _=>rfl) I
   . simp only[tN,qC]at a;exact C6.flat a.1 I
  have a1:(∀b,Z b->Zn b)\/rs.all B0b=true:=a.imp id λd=>by simp only[tN,qC]at d;exact d.2
  have a2:Da (.obox T M::rs) (⟨false,[.box q 0]⟩::ss)=q::Da rs ss:=rfl;rw[a2]at D|-;have F:=sK.1 D;obtain⟨U,y⟩:=Su h f a1 W a9 F.2 a6;have X:w0.heap.size<=i:=by
   rcases j with j|j
   . exact j.2
   . have:=h.nms.1;have:=qQ a3;omega
  have A:∀n,root (Value.pointer (some ⟨i,0,none⟩))=some n->B4 w (B q) (st.L q) n:=λn Y=>by rw[H,v];exact Y
  refine⟨⟨ac,ad,rfl,⟨i,N,o,X,λaa=>O (f i aa),P,a7⟩,λ_=>⟨⟨a5,λd=>(by cases d)⟩,λb c u g hub=>?_⟩,U⟩,λu g b c=>?_⟩
  . obtain⟨k,s,a8⟩:=y u g b hub;rw[o]at c;exact h.disj q k b (λd=>F.1 (d▸s)) (A b c) a8
  . simp only[Y0,qS]at g;rcases g with rfl|g
    . rw[o]at c;exact⟨q,by simp,A b c⟩
    . obtain⟨k,s,r⟩:=y u g b c;exact⟨k,qO _ s,r⟩
def C4.settleM:∀ {as:List AM} {st:St} {j:Nat} {Z:Nat->Prop},C4 za w0 st E w Z B->∃Z',C4 za w0 (settleM st as j) E w Z' B
 | [],st,_,Z,h=>⟨Z,h⟩
 | .row _ _::r,st,j,Z,h=>C4.settleM (as:=r) h
 | .val _ _::r,st,j,Z,h=>C4.settleM (as:=r) h
 | .fn _ _ _::r,st,j,Z,h=>C4.settleM (as:=r) h
 | .rows _ _ _::r,st,j,Z,h=>C4.settleM (as:=r) h
 | .box _ _::r,st,j,Z,h=>by
  simp only[Vc.settleM];split
  . obtain⟨Z1,a⟩:=h.settle _;exact C4.settleM (as:=r) a
  . exact C4.settleM (as:=r) h
def EC (h:C4 za w0 st E w Z B) {Zn:Nat->Prop} :∀ {as:List AM} {vs:List Value} {o:Pb as} {j:Nat},((∀b,Z b->Zn b)\/as.all C6z=true)->(∀m u,(D6 as vs)[m]? =some u->B (j+m)=u)->(∀m p,(Q7 as vs)[m]? =some p->∀b,up za w0 (j+m) b->B4 w0 p.2 (lcA p.1) b)->vs.length=as.length->fE st as j=some o->Yc w0 w Zn as vs o
 | [],_,_,_,_,_,_,_,_=>trivial
 |a::r,[],_,_,_,_,_,c,_=>by simp at c
 | .val _ _::r,v::vs,o,j,g,d,f,i,k=>EC (as:=r) h (g.imp id λc=>by simp only[tN,qC]at c;exact c.2) d f (by simpa using i) k
 | .fn _ _ _::r,v::vs,o,j,g,d,f,i,k=>EC (as:=r) h (g.imp id λc=>by simp only[tN,qC]at c;exact c.2) d f (by simpa using i) k
 | .row D e::z,v::vs,o,j,c,k,s,t,n=>by
  simp only[fE,bind_some,qP]at n;obtain⟨F,x,G,y,rfl⟩:=n;have r:B j=v:=k 0 v (by simp[D6,L6]);have l:=h.locs j;rw[Kd x]at l;obtain⟨A,g,i,_⟩:=l;rw[r]at g;refine⟨⟨A,g,?_⟩,EC (as:=z) h (c.imp id λd=>by simp only[tN,qC]at d;exact d.2) (λm u f=>by rw[(ω:j+1+m=j+(m+1))];exact k (m+1) u (by simpa[D6,L6]using f)) (λm p f=>by rw[(ω:j+1+m=j+(m+1))];exact s (m+1) p (by simpa[Q7,L6]using f)) (by simpa using t) y⟩;rcases c with c|c
  . exact i.mono λ_ _=>C6.mono c (λ_ _=>rfl)
  . simp only[tN,qC]at c;exact i.mono λ_ _ d=>C6.flat c.1 d
 | .box T I::F,v::vs,o,j,c,g,t,y,l=>by
  simp only[fE,bind_some,qP]at l;obtain⟨J,A,M,D,rfl⟩:=l;have s:B j=v:=g 0 v (by simp[D6,L6]);obtain⟨H,x,z⟩:=Zq A;have i:=h.locs j;rw[x]at i;obtain⟨b,G,f,_,_,n,r⟩:=i;rw[s]at f;refine⟨⟨b,G,f,n,?_⟩,EC (as:=F) h (c.imp id λk=>by simp only[tN,qC]at k;exact k.2) (λm u d=>by rw[(ω:j+1+m=j+(m+1))];exact g (m+1) u (by simpa[D6,L6]using d)) (λm p d=>by rw[(ω:j+1+m=j+(m+1))];exact t (m+1) p (by simpa[Q7,L6]using d)) (by simpa using y) D⟩;have:=Hv r z;rcases c with c|c
  . exact C6.mono c (λ_ _=>rfl) this
  . simp only[tN,qC]at c;exact C6.flat c.1 this
 | .rows P e A::O,v::vs,o,j,c,n,t,i,y=>by
  simp only[fE,bind_some,qP]at y;obtain⟨z,l,R,f,rfl⟩:=y;have r:B j=v:=n 0 v (by simp[D6,L6]);have s:=h.locs j;obtain⟨al,x⟩:=Ah l;rw[x]at s;have g:=s.rowsR;rw[r]at g;refine⟨⟨?_,λb I=>?_⟩,EC (as:=O) h (c.imp id λd=>by simp only[tN,qC]at d;exact d.2) (λm u k=>by rw[(ω:j+1+m=j+(m+1))];exact n (m+1) u (by simpa[D6,L6]using k)) (λm p k=>by rw[(ω:j+1+m=j+(m+1))];exact t (m+1) p (by simpa[Q7,L6]using k)) (by simpa using i) f⟩
  . rcases c with c|c
    . exact g.mono c
    . simp only[tN,qC]at c;obtain⟨Q,D,F,G,H⟩:=g;exact⟨Q,D,λM N z i l=>(F M N z i l).imp λU f=>⟨f.1,f.2.mono λ_ _ d=>C6.flat c.1 d⟩,G,H⟩
  . have J:B4 w (B j) (st.L j) b:=by rw[x,r];exact(X2 λ_ _=>rfl).1 I
    exact t 0 (.rows P e A,v) (by simp[Q7,L6]) b ((h.locs j).root J).1
variable {P:Program}
def Jf {n:Nat} :∀ {as:List AM} {vs:List Value} {x:A2 as} {i j s:Nat},Bl P w Z as vs x->i<=s->(∀m u,(D6 as vs)[m]? =some u->B (j+m)=u)->j+Mb as<=n->RD w Z B E (find (0, .dead) s (Iw P as x i j)).2 ((vs[s-i]?).getD undef)/\NC n (find (0, .dead) s (Iw P as x i j)).2
 | [],_,_,_,_,_,_,_,_,_=>⟨trivial,trivial⟩
 |a::z,_,x,i,j,s,⟨v,F,e,g,f⟩,y,b,c=>by
  subst e;by_cases d:i=s
  . subst d;cases a with
    |val a t=>
     simp only[Iw,find,yJ,qX,xF];exact⟨Cy.explode g,F1⟩
    |row t e=>
     simp only[Iw,find,yJ,qX,xF];have k:B j=v:=b 0 v (by simp[D6,L6]);exact⟨⟨v,[],rfl,k.symm,rfl⟩,λl h=>by simp at h;subst h;simp only[Mb]at c;show j<n;omega⟩
    |box T A=>
     simp only[Iw,find,yJ,qX,xF];have o:B j=v:=b 0 v (by simp[D6,L6]);obtain⟨l,D,h,_⟩:=g;exact⟨⟨v,[],rfl,⟨l,o.trans h,h⟩,rfl⟩,λt k=>by simp at k;subst k;simp only[Mb]at c;show j<n;omega⟩
    |rows t e o=>
     simp only[Iw,find,yJ,qX,xF];have k:B j=v:=b 0 v (by simp[D6,L6]);exact⟨⟨v,[],rfl,k.symm,rfl⟩,λl h=>by simp at h;subst h;simp only[Mb]at c;show j<n;omega⟩
    |fn k o=>
     simp only[Iw,find,yJ,qX,xF];exact⟨⟨v,[],rfl,g,rfl⟩,λl h=>by simp at h;subst h;trivial⟩
  . have r:s-i=(s-(i+1))+1:=ω
    rw[r];cases a with
    |val a t=>
     simp only[Iw,find,E6 d,rK,uU];exact Jf (i:=i+1) (s:=s) f ω b c
    |fn h k=>
     simp only[Iw,find,E6 d,rK,uU];exact Jf (i:=i+1) (s:=s) f ω b c
    |row t e=>
     simp only[Iw,find,E6 d,rK,uU];exact Jf (i:=i+1) (s:=s) f ω (λm u h=>by rw[(ω:j+1+m=j+(m+1))];exact b (m+1) u (by simpa[D6,L6]using h)) (by simp only[Mb]at c;omega)
    |box t e=>
     simp only[Iw,find,E6 d,rK,uU];exact Jf (i:=i+1) (s:=s) f ω (λm u h=>by rw[(ω:j+1+m=j+(m+1))];exact b (m+1) u (by simpa[D6,L6]using h)) (by simp only[Mb]at c;omega)
    |rows t e k=>
     simp only[Iw,find,E6 d,rK,uU];exact Jf (i:=i+1) (s:=s) f ω (λm u h=>by rw[(ω:j+1+m=j+(m+1))];exact b (m+1) u (by simpa[D6,L6]using h)) (by simp only[Mb]at c;omega)
def A6v {n:Nat} {U:Nat->Nat->Prop} :∀ {as:List AM} {vs:List Value} {x:A2 as} {j k:Nat},Bl P w Z as vs x->(∀m p,(Q7 as vs)[m]? =some p->B (j+m)=p.2/\∀b,B4 w p.2 (lcA p.1) b->U (j+m) b)->
 RL (U k) w Z B k (find (0, .none) k (Fa as x j)).2/\AX n (find (0, .none) k (Fa as x j)).2/\(live (find (0, .none) k (Fa as x j)).2->j<=k/\∃p,(Q7 as vs)[k-j]? =some p/\∀b,B4 w (B k) (find (0, .none) k (Fa as x j)).2 b->B4 w p.2 (lcA p.1) b):=by
 intro as
 induction as with
 |nil=>intro _ _ _ _ _ _;exact⟨trivial,trivial,λh=>h.elim⟩
 |cons f r o=>
  intro vs x j k D c;obtain⟨v,y,e,h,i⟩:=D;subst e;have l:L6 f=true->j≠k->RL (U k) w Z B k (find (0, .none) k (Fa r x.2 (j+1))).2/\AX n (find (0, .none) k (Fa r x.2 (j+1))).2/\(live (find (0, .none) k (Fa r x.2 (j+1))).2->j<=k/\∃p,(Q7 (f::r) (v::y))[k-j]? =some p/\∀b,B4 w (B k) (find (0, .none) k (Fa r x.2 (j+1))).2 b->B4 w p.2 (lcA p.1) b):=λhm a=>by
   obtain⟨t,u,g⟩:=o (vs:=y) (x:=x.2) (j:=j+1) (k:=k) i (λm p s=>by rw[(ω:j+1+m=j+(m+1))];exact c (m+1) p (by simpa[Q7,hm]using s));refine⟨t,u,λd=>⟨by have:=(g d).1;omega,?_⟩⟩;obtain⟨E,p,z,A⟩:=g d;refine⟨p,?_,A⟩;rw[(ω:k-j=(k-(j+1))+1)];simpa[Q7,hm]using z
  cases f with
  |val f t=>exact o (x:=x.2) i c
  |fn f t=>exact o (x:=x.2) i c
  |row u s=>
   simp only[Fa,find];by_cases a:j=k
   . subst a;simp only[yJ,qX];obtain⟨g,E⟩:=c 0 (.row u s,v) (by simp[Q7,L6]);obtain⟨F,t,z,A⟩:=h;have g:B j=v:=g;refine⟨⟨F,by rw[g];exact t,z,λb d=>?_⟩,trivial,λ_=>⟨qV _,(.row u s,v),by simp[Q7,L6],λb d=>by rw[g]at d;exact d⟩⟩;rw[g]at d;exact⟨E b ((E3 t).trans d),A b d⟩
   . simp only[E6 a,rK];exact l rfl a
  |box T t=>
   simp only[Fa,find];by_cases a:j=k
   . subst a;simp only[yJ,qX];obtain⟨d,E⟩:=c 0 (.box T t,v) (by simp[Q7,L6]);obtain⟨b,F,g,u,z,A⟩:=h;have d:B j=v:=d;exact⟨⟨b,F,d.trans g,E b (by rw[g];rfl),u,z,V3 A⟩,F1,λ_=>⟨qV _,(.box T t,v),by simp[Q7,L6],λb s=>by rw[d]at s;exact s⟩⟩
   . simp only[E6 a,rK];exact l rfl a
  |rows u s t=>
   simp only[Fa,find];by_cases a:j=k
   . subst a;simp only[yJ,qX];obtain⟨g,E⟩:=c 0 (.rows u s t,v) (by simp[Q7,L6]);obtain⟨z,A⟩:=h;have g:B j=v:=g;refine⟨Dd.rl (by rw[g];exact z) λb d=>?_,λp F=>(by cases F),λ_=>⟨qV _,(.rows u s t,v),by simp[Q7,L6],λb d=>by rw[g]at d;exact(X2 λ_ _=>rfl).1 d⟩⟩;rw[g]at d;exact⟨E b ((X2 λ_ _=>rfl).1 d),A b d⟩
   . simp only[E6 a,rK];exact l rfl a
def Bl.len:∀ {as:List AM} {vs:List Value} {x:A2 as},Bl P w Z as vs x->vs.length=as.length
 | [],_,_,h=>by rw[show _= _ from h];rfl
 | _:: _,_,_,⟨v,b,e,_,a⟩=>by rw[e,rI,rI,Bl.len a]
def Bm:∀ {as:List AM} {vs:List Value},vs.length=as.length->(D6 as vs).length=Mb as
 | [],vs,_=>by cases vs<;>rfl
 |a::r,[],h=>by simp at h
 | .val _ _::r,v::vs,h=>Bm (as:=r) (by simpa using h)
 | .fn _ _ _::r,v::vs,h=>Bm (as:=r) (by simpa using h)
 | .row _ _::r,v::vs,h=>by simp only[D6,L6,qX,rI,Mb];rw[Bm (as:=r) (by simpa using h)]
 | .box _ _::r,v::vs,h=>by simp only[D6,L6,qX,rI,Mb];rw[Bm (as:=r) (by simpa using h)]
 | .rows _ _ _::r,v::vs,h=>by simp only[D6,L6,qX,rI,Mb];rw[Bm (as:=r) (by simpa using h)]
def Vo:∀(as:List AM) (vs:List Value),D6 as vs=(Q7 as vs).map (·.2)
 | [],vs=>by cases vs<;>rfl
 | _:: _,[]=>rfl
 |a::r,v::vs=>by
  simp only[D6,Q7];cases L6 a
  . exact Vo r vs
  . simp only[qX,sE,Vo r vs]
def Dis.get:∀ {l:List (AM×Value)} {m c b:Nat} {u a:AM×Value},Dis w l->m<c->l[m]? =some u->l[c]? =some a->B4 w u.2 (lcA u.1) b->¬B4 w a.2 (lcA a.1) b
 | [],_,_,_,_,_,_,_,h,_,_=>by simp at h
 |v::l,0,c+1,b,u,a,g,i,h,d,f=>by
  simp at h d;subst h;exact g.1 b f a (tA d)
 |v::l,m+1,c+1,b,u,a,g,i,h,d,f=>by
  simp at h d;exact Dis.get g.2 ω h d f
 |v::l,_,0,_,_,_,_,d,_,_,_=>ω
def nL (as:List AM) (vs:List Value):Nat->Value:=λj=>((D6 as vs)[j]?).getD (.bool false)
def EM:∀ {as:List AM} {vs:List Value} {x:A2 as},Bl P w Z as vs x->∀u∈D6 as vs,u.oneCell'=true
 | [],vs,_,_,u,a=>by cases vs<;>cases a
 | .val _ _::r,_,_,⟨v,c,e,_,a⟩,u,b=>by subst e;exact EM (as:=r) a u b
 | .fn _ _ _::r,_,_,⟨v,c,e,_,a⟩,u,b=>by subst e;exact EM (as:=r) a u b
 | .row t d::r,_,_,⟨v,f,e,⟨h,g,_⟩,c⟩,u,a=>by
  subst e;simp only[D6,L6,qX,qS]at a;rcases a with rfl|a
  . rcases g.2 with⟨b,_⟩ | ⟨_,_,_,b,_⟩<;>rw[b]<;>rfl
  . exact EM (as:=r) c u a
 | .rows t d f::r,_,_,⟨v,h,e,⟨⟨i,g,_⟩,_⟩,c⟩,u,a=>by
  subst e;simp only[D6,L6,qX,qS]at a;rcases a with rfl|a
  . rcases g.2 with⟨b,_⟩ | ⟨_,_,_,b,_⟩<;>rw[b]<;>rfl
  . exact EM (as:=r) c u a
 | .box t d::r,_,_,⟨v,h,e,⟨c,f,g,_⟩,b⟩,u,a=>by
  subst e;simp only[D6,L6,qX,qS]at a;rcases a with rfl|a
  . rw[g];rfl
  . exact EM (as:=r) b u a
def Jg:∀ {as:List AM} {x:A2 as} {j k:Nat},¬live (find (0, .none) k (Fa as x j)).2->(find (0, .none) k (Fa as x j)).2= .none
 | [],_,_,_,_=>rfl
 | .val _ _::r,x,j,k,h=>Jg (as:=r) (x:=x.2) (j:=j) h
 | .fn _ _ _::r,x,j,k,h=>Jg (as:=r) (x:=x.2) (j:=j) h
 | .row t b::r,x,j,k,h=>by
  simp only[Fa,find]at h|-;cases a:Nat.beq j k with
  |true=>rw[a]at h;exact absurd trivial h
  |false=>rw[a]at h;exact Jg (as:=r) h
 | .rows t b c::r,x,j,k,h=>by
  simp only[Fa,find]at h|-;cases a:Nat.beq j k with
  |true=>rw[a]at h;exact absurd trivial h
  |false=>rw[a]at h;exact Jg (as:=r) h
 | .box T t::r,x,j,k,h=>by
  simp only[Fa,find]at h|-;cases a:Nat.beq j k with
  |true=>rw[a]at h;exact absurd trivial h
  |false=>rw[a]at h;exact Jg (as:=r) h
def D1k (w:World) (as:List AM) (vs:List Value):Nat->Nat->Prop:=λk b=>∃p:AM×Value,(Q7 as vs)[k]? =some p/\B4 w p.2 (lcA p.1) b
def zn0 (w:World) (Z:Nat->Prop) (as:List AM) (vs:List Value):Zn:=⟨Z,A2v w as vs,Mb as,nL as vs,0,0,D1k w as vs,λ_ _ ⟨p,hp,hb⟩=>⟨p,tA hp,hb⟩,[]⟩
def C4g {as:List AM} {vs:List Value} {x:A2 as} (I:∀b,Z b->b<w.heap.size) (h:Bl P w Z as vs x) (A:Dis w (Q7 as vs)):C4 (zn0 w Z as vs) w (A6u P as x) (TJ vs) w Z (nL as vs):=by
 have N:=Bm (Bl.len h);have y:∀m u,(D6 as vs)[m]? =some u->nL as vs (0+m)=u:=λm u a=>by simp only[nL,sG,a,wH]
 have f:∀(m:Nat) (p:AM×Value),(Q7 as vs)[m]? =some p->(D6 as vs)[m]? =some p.2:=λm p a=>by rw[Vo,tL,a];rfl
 have hT:=λk=>A6v (P:=P) (w:=w) (Z:=Z) (B:=nL as vs) (n:=Mb as) (U:=λk b=>up (zn0 w Z as vs) w k b) (j:=0) (k:=k) h (λm p a=>⟨y m p.2 (f m p a),λb g=> .inr ⟨by have:=TF (f m p a);simp only[sG];show m<Mb as;omega,p,by simpa using a,g⟩⟩)
 have z:=λs=>Jf (P:=P) (w:=w) (Z:=Z) (B:=nL as vs) (E:=TJ vs) (n:=Mb as) (i:=0) (j:=0) (s:=s) h (rP _) y ω
 refine⟨Ip.of (R8.refl w),I,λs=>(z s).1,λk=>(hT k).1,λk l b O o r=>?_,λs=>(z s).2,λk=>(hT k).2.1,λk D=>?_,λk=>?_,λb g=> .inl g,⟨rfl,qV _⟩,λ_ _=>rfl,⟨rP _,λ_ _ _ _=>rP _⟩,trivial,λJ G=>(by cases G)⟩
 . obtain⟨_,p,c,t⟩:=(hT k).2.2 o.live;obtain⟨_,Q,d,v⟩:=(hT l).2.2 r.live;simp only[g2t]at c d;rcases sD k l with H|M
   . exact A.get H c d (t b o) (v b r)
   . exact A.get (ω:l<k) d c (v b r) (t b o)
 . by_cases F:live ((A6u P as x).L k)
   . obtain⟨_,p,c,_⟩:=(hT k).2.2 F;simp only[g2t]at c;have:=TF (f k p c);have D:Mb as<=k:=D;omega
   . exact Jg F
 . simp only[nL];cases a:(D6 as vs)[k]? with
   |none=>rfl
   |some u=>exact EM h u (tA a)
def B9l {f:FuncId} {fn:Func} {c:Code} {s:A6} (a0:cx.P.funcs[f]? =some fn) (a:fn.body=some c) (a1:s.args.length<=fn.ntmps) (a3:Cz fn.ntmps c=true) (Q:H5 cx.P cx.tys=true) (a9:Ur cx.P sp)
 (ac:∀x,awf s.args x->s.pre x->C9t cx sp an s fn.results.toList c x):A9 cx.P f s:=by
 intro w Z i x ad H Y a5;have v:i.length=s.args.length:=H.len;have a8:=ac x H.awf a5;generalize k:zn0 w Z s.args i=za;have M:=C4g ad H Y;rw[k]at M;refine TC a0 a (by rw[v];exact a1) a3 (λE l=>Nx za w (fin cx s fn.results.toList x) E l) ?_ ⟨λa4 U G=>?_⟩
 . rintro E l A ab ⟨st,Z',B',D,h⟩;unfold fin at h;split at h
   . rename_i ss af;split at h
     . rename_i ah aa;split at h
       . rename_i z R G a2;obtain⟨g,r⟩:=B9 h;simp only[qC]at g;obtain⟨Z0,X⟩:=C4.settleR (rs:=s.res) (ss:=ss) D;obtain⟨Z1,n⟩:=C4.settleM (as:=s.args) (j:=0) X;obtain⟨B,V,W⟩:=ND Q n ab aa;have a7:(results fn A).run cx.P l= .ok (BL B) l:=by
          have d:(fn.results.mapM (A1y A)).run cx.P l= .ok B.toArray l:=by
           rw[zD];simp[V]
          have e:results fn A=(do let i<-fn.results.mapM (A1y A);pure (if D:i.size=1 then i[0]else .tuple i)):=by
           unfold results;congr 1
          rw[e];simp only[Sem.run_bind,d,Result.andThen_ok,Sem.run_pure]
          match B with
          | []=>rfl
          | [u]=>rfl
          |u::ai::z=>rfl
         have O:s.post x z/\(Q6 s.args=true->s.mpost x z R):=by
          unfold D1h at r;cases d:Q6 s.args with
          |true=>simp only[d,qX]at r;exact⟨r.1,λ_=>r.2⟩
          |false=>simp only[d,rK]at r;exact⟨r,λo=>by cases o⟩
         refine⟨_,a7,?_,z,R,B,(λb=>s.shared=true/\Z1 b),O.1,O.2,rfl,λb a=>?_,?_,?_⟩
         . have:=D.ext;rw[<-k]at this;exact this
         . rcases n.zin b a.2 with o|o
           . rw[<-k]at o;exact .inr ⟨a.1,o⟩
           . exact .inl ⟨o,n.zlt b a.2⟩
         . refine(Su n (Zn:=λb=>s.shared=true/\Z1 b) (λb a=>a.2) ?_ W G (Ka g.1.1) g.1.2).1;cases I:s.shared with
           |true=>exact .inl λb a=>⟨rfl,a⟩
           |false=>rw[I]at g;simp only[wI,qC]at g;exact .inr g.2.1
         . refine EC (Zn:=λb=>s.shared=true/\Z1 b) n (j:=0) ?_ (λm u d=>?_) (λm p d b t=>?_) v a2
           . cases I:s.shared with
             |true=>exact .inl λb a=>⟨rfl,a⟩
             |false=>rw[I]at g;simp only[wI,qC]at g;exact .inr g.2.2
           . have y:=TF d;rw[Bm v]at y;have:=n.bfix m (by rw[<-k];exact y);rw[sG,this, <-k];show nL s.args i m=u;simp only[nL,d,wH]
           . rw[<-k,sG]at t;rcases t with⟨t,_⟩ | ⟨_,ag,N,a⟩
             . have y:=TF (show(D6 s.args i)[m]? =some p.2 by rw[Vo,tL,d];rfl);rw[Bm v]at y;have t:Mb s.args<=m:=t;omega
             . rw[d]at N;cases N;exact a
       . exact h.elim
     . exact h.elim
   . exact h.elim
 . refine wp_mono (B1l Q a9 (by rw[<-k];rfl) M a8 a4 U G) ?_;rintro e ae l ⟨E',a6,T,Z',B',J,F⟩;refine⟨E',a6,?_⟩;cases e with
   |normal=>exact⟨T,Z',B',J,F⟩
   |ret=>exact⟨T,Z',B',J,F⟩
   | _=>exact F.elim
def B9m {f:FuncId} {fn:Func} {c:Code} {s:A6} {a:A2 s.args->Prop} (g:cx.P.funcs[f]? =some fn) (b:fn.body=some c) (h:s.args.length<=fn.ntmps) (i:Cz fn.ntmps c=true) (k:H5 cx.P cx.tys=true) (j:Ur cx.P sp)
 (d:∀x,C9t cx sp an s fn.results.toList c x=a x) (l:∀x,awf s.args x->s.pre x->a x):A9 cx.P f s:=
 B9l g b h i k j λx n a=>by rw[d];exact l x n a
def C9u (P:Program) (tys:List (Nat×TI)) (sp:H7) (an:An) (s:A6) (fn:Func) (x:A2 s.args):Prop:=C9t ⟨P,tys⟩ sp an s fn.results.toList (fn.body.getD .skip) x
def B9n {P:Program} {tys:List (Nat×TI)} {sp:H7} {an:An} {f:FuncId} {fn:Func} {s:A6} {g:A2 s.args->Prop} (i:P.funcs[f]? =some fn) (b:fn.body.isSome=true) (j:Nat.ble s.args.length fn.ntmps=true) (k:Cz fn.ntmps (fn.body.getD .skip)=true) (n:H5 P tys=true) (l:Ur P sp)
 (h:∀x,C9u P tys sp an s fn x=g x) (o:∀x,awf s.args x->s.pre x->g x):A9 P f s:=by
 cases a:fn.body with
 |none=>rw[a]at b;cases b
 |some c=>
  have d:fn.body.getD .skip=c:=by rw[a];rfl
  refine B9m (cx:=⟨P,tys⟩) (an:=an) (c:=c) i a (qQ j) (by rw[<-d];exact k) n l (λx=>?_) o;rw[<-h x, <-d];rfl
def ER (a:Nat):Nat->List SV->List (Nat×Nat×DV)
 | _,[]=> []
 |i,s::b=>(i,a, .one s)::ER a (i+1) b
def oE (st:St) (ss:List SV):St:=⟨ER (st.ct+1) 0 ss,st.lc,st.nx,st.ct+1,st.nm,st.sl::st.fr⟩
def A7y (cx:Cx) (c:List ResultVar) (b:Nat) (k:St->List SV->Prop) (st:St):Prop:=
 match st.fr with
 |f::a=>(match AY cx st c with
  |some c=>k ⟨f,st.lc,max st.nx b,st.ct,st.nm,a⟩ c
  |none=>False)
 | []=>False
def QH (cx:Cx) (b:List (Nat×H7×An)) (a:List ResultVar) (c:Code) (n d:Nat) (st:St) (ss:List SV) (k:St->List SV->Prop):Prop:=
 match Ez d b with
 |some (sp,an)=>bif Nat.ble ss.length n then Pd cx sp an c ⟨A7y cx a an.bump k,λ_ _=>False,A7y cx a an.bump k⟩ (oE st ss)else False
 |none=>False
def jU {i:List ResultVar} {b:Nat} {k k':St->List SV->Prop} {ss:List SV} {a:St} (ev:C3 (oE st ss) a) (h:A7y cx i b k a) (o:∀a g,C3 st a->k a g->k' a g):A7y cx i b k' a:=by
 unfold A7y at h|-;cases d:a.fr with
 |nil=>rw[d]at h;exact h
 |cons j n=>
  rw[d]at h;simp only at h|-;split at h
  . have e:=ev.f;rw[d]at e;have e:P5 (st.ct+1) st.sl j/\Bj (st.ct+1) st.fr n:=e;refine o _ _ ⟨qY (uH _) ev.ct,λs f c=>?_,λq f c=>ev.l q f (xW c),e.2.le (uH _)⟩ h;exact P5.find s e.1 (xW c)
  . exact h
def B8r (f:List (Nat×H7×An)) (j:List ResultVar) (c:Code) (n:Nat) {st:St} {d:Nat} {ss:List SV} {k k':St->List SV->Prop} (h:QH cx f j c n d st ss k) (g:∀a i,C3 st a->k a i->k' a i):QH cx f j c n d st ss k':=by
 unfold QH at h|-;split at h
 . obtain⟨l,h⟩:=B9 h;simp only[l,qX];refine SH h λe a ev b=>?_
   cases e with
   |normal=>exact jU ev b g
   |ret=>exact jU ev b g
   | _=>exact b
 . exact h
def Xd (cx:Cx) (a:List (Nat×H7×An)) (b:List ResultVar) (c:Code) (n:Nat):Inl:= {run:=QH cx a b c n,step:=B8r a b c n}
def NF {c s:Nat} :∀ {ss:List SV} {i:Nat},(find (0, .dead) s (ER c i ss)).2=if i<=s then(match ss[s-i]? with|some v=> .one v|none=> .dead)else .dead
 | [],i=>by simp[ER,find]
 |v::ss,i=>by
  simp only[ER,find];cases b:Nat.beq i s with
  |true=>
   have:=qE b;subst this;simp
  |false=>
   have d:i≠s:=vH b;simp only[rK,NF (ss:=ss) (i:=i+1)];by_cases a:i+1<=s
   . rw[qN a,qN ω,(ω:s-i=(s-(i+1))+1),uU]
   . rw[qG a,qG ω]
def Rt.len {w:World} {Z:Nat->Prop} {B:Nat->Value} :∀ {ss:List SV} {vs:List Value},Rt w Z B ss vs->vs.length=ss.length
 | [],_,h=>by rw[show _= _ from h];rfl
 | _:: _,_,⟨v,b,e,_,a⟩=>by rw[e,rI,rI,Rt.len a]
def SC (h:C4 za w0 st E w Z B):∀ {f:List ResultVar} {ss:List SV},AY cx st f=some ss->∀s∈ss,Nm st.nx s
 | [],_,a=>by cases a;intro s a;cases a
 | .tmp t::r,ss,a=>by
  simp only[AY]at a;split at a
  . rename_i g d;simp only[qP]at a;obtain⟨i,c,rfl⟩:=a;intro s b;rcases qS.1 b with rfl|b
    . have:=h.refs t;rw[d]at this;exact this
    . exact SC h c s b
  . cases a
 | .cell g t::r,ss,a=>by
  simp only[AY,qI,bind_some]at a;obtain⟨ti,_,a⟩:=a;split at a
  . rename_i k _;split at a
    . rename_i T i c;obtain⟨_,a⟩:=E1 a;simp only[qP]at a;obtain⟨j,d,rfl⟩:=a;intro s b;rcases qS.1 b with rfl|b
      . have:=h.refl k;rw[c]at this;exact this
      . exact SC h d s b
    . cases a
  . cases a
def A9c (P:Program) (a:List (Nat×H7×An)):Prop:=∀x∈a,Ur P x.2.1
def iG {α:Type} {d:Nat} {x:α} :∀ {l:List (Nat×α)},Ez d l=some x->(d,x)∈l
 | [],h=>by cases h
 | (t,y)::l,h=>by
  simp only[Ez]at h;cases a:Nat.beq t d with
  |true=>
   rw[a]at h;have:=qE a;subst this;cases h;simp
  |false=>rw[a]at h;exact qO _ (iG h)
def Mw {f:FuncId} {fn:Func} {c:Code} {x:List (Nat×H7×An)} (Y:cx.P.funcs[f]? =some fn) (g:fn.body=some c) (a6:Cz fn.ntmps c=true) (J:H5 cx.P cx.tys=true) (o:A9c cx.P x):XS cx.P f (Xd cx x fn.results.toList c fn.ntmps):=by
 refine {go:= ?_};intro za w0 st E w Z B O j l M W h H aa b;have b:QH cx x fn.results.toList c fn.ntmps O st j M:=b;unfold QH at b;split at b
 . rename_i sp an a2;have o:=o _ (iG a2);simp only at o;obtain⟨z,b⟩:=B9 b;have z:=qQ z;have a4:=H.len;have D:∀s,(oE st j).S s=match j[s]? with|some v=> .one v|none=> .dead:=λs=>by
    show(find (0, .dead) s (ER (st.ct+1) 0 j)).2= _;rw[NF,qN (rP _)];rfl
   have V:C4 {za with es:=E::za.es} w0 (oE st j) (TJ l) w Z B:=by
    refine⟨h.ext,h.zlt,λs=>?_,h.locs,h.disj,λs=>?_,h.refl,h.fresh,h.bone,h.zin,h.nms,h.bfix,h.mrk,⟨h.slots,h.frs⟩,λI t s=>?_⟩
    . rw[D];cases A:j[s]? with
      |none=>trivial
      |some v=>
       obtain⟨u,Q,R⟩:=H.get A;show RS w Z B v (TJ l s);simp only[TJ,Q,wH];exact R
    . rw[D];cases A:j[s]? with
      |none=>trivial
      |some v=>exact aa v (tA A)
    . rcases qS.1 t with rfl|t
      . exact h.refs s
      . exact h.frf I t s
   refine TC Y g (by rw[a4];exact z) a6 (λE' k=>Nx {za with es:=E::za.es} w0 (A7y cx fn.results.toList an.bump M) E' k) ?_ ⟨λa7 N a8=>?_⟩
   . rintro E' k r ac ⟨d,Z',B',a,i⟩;unfold A7y at i;have G:=a.frs;have y:=a.frf;cases F:d.fr with
     |nil=>rw[F]at i;exact i.elim
     |cons A Q=>
      rw[F]at i G y;simp only at i;obtain⟨a0,a1⟩:=G;split at i
      . rename_i ad I;obtain⟨t,T,U⟩:=ND J a ac I;have ab:(results fn r).run cx.P k= .ok (BL t) k:=by
         have a5:(fn.results.mapM (A1y r)).run cx.P k= .ok t.toArray k:=by
          rw[zD];simp[T]
         have e:results fn r=(do let l<-fn.results.mapM (A1y r);pure (if h:l.size=1 then l[0]else .tuple l)):=by
          unfold results;congr 1
         rw[e];simp only[Sem.run_bind,a5,Result.andThen_ok,Sem.run_pure]
         match t with
         | []=>rfl
         | [u]=>rfl
         |u::ag::af=>rfl
        have g:=g2w d.nx an.bump;exact⟨_,ab,⟨A,d.lc,max d.nx an.bump,d.ct,d.nm,Q⟩,Z',B',ad,t,⟨a.ext,a.zlt,a0,a.locs,a.disj,λs=>(y A (by simp) s).le g,λq=>(a.refl q).le g,λq n=>a.fresh q (qY g n),a.bone,a.zin,⟨a.nms.1,qY a.nms.2 g⟩,a.bfix,a.mrk,a1,λR a3 s=>(y R (by simp[a3]) s).le g⟩,rfl,U,λs b c X=>(SC a I s b c X).le g,i⟩
      . exact i.elim
   . refine wp_mono (B1l J o (by exact W) V b a7 N a8) ?_;rintro e ae k ⟨E',a9,d,Z',B',a,n⟩;refine⟨E',a9,?_⟩;cases e with
     |normal=>exact⟨d,Z',B',a,n⟩
     |ret=>exact⟨d,Z',B',a,n⟩
     | _=>exact n.elim
 . exact b.elim
def Df (run:Inl):A6:= {args:= [],res:= [],pre:=λ_=>False,post:=λ_ _=>True,inl:=some run}
end
end Go.Vc
namespace Go.Proofs.YtknoakmaeleclaaGreat
open Go.IntKind (i64 u64 u32)
abbrev Wf:=List Int
def nv:Wf->Nat
 | []=>0
 |a::l=>a.toNat+4294967296*nv l
def nc (n:Nat):Wf:=if h:n=0 then []else((n%4294967296:Nat):Int)::nc (n/4294967296)
termination_by n
decreasing_by omega
def nC (x:Int):Prop:=0<=x/\x<=4294967295
def A7 (l:Wf):Prop:=∀x∈l,nC x
def Q3:nc 0= []:=by rw[nc];rfl
def QT {n:Nat} (h:n≠0):nc n=((n%4294967296:Nat):Int)::nc (n/4294967296):=by rw[nc];simp[h]
def F7 (n:Nat):nv (nc n)=n:=by
 induction n using Nat.strongRecOn with
 | _ n a=>
  by_cases h:n=0
  . subst h;rw[Q3];rfl
  . rw[QT h];simp only[nv,a (n/4294967296) ω];omega
def K5 (n:Nat):A7 (nc n):=by
 induction n using Nat.strongRecOn with
 | _ n b=>
  by_cases h:n=0
  . subst h;rw[Q3];intro x a;cases a
  . rw[QT h];intro x a;rcases qS.1 a with rfl|a
    . unfold nC;omega
    . exact b (n/4294967296) ω x a
def AF {n:Nat} :nc n= []↔n=0:=by
 constructor
 . intro h;by_cases a:n=0
   . exact a
   . rw[QT a]at h;cases h
 . rintro rfl;exact Q3
def B0u (a:Int) (m:Nat) (b:nC a) (h:a≠0\/m≠0):nc (a.toNat+4294967296*m)=a::nc m:=by
 unfold nC at b;rw[QT ω];congr 1
 . omega
 . congr 1;omega
def Sm (a b:Wf):nv (a++b)=nv a+4294967296^a.length*nv b:=by
 induction a with
 |nil=>simp[nv]
 |cons x a c=>
  simp only[wE,nv,c,rI,rY];rw[sY, <-vC, <-sN,sF 4294967296 (4294967296^a.length)]
def Sn (n:Nat):nv (List.replicate n 0)=0:=by
 induction n with
 |zero=>rfl
 |succ n a=>simp[List.replicate_succ,nv,a]
def aB {a:Int} {l:Wf} :A7 (a::l)↔nC a/\A7 l:=by simp[A7]
def Hr {l:Wf} (h:A7 l):nv l<4294967296^l.length:=by
 induction l with
 |nil=>simp[nv]
 |cons b l a=>
  rw[aB]at h;have:=a h.2;have a:=h.1;unfold nC at a;simp only[nv,rI,rY];omega
def D1t {l:Wf} (h:A7 l) (c:∀x,l.getLast? =some x->x≠0):nc (nv l)=l:=by
 induction l with
 |nil=>exact Q3
 |cons b l a=>
  rw[aB]at h;simp only[nv];cases l with
  |nil=>
   have:=c b rfl;rw[B0u b _ h.1 (.inl this)];simp only[nv,Q3]
  |cons d l=>
   have a:=a h.2 (λx hx=>c x (by rw[List.getLast?_cons_cons];exact hx));have g:nv (d::l)≠0:=by
    intro f;rw[f,Q3]at a;cases a
   rw[B0u b _ h.1 (.inr g),a]
def B0v {l:Wf} (h:A7 l) {n:Nat} (f:n<=l.length) (k:∀i x,n<=i->l[i]? =some x->x=0) (d:n=0\/∃x,l[n-1]? =some x/\x≠0):l.take n=nc (nv l):=by
 have e:nv l=nv (l.take n):=by
  conv=>lhs;rw[<-uS n l]
  rw[Sm];have:l.drop n=List.replicate (l.length-n) 0:=by
   apply wX;intro i;rw[xM];by_cases c:n+i<l.length
   . rw[qL c,vP,qN ω];rw[k (n+i) l[n+i] ω (qL c)]
   . rw[rT ω,rT (by simp;omega)]
  rw[this,Sn];simp
 rw[e]
 symm
 apply D1t
 . intro x a;exact h x (rW a)
 . intro x a;rw[List.getLast?_eq_getElem?,qZ,tF f]at a;rcases d with b| ⟨y,g,j⟩
   . subst b;simp at a
   . rw[rX (by
      rcases vR n with b|b
      . subst b;simp at a
      . omega),g]at a
     cases a;exact j
def Ds {n k:Nat} (h:n<4294967296^k):(nc n).length<=k:=by
 induction k generalizing n with
 |zero=>have:n=0:=by simpa using h
        subst this;rw[Q3];exact qV _
 |succ k b=>
  by_cases a:n=0
  . subst a;rw[Q3];exact rP _
  . rw[QT a,rI];have:n/4294967296<4294967296^k:=by
     rw[tX δ];rw[rY]at h;exact h
    have:=b this;omega
def D2 {l:Wf} (h:A7 l):(nc (nv l)).length<=l.length:=Ds (Hr h)
def B9v {n k:Nat} (h:k<(nc n).length):4294967296^k<=n:=by
 rcases sD n (4294967296^k)with a|a
 . have:=Ds a;omega
 . exact a
def J7 {m n:Nat} (h:m<=n):(nc m).length<=(nc n).length:=by
 apply Ds;have:=Hr (K5 n);rw[F7]at this;omega
def Eu (n:Nat):n<4294967296^(nc n).length:=by
 have:=Hr (K5 n);rwa[F7]at this
def Qy (m n:Nat):(nc (m*n)).length<=(nc m).length+(nc n).length:=by
 apply Ds;rw[tY];have a:=Eu m;have b:=Eu n;exact Nat.mul_lt_mul'' a b
def QR (m n:Nat):(nc (m+n)).length<=max (nc m).length (nc n).length+1:=by
 apply Ds;have a:=Eu m;have a:=Eu n;have a:4294967296^(nc m).length<=4294967296^(max (nc m).length (nc n).length):=rR δ (g2w ..);have a:4294967296^(nc n).length<=4294967296^(max (nc m).length (nc n).length):=rR δ (g5j ..);rw[rY];omega
abbrev Lu:=Bool×Wf
abbrev B7:=Lu×Wf
def Dt (a b:Nat):Int:=if a<b then -1 else if b<a then 1 else 0
def P6 (a b:Int):Int:=if a<b then -1 else if b<a then 1 else 0
def iv (x:Lu):Int:=if x.1=true then -(nv x.2:Int)else(nv x.2:Int)
def ic (v:Int):Lu:=(decide (v<0),nc v.natAbs)
def C9s (x:B7):Int:=if nv x.2=0 then 0 else(iv x.1).sign
def rv (x:B7):Rat:=mkRat (iv x.1) (nv x.2)
def rc (q:Rat):B7:=(ic q.num,nc q.den)
def J9 (x:B7):Prop:=nv x.1.2<2147483648/\nv x.2<2147483648
instance (x:B7):Decidable (J9 x):=by unfold J9;infer_instance
def Sl (x:B7):Int:=if nv x.2=0 then 0 else iv x.1
def Pa (x:B7):Int:=if nv x.2=0 then 1 else(nv x.2:Int)
def zi:Lu:=(false,[])
def zr:B7:=((false,[]),[])
def ri (k:Int):B7:=(ic k,[1])
abbrev Im (l:Wf):Prop:=l.length<=35184372088832
abbrev L3 (l:Wf):Prop:=l.length<=17592186044416
abbrev Gl (l:Wf):Prop:=l.length<=8796093022208
def F4 (x:B7):Prop:=x.1.2.length<=2199023255552/\x.2.length<=2199023255552
def Lx (a b:Lu):Rat:=Rat.divInt (iv a) (iv b)
def L2 (n:Nat):Nat:=if n=0 then 0 else Nat.log2 n+1
def C8y (A B u0 u1 v0 v1:Int) (ev:Bool):Prop:=v0=0\/∃A' B':Int,A'=(if ev then u0*A-v0*B else v0*B-u0*A)/\B'=(if ev then v1*B-u1*A else u1*A-v1*B)/\0<=B'/\B'<=A'/\A=v1*A'+v0*B'/\B=u1*A'+u0*B'/\1<=v0/\1<=v1/\0<=u0/\0<=u1
def Og (l:Wf):Prop:=l.getD (l.length-1) 0≠0
open Go.Vc Go.Gw
def F2 (a b:Bool):G9 a true b=(a||b):=by cases a<;>rfl
def I5 (a b:Bool):G9 a b false=(a&&b):=by cases a<;>rfl
def wr {a:Int} (b: -9223372036854775808<=a) (c:a<=9223372036854775807):i64.wrap a=a:=IntWalk.i64_in _ ⟨b,c⟩
def wv {a:Int} (h: -9223372036854775808<=a/\a<=9223372036854775807):i64.wrap a=a:=wr h.1 h.2
def I7 {α:Type} {d:α} {l:List α} {i:Int} (a:0<=i) (b:i<(l.length:Int)):gx d l i∈l:=tA (L9 a b)
def E5 {α:Type} {d:α} {l:List α} {i:Int} (a:0<=i) (b:i<(l.length:Int)):gx d l i=l.getD i.toNat d:=by
 have:=L9 (d:=d) a b;rw[qD,this];rfl
def Gu {α:Type} {d:α} {l:List α} {q:α->Prop} {i:Int} (b:0<=i) (c:i<(l.length:Int)) (f:∀x∈l.take i.toNat,q x) (g:q (gx d l i)):∀x∈l.take (i+1).toNat,q x:=by
 intro x a;rw[(ω:(i+1).toNat=i.toNat+1),rU,L9 (d:=d) b c]at a;simp at a;rcases a with a|rfl
 . exact f x a
 . exact g
def E4 {α:Type} {l:List α} {i:Int} (h:(l.length:Int)<=i):l.take i.toNat=l:=qW ω
def XP:u32.max=4294967295:=δ
def XQ:u32.min=0:=δ
def EY:u64.max=18446744073709551615:=δ
def pA:u64.min=0:=δ
def EG:i64.max=9223372036854775807:=δ
def Vi:i64.min= -9223372036854775808:=δ
def A3 {l:Wf} (h:∀x∈l,u32.min<=x/\x<=u32.max):A7 l:=λx a=>by
 have:=h x a;rw[XQ,XP]at this;exact this
def Z9 {a:Int} (b:0<=a) (c:a<=18446744073709551615):u64.wrap a=a:=IntWalk.u64_in _ ⟨b,c⟩
def w32 {a:Int} (b:0<=a) (c:a<=4294967295):u32.wrap a=a:=IntWalk.u32_in _ ⟨b,c⟩
def Dj (a:Int):u32.wrap a=a%4294967296:=IntKind.wrap_u32 a
def Dk (a:Int):u64.wrap a=a%18446744073709551616:=IntKind.wrap_u64 a
def Vm {l:Wf} (h:A7 l) {i:Int} (a:0<=i) (b:i<(l.length:Int)):0<=gx 0 l i/\gx 0 l i<=4294967295:=h _ (I7 a b)
def TO {v:Int} (a:0<=v) (b:v<18446744073709551616):(BitVec.ofInt 64 v).toNat=v.toNat:=by
 rw[yH];congr 1;omega
def bN {v b:Int} {k:Nat} (v0:0<=v) (v1:v<2^k) (b0:0<=b) (c:b*2^k<18446744073709551616) (d:v<18446744073709551616):(((BitVec.ofInt 64 v|||BitVec.ofInt 64 (b*2^k)).toNat:Nat):Int)=v+b*2^k:=by
 have a:0<=b*2^k:=tU b0 (Int.pow_nonneg δ);rw[BitVec.toNat_or,TO v0 d,TO a c];have e:(b*2^k).toNat=b.toNat<<<k:=by
  rw[g5k,g4h b0 (Int.pow_nonneg δ),Int.toNat_pow_of_nonneg δ];rfl
 have c:v.toNat<2^k:=by
  have:(v.toNat:Int)<((2^k:Nat):Int):=by rw[sB v0,xS];exact v1
  exact vO.1 this
 rw[e,Nat.or_comm, <-g0x c, <-e,wY,sB v0,sB a,Int.add_comm]
def MA {l:Wf} {i:Int} (a:0<=i) (b:i<(l.length:Int)):nv (l.take (i+1).toNat)=nv (l.take i.toNat)+4294967296^i.toNat*(gx 0 l i).toNat:=by
 rw[(ω:(i+1).toNat=i.toNat+1),rU,L9 (d:=(0:Int)) a b,g4s,Sm,qZ,tF ω];simp[nv]
def X6 {l:Wf} {i:Int} (a:0<=i) (b:i<(l.length:Int)):l.drop i.toNat=gx 0 l i::l.drop (i+1).toNat:=by
 have h:=L9 (d:=(0:Int)) a b;have a:i.toNat<l.length:=ω
 rw[qL a]at h;rw[xR a,(ω:(i+1).toNat=i.toNat+1)];congr 1;exact xU h
def nS {a b:Wf} (f:A7 a) (_:A7 b) (r:a.length=b.length) {i:Int} (c:0<=i) (d:i<(a.length:Int)) (j:a.drop (i+1).toNat=b.drop (i+1).toNat) (t:gx 0 a i<gx 0 b i):nv a<nv b:=by
 have k:nv a=nv (a.take i.toNat)+4294967296^i.toNat*nv (a.drop i.toNat):=by
  conv=>lhs;rw[<-uS i.toNat a,Sm,qZ,tF ω]
 have n:nv b=nv (b.take i.toNat)+4294967296^i.toNat*nv (b.drop i.toNat):=by
  conv=>lhs;rw[<-uS i.toNat b,Sm,qZ,tF ω]
 have s:=Vm f c d;have g:nv (a.drop i.toNat)+1<=nv (b.drop i.toNat):=by
  rw[X6 c d,X6 c ω,j];simp only[nv];omega
 have o:nv (a.take i.toNat)<4294967296^i.toNat:=by
  have:=Hr (l:=a.take i.toNat) λx hx=>f x (rW hx)
  rwa[qZ,tF ω]at this
 have h:=sC (4294967296^i.toNat) g;rw[sY,xG]at h;omega
def EN {m n:Nat} (h:(nc m).length<(nc n).length):m<n:=by
 rcases sD m n with a|a
 . exact a
 . have:=J7 a;omega
def Vp:nc 1= [1]:=by rw[QT δ];simp[Q3]
def C9i:nv [1]=1:=rfl
def nR:nv []=0:=rfl
def jH (n:Nat):Dt n n=0:=by simp[Dt]
def Pr {m n:Nat} (h:m<n):Dt m n= -1:=by simp[Dt,h]
def XH {m n:Nat} (h:n<m):Dt m n=1:=by
 unfold Dt;rw[qG ω,qN h]
def aQ {m n:Nat} :Dt m n=0↔m=n:=by
 unfold Dt;split
 . omega
 . split<;>omega
def K7 (v:Int):iv (ic v)=v:=by
 unfold iv ic;simp only[rS,F7];split<;>omega
def B8m {neg:Bool} {m:Nat} :ic (iv (neg,nc m))=(neg&&decide (m≠0),nc m):=by
 unfold ic iv;simp only[F7];cases neg
 . simp
 . simp only[g0t,wN,Prod.mk.injEq,xJ];constructor
   . omega
   . congr 1;omega
def D1l {x:Lu} :ic (iv x)=(x.1&&decide (nv x.2≠0),nc (nv x.2)):=by
 have:iv x=iv (x.1,nc (nv x.2)):=by unfold iv;simp only[F7]
 rw[this,B8m]
def C9q (k:Int):nv (ri k).2=1:=rfl
def oH (k:Int):rc (k:Rat)=ri k:=by
 unfold rc ri;rw[g3e,g3a,Vp]
def D1z (k:Int):rv (ri k)=(k:Rat):=by
 unfold rv;rw[C9q];show mkRat (iv (ic k)) 1= _;rw[K7];exact Rat.mkRat_one k
def C9 (q:Rat):rv (rc q)=q:=by
 unfold rv rc;simp only[K7,F7];exact g1t q
def C5m (x:B7):C9s x=(rv x).num.sign:=by
 unfold C9s rv;split
 . rename_i h;rw[h,zC];rfl
 . rename_i h;rw[Rat.num_mkRat,qG h];have b:(0:Int)<(((nv x.2).gcd (iv x.1).natAbs:Nat):Int):=by
    have:=g2h (iv x.1).natAbs (sX h);omega
   have c:(((nv x.2).gcd (iv x.1).natAbs:Nat):Int)∣iv x.1:=yI.2 (yW ..);obtain⟨d,a⟩:=c;generalize (((nv x.2).gcd (iv x.1).natAbs:Nat):Int)=g at b a;rw[a,xY _ ω,g4z,uZ b,Int.one_mul]
def Pq {x:Int} {d:Nat} (a:d≠0):(mkRat x d).num=x/((d.gcd x.natAbs:Nat):Int)/\(mkRat x d).den=d/d.gcd x.natAbs:=by
 rw[Rat.num_mkRat,Rat.den_mkRat,qG a,qG a];exact⟨rfl,rfl⟩
def dg (l:Wf) (i:Nat):Nat:=(l.getD i 0).toNat
def J3 (l:Wf) (i:Nat):nv (l.take (i+1))=nv (l.take i)+4294967296^i*dg l i:=by
 unfold dg;by_cases h:i<l.length
 . have:=MA (l:=l) (i:=(i:Int)) ω ω;rw[(ω:((i:Int)+1).toNat=i+1),qJ]at this;rw[this,E5 ω ω,qJ]
 . rw[qW ω,qW ω,qD,rT ω];simp
def N8 {l:Wf} (h:A7 l) (i:Nat):dg l i<=4294967295:=by
 unfold dg;by_cases a:i<l.length
 . rw[qD,qL a];have:=h l[i] (wT a);unfold nC at this;simp only[wH];omega
 . rw[qD,rT ω];simp
def Gy {l:Wf} (h:A7 l) {i:Int} (a:0<=i) (b:i<(l.length:Int)):gx 0 l i=(dg l i.toNat:Int):=by
 have:=Vm h a b;unfold dg;rw[<-E5 (d:=(0:Int)) a b];omega
def Ac {l:Wf} (h:A7 l) {i:Nat} :l.getD i 0=(dg l i:Int):=by
 unfold dg;by_cases a:i<l.length
 . have:=h l[i] (wT a);unfold nC at this;rw[qD,qL a];simp only[wH];omega
 . rw[qD,rT ω];rfl
def Qu {l:Wf} {i:Nat} (h:l.length<=i):dg l i=0:=by
 unfold dg;rw[qD,rT h];rfl
def U4 {l:Wf} {i:Nat} {v:Int} (h:i<l.length):nv ((l.set i v).take (i+1))=nv (l.take i)+4294967296^i*v.toNat:=by
 rw[J3,zK (qV _)];unfold dg;rw[qD,sJ h];rfl
def Lc:∀ {l:Wf} {k:Nat} {v:Int},k<l.length->nv (l.set k v)+4294967296^k*dg l k=nv l+4294967296^k*v.toNat
 | [],_,_,h=>by simp at h
 |a::l,0,v,_=>by simp[nv,dg];omega
 |a::l,k+1,v,h=>by
  have d:=Lc (l:=l) (k:=k) (v:=v) (by simpa using h);have e:dg (a::l) (k+1)=dg l k:=by simp[dg]
  rw[e];simp only[g4o,nv,rY];generalize nv (l.set k v)=A at*;have b:4294967296^k*4294967296*dg l k=4294967296*(4294967296^k*dg l k):=by rw[sF (4294967296^k) 4294967296,sN]
  have c:4294967296^k*4294967296*v.toNat=4294967296*(4294967296^k*v.toNat):=by rw[sF (4294967296^k) 4294967296,sN]
  rw[b,c,vC,vC, <-sY, <-sY,d]
def iY {l:Wf} {k:Nat} {v:Int} (h:A7 l) (b:nC v):A7 (l.set k v):=λx a=>by
 rcases zF a with a|a
 . exact h x a
 . rw[a];exact b
def Zw {l:Wf} {k i:Nat} {v:Int} (a:k<l.length):dg (l.set k v) i=if i=k then v.toNat else dg l i:=by
 unfold dg;rw[qD,wJ];by_cases h:k=i
 . subst h;rw[qN rfl,qN a,qN rfl];rfl
 . rw[qG h,qG (λe=>h e.symm),qD]
def LO (n i:Nat):dg (List.replicate n 0) i=0:=by
 unfold dg;rw[qD,vP];split<;>rfl
def TN {l:Wf} {i:Nat} (h:∀j,i<=j->dg l j=0):nv (l.take i)=nv l:=by
 have b:∀k,nv (l.take (i+k))=nv (l.take i):=by
  intro k
  induction k with
  |zero=>rfl
  |succ k a=>rw[<-vC,J3,a,h (i+k) ω,wU,tS]
 rw[<-b l.length,qW ω]
def jL {P A B o c a b s d:Nat} (h:o+P*c=A+B) (f:s+4294967296*d=c+a+b):(o+P*s)+(P*4294967296)*d=(A+P*a)+(B+P*b):=by
 have:=sA (P* ·) f;simp only[sY, <-sN]at this;omega
def aR {P A B o c a b s d:Nat} (h:A+P*c=o+B) (f:a+4294967296*d=s+b+c):(A+P*a)+(P*4294967296)*d=(o+P*s)+(B+P*b):=by
 have:=sA (P* ·) f;simp only[sY, <-sN]at this;omega
def B4d {a b:Wf} (c:A7 a) (d:A7 b):nv a+nv b<4294967296^(max a.length b.length+1):=by
 have f:=Hr c;have h:=Hr d;have g:4294967296^a.length<=4294967296^(max a.length b.length):=rR δ (g2w ..);have i:4294967296^b.length<=4294967296^(max a.length b.length):=rR δ (g5j ..);rw[rY];generalize 4294967296^(max a.length b.length)=P at*;omega
def IF {P c x:Nat} (h:P*c<=x) (a:x<P):c=0:=by
 rcases vR c with a|a
 . exact a
 . have:=sC P a;omega
def Kz (l:Wf):iv (false,l)=(nv l:Int):=rfl
def ZZ (l:Wf):iv (true,l)= -(nv l:Int):=rfl
def B8w (b:Bool) (l:Wf):iv (!b,l)= -iv (b,l):=by
 cases b
 . rfl
 . show(nv l:Int)= - -(nv l:Int);omega
def Af (v:Int):(ic v).2.length=(nc v.natAbs).length:=rfl
def A6s:ic 1=(false,[1]):=by unfold ic;rw[show(1:Int).natAbs=1 from rfl,Vp];rfl
def mP:ic 0=(false,[]):=by unfold ic;rw[show(0:Int).natAbs=0 from rfl,Q3];rfl
def B1e:rc 0=((false,[]),[1]):=by
 unfold rc;rw[Rat.zero_num,Rat.zero_den,mP,Vp]
def A0z {a:Lu} {b:Lu} (h:iv b=1):Lx a b=((iv a:Int):Rat):=by
 unfold Lx;rw[h];have:=g0s (iv a) 1;rw[show((1:Nat):Int)=1 from rfl]at this;rw[this];exact Rat.mkRat_one _
def B2x {a:Lu} {b:Lu} (h:iv b=0):Lx a b=0:=by
 unfold Lx;rw[h,Rat.divInt_zero]
def C5n (x:B7):Lx x.1 (false,x.2)=rv x:=by
 unfold Lx rv;rw[Kz,g0s]
structure eN (U V v1 v2 t u2 P:Nat):Prop where
 pos:0<P
 v1p:0<v1
 v1b:v1<4294967296
 v2b:v2<4294967296
 u2b:u2<4294967296
 vlo:(v1*4294967296+v2)*P<=V
 vhi:V<(v1*4294967296+v2+1)*P
 ulo:(t*4294967296+u2)*P<=U
 uhi:U<(t*4294967296+u2+1)*P
 lt:U<V*4294967296
variable {U V v1 v2 t u2 P:Nat}
def eN.vpos (h:eN U V v1 v2 t u2 P):0<V:=by
 have a:=h.vlo;have a:0<(v1*4294967296+v2)*P:=g0w (by have:=h.v1p;omega) h.pos;omega
def eN.quo (h:eN U V v1 v2 t u2 P):U/V<4294967296:=by
 rw[tX h.vpos,sF];exact h.lt
def B0n {a b c P Q:Nat} (f:0<P) (h:a*P<=Q) (g:Q<(b+1)*P) (d:c<=a):c<=b:=by
 have f:c*P<=a*P:=rD _ d;have d:c*P<(b+1)*P:=ω
 have:=xN d;omega
def eN.top (h:eN U V v1 v2 t u2 P):t*4294967296+u2<(v1*4294967296+v2+1)*4294967296:=by
 have a:=h.ulo;have a:=h.lt;have a:=rD 4294967296 (vX h.vhi);have a:(t*4294967296+u2)*P<((v1*4294967296+v2+1)*4294967296)*P:=by
  have b:V*4294967296<(v1*4294967296+v2+1)*P*4294967296:=xE h.vhi δ;rw[g0d];omega
 exact xN a
def eN.t_le (h:eN U V v1 v2 t u2 P):t<=v1*4294967296+v2:=by
 have:=h.top;omega
def eN.est (h:eN U V v1 v2 t u2 P):U/V*v1<=t:=by
 have a:U/V*V<=U:=zL U V;have b:U/V*(v1*4294967296+v2)*P<=U:=by
  rw[sN];exact qY (sC _ h.vlo) a
 have a:U/V*(v1*4294967296+v2)<=t*4294967296+u2:=B0n h.pos b h.uhi (qV _);rw[sY, <-sN]at a;have:=h.u2b;omega
def eN.dec (h:eN U V v1 v2 t u2 P) {d r:Nat} (f:t=d*v1+r) (a:U/V<=d) (b:4294967296<=d\/r*4294967296+u2<d*v2):U/V+1<=d:=by
 rcases sD (U/V) d with a|a
 . omega
 . exfalso;have c:U/V=d:=ω
   rcases b with b|b
   . have:=h.quo;omega
   . have a:d*V<=U:=by rw[<-c];exact zL U V
     have b:d*(v1*4294967296+v2)*P<=U:=by
      rw[sN];exact qY (sC _ h.vlo) a
     have a:d*(v1*4294967296+v2)<=t*4294967296+u2:=B0n h.pos b h.uhi (qV _);rw[sY, <-sN,f,uV]at a;omega
def eN.near (h:eN U V v1 v2 t u2 P) {d r:Nat} (c:t=d*v1+r) (g:d<4294967296) (a:d*v2<=r*4294967296+u2):d<=U/V+1:=by
 have a:=h.ulo;have b:d*(v1*4294967296+v2)<=t*4294967296+u2:=by
  rw[c,uV,sY, <-sN];omega
 have c:d*(v1*4294967296+v2)*P<=U:=qY (rD _ b) a;have a:d*V<=d*((v1*4294967296+v2+1)*P):=sC _ (vX h.vhi);have b:d*((v1*4294967296+v2+1)*P)=d*(v1*4294967296+v2)*P+d*P:=by
  rw[<-sN,sY d,xG,uV]
 have f:d*P<V:=by
  have i:d*P<4294967296*P:=xE g h.pos;have g:4294967296*P<=(v1*4294967296+v2)*P:=rD _ (by have:=h.v1p;omega);have:=h.vlo;omega
 have g:d*V<U+V:=wC (qY a (Nat.le_of_eq b)) (Nat.add_lt_add_of_le_of_lt c f);rcases vR d with a|a
 . rw[a];exact rP _
 . have a:(d-1)*V<U:=by
    have:d*V=(d-1)*V+V:=by
     conv=>lhs;rw[(ω:d=d-1+1),uV,xH]
    omega
   have:=(vN h.vpos).2 (vX a);omega
def eN.out (h:eN U V v1 v2 t u2 P) {d r:Nat} (c:t=d*v1+r) (b:4294967296<=r) (a:U/V<=d):d<4294967296/\d*v2<=r*4294967296+u2:=by
 have a:=h.t_le;have a:=h.v2b;have b:d<4294967296:=by
  rcases sD d 4294967296 with a|a
  . exact a
  . have:=rD v1 a;rw[sF 4294967296]at this;omega
 refine⟨b,?_⟩;have a:d*v2<=4294967295*4294967295:=uM ω ω;omega
def DT:L2 0=0:=rfl
def lT (n:Nat):n<2^L2 n:=by
 unfold L2;split
 . rename_i h;subst h;decide
 . exact Nat.lt_log2_self
def DR {n:Nat} (h:n≠0):2^(L2 n-1)<=n/\1<=L2 n:=by
 unfold L2;rw[qG h,Nat.add_sub_cancel];exact⟨Nat.log2_self_le h,ω⟩
def C3j {n k:Nat} (a:2^k<=n) (b:n<2^(k+1)):L2 n=k+1:=by
 have c:0<2^k:=tP δ;unfold L2;rw[qG ω];congr 1;exact(Nat.log2_eq_iff ω).2 ⟨a,b⟩
def LJ {n k:Nat} (h:2^k<=n):L2 n=L2 (n/2^k)+k:=by
 have a:0<2^k:=tP δ;have c:n/2^k≠0:=by
  have:1<=n/2^k:=(vN a).2 ω;omega
 obtain⟨b,d⟩:=DR c;have c:=lT (n/2^k);have e:L2 (n/2^k)+k=(L2 (n/2^k)-1+k)+1:=ω
 rw[e];apply C3j
 . rw[tY];have:=(vN a).1 b;exact this
 . rw[(ω:L2 (n/2^k)-1+k+1=L2 (n/2^k)+k),tY];exact(tX a).1 c
def YU (p q:Rat):Int:=if p<q then -1 else if q<p then 1 else 0
def YV {a b:Int} {c d:Nat} (f:c≠0) (g:d≠0):YU (mkRat a c) (mkRat b d)=P6 (a*d) (b*c):=by
 have h:∀ {a b:Int} {c d:Nat},c≠0->d≠0->(mkRat a c<mkRat b d↔a*d<b*c):=λ{a b c d} f g=>by
  have i:(0:Rat)<(c:Rat):=g3d.2 (sX f);have j:(0:Rat)<(d:Rat):=g3d.2 (sX g);rw[yE,yE,Rat.div_lt_iff i,tZ,tO,yK _ (c:Rat), <-tO, <-tZ,Rat.lt_div_iff j];have:(a:Rat)*(d:Rat)=((a*(d:Int):Int):Rat):=by rw[zW];rfl
  have i:(b:Rat)*(c:Rat)=((b*(c:Int):Int):Rat):=by rw[zW];rfl
  rw[this,i,Rat.intCast_lt_intCast]
 unfold YU P6;simp only[h f g,h g f]
def B2o {p q:Rat} (h:p.num.sign≠q.num.sign):YU p q=P6 p.num.sign q.num.sign:=by
 have l:=g3x p;have n:=g3x q;have e:YU p q=P6 (p.num*q.den) (q.num*p.den):=by
  have:=YV (a:=p.num) (b:=q.num) p.den_nz q.den_nz;rwa[g1t,g1t]at this
 rw[e];have j:(p.num*(q.den:Int)).sign=p.num.sign:=by rw[g4z,uZ (ω:(0:Int)<q.den),Int.mul_one]
 have k:(q.num*(p.den:Int)).sign=q.num.sign:=by rw[g4z,uZ (ω:(0:Int)<p.den),Int.mul_one]
 rw[<-j, <-k]at h|-;generalize p.num*(q.den:Int)=x at*;generalize q.num*(p.den:Int)=y at*;have i:∀z:Int,(z<0/\z.sign= -1)\/(z=0/\z.sign=0)\/(0<z/\z.sign=1):=λz=>by
  rcases g0f z 0 with h|h|h
  . exact .inl ⟨h,xL h⟩
  . exact .inr (.inl ⟨h,by rw[h];rfl⟩)
  . exact .inr (.inr ⟨h,uZ h⟩)
 unfold P6;rcases i x with⟨f,c⟩ | ⟨f,c⟩ | ⟨f,c⟩<;>rcases i y with⟨g,d⟩ | ⟨g,d⟩ | ⟨g,d⟩<;>rw[c,d]at h|- <;>first|exact absurd rfl h| (split<;>(try split)<;>(try split)<;>(try split)<;>omega)
def J5 (x:Lu):(iv x).natAbs=nv x.2:=by
 unfold iv;split<;>omega
def IM {a b:Wf} (c:A7 a) (d:A7 b):(nc (nv a*nv b)).length<=a.length+b.length:=by
 have f:=Qy (nv a) (nv b);have f:=D2 c;have c:=D2 d;omega
def II {x y:Lu} (a:A7 x.2) (b:A7 y.2):(ic (iv x*iv y)).2.length<=x.2.length+y.2.length:=by
 rw[Af,vE,J5,J5];exact IM a b
def ZU {x y:Lu} {k:Nat} (a:A7 x.2) (b:A7 y.2) (c:x.2.length<=k) (d:y.2.length<=k):(ic (iv x+iv y)).2.length<=k+1:=by
 rw[Af];have e:(iv x+iv y).natAbs<=nv x.2+nv y.2:=by
  have:=g0g (iv x) (iv y);rwa[J5,J5]at this
 have h:=QR (nv x.2) (nv y.2);have c:=D2 a;have a:=D2 b;have c:=J7 e;omega
def A2c (v:Int):A7 (ic v).2:=K5 _
def oI {V:Int} {D:Nat} (f:D≠0):rc (mkRat V D)=((decide (V<0),nc (V.natAbs/Nat.gcd V.natAbs D)),nc (D/Nat.gcd V.natAbs D)):=by
 obtain⟨j,i⟩:=Pq (x:=V) (d:=D) f;unfold rc;rw[j,i,xD V.natAbs D];unfold ic;have g:((D.gcd V.natAbs:Nat):Int)∣V:=yI.2 (yW ..);have b:0<D.gcd V.natAbs:=g2h _ (sX f);generalize D.gcd V.natAbs=G at g b;obtain⟨c,rfl⟩:=g;rw[xY _ ω];have k:(G:Int)*c<0↔c<0:=by
  constructor
  . intro h;rcases g4y c 0 with a|a
    . exact a
    . have:=tU (xC (vO.2 b)) a;omega
  . intro h;exact zE ω h
 rw[vE,uA,yD _ b];simp only[k]
def C5j {V:Int} {D:Nat} (a:D≠0) (h:Nat.gcd V.natAbs D=1):rc (mkRat V D)=(ic V,nc D):=by
 rw[oI a,h,g3t,g3t];rfl
def QL {a b:Int} {c d:Nat} (f:c≠0) (g:d≠0):mkRat a c+mkRat b d=mkRat (a*d+b*c) (c*d):=Rat.mkRat_add_mkRat a b f g
def A7g {a b:Int} {c:Nat} (d:c≠0):mkRat a c+mkRat b c=mkRat (a+b) c:=by
 rw[QL d d, <-Int.add_mul,Rat.mkRat_mul_right d]
def Ni {x:B7} {n:Lu} {d:Wf} (h:(nv x.2=0->n=zi/\d= [1])/\(nv x.2≠0->n=x.1/\d=x.2)):nv d≠0/\rv x=mkRat (iv n) (nv d):=by
 rcases g4u (nv x.2=0)with a|a
 . obtain⟨rfl,rfl⟩:=h.1 a;refine⟨δ,?_⟩;unfold rv;rw[a,zC];exact(Rat.zero_mkRat _).symm
 . obtain⟨rfl,rfl⟩:=h.2 a;exact⟨a,rfl⟩
def Jj {x:B7} {n:Lu} {d:Wf} {k:Nat} (h:(nv x.2=0->n=zi/\d= [1])/\(nv x.2≠0->n=x.1/\d=x.2)) (b:x.1.2.length<=k) (c:x.2.length<=k) (f:1<=k):n.2.length<=k/\d.length<=k:=by
 rcases g4u (nv x.2=0)with a|a
 . obtain⟨rfl,rfl⟩:=h.1 a;exact⟨by simp[zi],by simpa using f⟩
 . obtain⟨rfl,rfl⟩:=h.2 a;exact⟨b,c⟩
def C8l (A B:Nat):(A:Int)/(B:Int)=((A/B:Nat):Int)/\(A:Int)%(B:Int)=((A%B:Nat):Int):=⟨rfl,rfl⟩
def C8k {A B:Nat} (c:B≠0):(A%B=0-> -(A:Int)/(B:Int)= -((A/B:Nat):Int)/\ -(A:Int)%(B:Int)=0)/\(A%B≠0-> -(A:Int)/(B:Int)= -((A/B:Nat):Int)-1/\ -(A:Int)%(B:Int)=(B:Int)-((A%B:Nat):Int)):=by
 have b:=xA A B;have d:=wL A (sX c);have a:(A:Int)=(B:Int)*((A/B:Nat):Int)+((A%B:Nat):Int):=by
  rw[<-uY, <-wY,b]
 generalize A/B=Q at*;generalize A%B=M at*;refine⟨λh=>?_,λh=>?_⟩
 . subst h;refine(g3n ω).2 ⟨?_,ω,ω⟩;rw[a];grind
 . refine(g3n ω).2 ⟨?_,ω,ω⟩;rw[a];grind
def C8j {sa sb:Bool} {A B:Nat} (l:B≠0) {a b q m:Int} (f:a=if sa=true then -(A:Int)else A) (hb:b=if sb=true then -(B:Int)else B) (hq:q=if(sa !=sb)=true then -((A/B:Nat):Int)else((A/B:Nat):Int)) (hm:m=if sa=true then -((A%B:Nat):Int)else((A%B:Nat):Int)):
 (m<0->a%b=m+B/\(sb=true->a/b=q+1)/\(sb=false->a/b=q-1))/\(¬m<0->a%b=m/\a/b=q):=by
 obtain⟨g,i⟩:=C8k (A:=A) l;obtain⟨j,k⟩:=C8l A B;generalize o:A/B=Q at*;generalize n:A%B=M at*;cases sa<;>cases sb<;>simp at f hb hq hm<;>subst f hb hq hm<;>simp only[Int.ediv_neg,Int.emod_neg]
 . exact⟨λh=>ω,λh=>⟨k,j⟩⟩
 . exact⟨λh=>ω,λh=>⟨k,by rw[j]⟩⟩
 . refine⟨λh=>?_,λh=>?_⟩
   . obtain⟨c,d⟩:=i ω;exact⟨by rw[d];omega,⟨λh=>absurd h δ,λ_=>c⟩⟩
   . obtain⟨c,d⟩:=g ω;exact⟨by rw[d];omega,c⟩
 . refine⟨λh=>?_,λh=>?_⟩
   . obtain⟨c,d⟩:=i ω;exact⟨by rw[d];omega,⟨λ_=>by rw[c];omega,λh=>by cases h⟩⟩
   . obtain⟨c,d⟩:=g ω;exact⟨by rw[d];omega,by rw[c];omega⟩
def Nl {q:B7} {k:Nat} (f:A7 q.1.2) (g:A7 q.2) (i:q.1.2.length<=k) (a:q.2.length<=k) (h:1<=k):(ic (rv q).num).2.length<=k/\(nc (rv q).den).length<=k:=by
 unfold rv;rcases g4u (nv q.2=0)with a|a
 . rw[a,zC];have b:(0:Rat).num=0:=rfl;have c:(0:Rat).den=1:=rfl;rw[b,c,mP,Vp];exact⟨rP _,h⟩
 . obtain⟨b,c⟩:=Pq (x:=iv q.1) (d:=nv q.2) a;have a:=D2 f;have f:=D2 g;rw[b,c,Af];refine⟨?_,qY (J7 (xB _ _)) ω⟩;refine qY (J7 ?_) (qY a i);rw[<-J5];exact xP _ _
def ZT {A:Int} {G:Nat} (hG:0<G) (b:(G:Int)∣A):ic (A/(G:Int))=(decide (A<0),nc (A.natAbs/G)):=by
 obtain⟨c,rfl⟩:=b;rw[xY _ ω];have d:(G:Int)*c<0↔c<0:=by
  constructor
  . intro h;rcases g4y c 0 with a|a
    . exact a
    . have:=tU (xC (vO.2 hG)) a;omega
  . intro h;exact zE ω h
 unfold ic;rw[vE,uA,yD _ hG];simp only[d]
def IG {A B:Int} (a:0<B):Rat.divInt A B=mkRat A B.natAbs:=by
 rw[<-g0s,(ω:((B.natAbs:Nat):Int)=B)]
def A1a {A B:Int} (a:B<0):Rat.divInt A B=mkRat (-A) B.natAbs:=by
 rw[<-g0s,(ω:((B.natAbs:Nat):Int)= -B),Rat.neg_divInt_neg]
def B9j {A B:Int} (a:B≠0) {G:Nat} (hG:G=Nat.gcd A.natAbs B.natAbs):0<G/\(B/(G:Int)<0↔B<0)/\(B<0->(ic (-(A/(G:Int))),(ic (-(B/(G:Int)))).2)=rc (Rat.divInt A B))/\(¬B<0->(ic (A/(G:Int)),(ic (B/(G:Int))).2)=rc (Rat.divInt A B)):=by
 have d:B.natAbs≠0:=ω
 have a:0<G:=by rw[hG];exact g1z _ ω
 have c:(G:Int)∣A:=by rw[hG];exact yI.2 (g5i ..)
 have b:(G:Int)∣B:=by rw[hG];exact yI.2 (yW ..)
 refine⟨a,?_,λh=>?_,λh=>?_⟩
 . have:=sA (·.1) (ZT a b);exact xJ.1 this
 . rw[<-g4c c, <-g4c b,ZT a (Int.dvd_neg.2 c),ZT a (Int.dvd_neg.2 b),A1a h,oI d,xK,xK,hG]
 . rw[ZT a c,ZT a b,IG ω,oI d,hG]
def A1b (q:Rat):Rat.divInt (-q.num) q.den= -q:=by
 have:=xO (-q);rwa[g1y,g3z]at this
def A6i (p q:Rat):Rat.divInt (p.num*q.den+q.num*p.den) (p.den*q.den)=p+q:=by
 have a:=g3x p;have a:=g3x q;rw[<-Rat.divInt_add_divInt _ _ ω ω,xO,xO]
def A1c (p q:Rat):Rat.divInt (p.num*q.num) (p.den*q.den)=p*q:=by
 rw[<-g3j,xO,xO]
end Go.Proofs.YtknoakmaeleclaaGreat
