/- Part. -/
import Derived.Test.YtdbnghliccifcaaGreatKLC
set_option linter.all false
namespace Go.Vc
open Go Go.RowKit Go.Gw
open Go.IntKind (i64 u64 u32)
def C4.trans {a b c:St} (h:C4 a b) (k:C4 b c):C4 a c:=by
 refine⟨qX h.ct k.ct,λs d g=>?_,λq d g=>?_,?_⟩
 . have e:=k.s s d (qX g h.ct);rw[e]at d g|-;exact h.s s d g
 . have e:=k.l q d (qX g h.ct);rw[e]at d g|-;exact h.l q d g
 exact h.f.trans h.ct k.f
def C4.setS (b:St) (d:Nat) (x:DV):C4 b (b.setS d x):=by
 refine⟨uI _,λs c a=>?_,λ_ _ _=>rfl,Bd.refl _ _⟩;rw[St.eS_setS]at c a|-;split at a
 . simp only at a;omega
 rename_i g;rw[qL g];cases f:GV d (b.S s)with
 |true=>simp only[f,qS]at a;omega
 |false=>rfl
def C4.setL (b:St) (k:Nat) (x:LC):C4 b (b.setL k x):=by
 refine⟨uI _,λ_ _ _=>rfl,λq c a=>?_,Bd.refl _ _⟩;rw[St.eL_setL]at c a|-;split at a
 . simp only at a;omega
 rename_i d;rw[qL d]
def C4.newL (b:St) (x:LC):C4 b (b.newL x):=by
 refine⟨uI _,λ_ _ _=>rfl,λq c a=>?_,Bd.refl _ _⟩;rw[St.eL_newL]at c a|-;split at a
 . simp only at a;omega
 rename_i d;rw[qL d]
def Q6.mapV (n:Nat) (p:DV->Bool) (f:DV->DV):∀l,Q6 n l (Vc.mapV p f (n+1) l)
 | []=>trivial
 | (s,x)::l=>by
  refine⟨rfl,λh=>?_,Q6.mapV n p f l⟩;cases a:p x.2 with
  |true=>simp only[a,qS]at h;omega
  |false=>rfl
def Bd.mapV (n:Nat) (p:DV->Bool) (f:DV->DV):∀l,Bd n l (l.map (Vc.mapV p f (n+1)))
 | []=>trivial
 |x::l=>⟨Q6.mapV n p f x,Bd.mapV n p f l⟩
def C4.freeze (b:St) (k:Nat) (c:C):C4 b (b.freeze k c):=by
 refine⟨uI _,λs f a=>?_,λq f a=>?_,Bd.mapV _ _ _ _⟩
 . rw[St.eS_freeze]at f a|-;cases d:Zr k (b.S s)with
   |true=>simp only[d,qS]at a;omega
   |false=>rfl
 rw[St.eL_freeze]at f a|-;cases d:fC k (if q=k then(b.ct+1,LC.none)else b.eL q).2 with
 |true=>simp only[d,qS]at a;omega
 |false=>
  simp only[d,rI]at a|-;split at a
  . simp only at a;omega
  rename_i g;rw[qL g]
def C4.settle (a:St) (cs:List C):C4 a (settle a cs):=by
 induction cs generalizing a with
 |nil=>exact C4.refl _
 |cons c cs b=>
  cases c with
  |row k=>
   simp only[Vc.settle];cases g:a.L k with
   |row t e l=>
    cases Nat.ble a.nm k with
    |true=>exact(C4.freeze a k _).trans (b _)
    |false=>exact b a
   |rows t e f h al d=>
    cases d with
    |some _=>exact b a
    |none=>
     cases Nat.ble a.nm k with
     |true=>exact(C4.freeze a k _).trans (b _)
     |false=>exact b a
   | _=>exact b a
  |win k _ _ _=>
   simp only[Vc.settle];cases d:a.L k with
   |row t e l=>
    cases Nat.ble a.nm k with
    |true=>exact(C4.freeze a k _).trans (b _)
    |false=>exact b a
   | _=>exact b a
  |mp k=>
   simp only[Vc.settle];cases d:a.L k with
   |map _ _ _ _ _=>
    cases Nat.ble a.nm k with
    |true=>exact(C4.freeze a k _).trans (b _)
    |false=>exact b a
   | _=>exact b a
  | _=>exact b a
def C4.settleO (a:St) (x:Operand):C4 a (settleO a x):=by
 unfold Vc.settleO;split
 . exact C4.settle _ _
 exact C4.refl _
def C4.settleP (a:St) (b:List (Nat×Operand)):C4 a (settleP a b):=by
 induction b generalizing a with
 |nil=>exact C4.refl _
 |cons x b c=>exact(C4.settleO a x.2).trans (c _)
def C4.thawS (a:St) (s:SV):C4 a (thawS a s):=by
 unfold Vc.thawS;split
 . unfold thaw;split
   . cases Nat.ble a.nm _ with
     |true=>exact(C4.setL a _ _).trans (C4.setL _ _ _)
     |false=>exact C4.refl a
   exact C4.refl a
 exact C4.refl a
def C4.stillB (cx:Cx) (a:St) (k:Nat):C4 a (stillB cx a k):=by
 unfold Vc.stillB;split
 . rename_i T b _;cases Nat.ble a.nm k with
   |false=>exact C4.refl _
   |true=>
    simp only[qS];split
    . split
      . split
        . exact((C4.settle a b).trans (C4.setL _ _ _)).trans (C4.setL _ _ _)
        exact C4.refl _
      exact C4.refl _
    exact C4.refl _
 exact C4.refl _
def C4.stillL (cx:Cx):∀(b:List Nat) (a:St),C4 a (b.foldl (Vc.stillB cx) a)
 | [],a=>C4.refl a
 |k::b,a=>(C4.stillB cx a k).trans (C4.stillL cx b _)
def C4.stillF (cx:Cx):∀(a:St) (as:List AM) (ss:List SV),C4 a (stillF cx a as ss)
 |a,[],_=>C4.refl a
 |a,_:: _,[]=>C4.refl a
 |a,b::as,s::ss=>by
  simp only[Vc.stillF];split
  . exact(C4.stillL cx _ a).trans (C4.stillF cx _ as ss)
  exact C4.stillF cx a as ss
def C4.settleA:∀(as:List AM) (ss:List SV) (a:St),C4 a (settleA a as ss)
 | [],_,a=>C4.refl a
 | .val _ _::as,s::ss,a=>(C4.settle a s.cs).trans (C4.settleA as ss _)
 | .row _ _::as,s::ss,a=>(C4.thawS a s).trans (C4.settleA as ss _)
 | .rows _ _ _::as,_::ss,a=>C4.settleA as ss a
 | .rows _ _ _:: _,[],a=>C4.refl a
 | .box _ _::as,_::ss,a=>C4.settleA as ss a
 | .fn _ _ _::as,_::ss,a=>C4.settleA as ss a
 | .val _ _:: _,[],a=>C4.refl a
 | .row _ _:: _,[],a=>C4.refl a
 | .box _ _:: _,[],a=>C4.refl a
 | .fn _ _ _:: _,[],a=>C4.refl a
def C4.dropM:∀(b:List Nat) (a:St),C4 a (dropM a b)
 | [],a=>C4.refl a
 |k::b,a=>(C4.setL a k _).trans (C4.dropM b _)
def C4.addM:∀(as:List AM) (o:Od as) (b:List Nat) (a:St),C4 a (addM as o b a)
 | [],_,b,a=>by cases b<;>exact C4.refl a
 | .row t e::as,o,[],a=>C4.refl a
 | .box t e::as,o,[],a=>C4.refl a
 | .row t e::as,o,k::b,a=>(C4.setL a k _).trans (C4.addM as o.2 b _)
 | .box t e::as,o,k::b,a=>(C4.setL a k _).trans (C4.addM as o.2 b _)
 | .val _ _::as,o,b,a=>C4.addM as o b a
 | .fn _ _ _::as,o,b,a=>C4.addM as o b a
 | .rows _ _ _::as,o,[],a=>C4.refl a
 | .rows _ _ _::as,o,k::b,a=>(C4.setL a k _).trans (C4.addM as o.2 b _)
def C4.place:∀(rs:List RT) (r:Br rs) (a:St),C4 a (G2 rs r a).2
 | [],_,a=>C4.refl a
 | .val _ _::rs,r,a=>C4.place rs r.2 a
 | .own t e::rs,r,a=>(C4.newL a (.row t e r.1)).trans (C4.place rs r.2 _)
 | .obox T t::rs,r,a=>(C4.newL a (.box T (explode t r.1))).trans (C4.place rs r.2 _)
 | .rows t e b::rs,r,a=>(C4.newL a (.rows t e b r.1 [] none)).trans (C4.place rs r.2 _)
def C4.boxS (a:St) (d:Tmp) (T:TypeId) (cs:List C):C4 a (boxS a d T cs):=(C4.newL _ _).trans (C4.setS _ _ _)
def C4.rowS (a:St) (d:Tmp) (t:Ty) (e:TypeId) (l:List t.den):C4 a (rowS a d t e l):=(C4.newL _ _).trans (C4.setS _ _ _)
def C4.dropR (a:St) (c:C):C4 a (dropR a c):=by
 cases c with
 |row k=>exact C4.setL _ _ _
 | _=>exact C4.refl _
section
variable {cx:Cx} {sp:G1} {all:List Oper} {k k':St->Prop} {st:St}
def C4.detO (st:St) (x:Operand):C4 st (detO st x):=by
 have c:∀(b:Bool) (a:St),C4 st a->C4 st (bif b then a else st):=by
  intro b a h;cases b
  . exact C4.refl _
  exact h
 unfold Vc.detO;split
 . unfold B7q;split
   . split
     . split
       . split
         . exact c _ _ ((C4.setL _ _ _).trans (C4.setL _ _ _))
         exact C4.refl _
       exact C4.refl _
     exact C4.refl _
   exact C4.refl _
 exact C4.refl _
def fO {d:Tmp} {T:TypeId} {x:Operand} {a:St} (h:fN cx st d T x=some a):C4 st a:=by
 simp only[fN,qH,bind_some]at h;obtain⟨ti,_,c,_,h⟩:=h;split at h
 . split at h
   . obtain⟨_,h⟩:=E6 h;cases h;exact((C4.newL _ _).trans (C4.setL _ _ _)).trans (C4.setS _ _ _)
   cases h
 cases h
def A8l {d:Tmp} {T:TypeId} {x y:Operand} {a:St} (h:nH cx st d T x y=some a):C4 st a:=by
 simp only[nH,qH,bind_some]at h;obtain⟨ti,_,t,_,b,_,c,_,f,_,h⟩:=h;cases b with
 |row k=>
  simp only at h;split at h
  . split at h
    . obtain⟨_,h⟩:=E6 h;cases h;exact(C4.setL _ _ _).trans (C4.setS _ _ _)
    cases h
  cases h
 | _=>simp at h
def B2l {d:Tmp} {op:Op} {φ:Option Prop} {f:St} (h:B2k cx st d op=some (φ,f)):C4 st f:=by
 unfold B2k at h;split at h
 . simp only[qH,bind_some]at h;obtain⟨s,_,h⟩:=h;obtain⟨_,h⟩:=E6 h;cases h;exact C4.boxS _ _ _ _
 . simp only[qH,bind_some]at h;obtain⟨s,_,h⟩:=h;cases h;exact C4.boxS _ _ _ _
 . simp only[qH,bind_some]at h;obtain⟨ti,_,t,_,n,_,o,_,h⟩:=h;obtain⟨_,h⟩:=E6 h;cases h;exact(C4.settleP _ _).trans (C4.rowS _ _ _ _ _)
 . simp only[qH,bind_some]at h;obtain⟨ti,_,t,_,l,_,k,_,h⟩:=h;cases c:ti.rows with
   |true=>
    simp only[c,qS,qK]at h;obtain⟨g,a,h⟩:=h;cases h;unfold YH at a;split at a
    . simp only[qK]at a;obtain⟨_,_,a⟩:=a;subst a;exact(C4.newL _ _).trans (C4.setS _ _ _)
    cases a
   |false=>
    simp only[c,rI]at h;obtain⟨_,h⟩:=E6 h;cases h;exact C4.rowS _ _ _ _ _
 . split at h
   . obtain⟨_,h⟩:=E6 h;simp only[C1y,qH,bind_some]at h;obtain⟨ti,_,t,_,i,_,j,_,l,_,r,_,h⟩:=h;obtain⟨_,h⟩:=E6 h;cases h;exact(C4.detO _ _).trans ((C4.dropR _ _).trans (C4.rowS _ _ _ _ _))
   cases h
 . simp only[qH,bind_some]at h;obtain⟨ti,_,h⟩:=h;split at h
   . cases h;exact(C4.newL _ _).trans (C4.setS _ _ _)
   . simp only[qK]at h;obtain⟨_,_,h⟩:=h;cases h;exact(C4.newL _ _).trans (C4.setS _ _ _)
   cases h
 . split at h
   . simp only[qH,bind_some]at h;obtain⟨ti,_,h⟩:=h;split at h
     . simp only[bind_some]at h;obtain⟨_,_,_,_,h⟩:=h;cases h;exact C4.setS _ _ _
     cases h
   cases h
 . simp only[qK]at h;obtain⟨g,b,h⟩:=h;cases h;exact fO b
 . simp only[qH,bind_some]at h;obtain⟨ti,_,h⟩:=h;split at h
   . simp only[bind_some]at h;obtain⟨_,_,_,_,h⟩:=h;cases h;exact(C4.settleO _ _).trans ((C4.newL _ _).trans (C4.setS _ _ _))
   cases h
 . simp only[qH,bind_some]at h;obtain⟨_,_,h⟩:=h;split at h
   . split at h
     . obtain⟨_,h⟩:=E6 h;cases h;exact C4.setS _ _ _
     cases h
   cases h
 . split at h
   . simp only[qK]at h;obtain⟨g,b,h⟩:=h;cases h;exact A8l b
   cases h
 cases h
def A2e {T:TypeId} {x:Operand} {a:St} (h:WZ cx st T x=some a):C4 st a:=by unfold WZ at h;cases h
def YJ {T:TypeId} {m x y:Operand} {a:St} (h:PV cx st T m x y=some a):C4 st a:=by
 simp only[PV,qH,bind_some]at h;obtain⟨ti,_,c,_,b,_,d,_,h⟩:=h;split at h
 . simp only[bind_some]at h;obtain⟨_,_,_,_,_,_,h⟩:=h;cases h;exact(C4.settleO _ _).trans (C4.setL _ _ _)
 cases h
def A4d {ti:TI} {s:SV} {k sz i off:Nat} {a:St} (h:lG ti st s k sz i off=some a):C4 st a:=by
 unfold lG at h;split at h
 . obtain⟨_,h⟩:=E6 h;split at h
   . cases h;exact C4.setL _ _ _
   cases h
 . split at h
   . split at h
     . obtain⟨_,h⟩:=E6 h;split at h
       . cases h;exact C4.setL _ _ _
       cases h
     cases h
   cases h
 cases h
def A4e {T:TypeId} {p v:Operand} {φ:Option Prop} {a:St} (h:aI cx st T p v=some (φ,a)):C4 st a:=by
 simp only[aI,qH,bind_some]at h;obtain⟨ti,_,c,_,h⟩:=h;split at h
 . simp only[bind_some]at h;obtain⟨s,_,h⟩:=h;split at h
   . obtain⟨_,h⟩:=E6 h;cases h;exact C4.setL _ _ _
   cases h
 . split at h
   . split at h
     . obtain⟨_,h⟩:=E6 h;unfold Vc.attach at h;split at h
       . split at h
         . obtain⟨_,h⟩:=E6 h;cases h;exact(((C4.setL _ _ _).trans (C4.setL _ _ _)).trans (C4.setL _ _ _)).trans (C4.setL _ _ _)
         cases h
       cases h
     cases h
   simp only[bind_some,qK]at h;obtain⟨s,_,d,b,h⟩:=h;cases h;exact(C4.settleO _ _).trans (A4d b)
 cases h
def Y8 {sh:Bool} {mu:List Nat} :∀ {as:List AM} {ss:List SV} {k k':A3 as->Prop},O1 cx sp st mu sh as ss k->(∀x,k x->k' x)->O1 cx sp st mu sh as ss k'
 | [],[],_,_,h,b=>b _ h
 | [],_:: _,_,_,h,_=>h.elim
 |a::r,[],_,_,h,_=>by cases a<;>exact h.elim
 | .val a t::r,s::ss,_,_,h,b=>by
  simp only[O1]at h|-;split at h
  . exact Y8 h λy=>b _
  exact h.elim
 | .row t d::r,s::ss,_,_,h,c=>by
  simp only[O1]at h|-;split at h
  . split at h
    . obtain⟨b,h⟩:=C0 h;simp only[b,qS];exact Y8 h λy=>c _
    exact h.elim
  exact h.elim
 | .box t d::r,s::ss,_,_,h,c=>by
  simp only[O1]at h|-;split at h
  . split at h
    . obtain⟨b,h⟩:=C0 h;simp only[b,qS];exact Y8 h λy=>c _
    exact h.elim
  exact h.elim
 | .rows t d f::r,s::ss,_,_,h,c=>by
  simp only[O1]at h|-;split at h
  . split at h
    . obtain⟨b,h⟩:=C0 h;simp only[b,qS];exact Y8 h λy=>c _
    exact h.elim
  exact h.elim
 | .fn j n l::r,s::ss,_,_,h,b=>by
  simp only[O1]at h|-;split at h
  . split at h
    . obtain⟨c,h⟩:=C0 h;simp only[c,qS];obtain⟨g,i,f,h⟩:=h;exact⟨g,i,f,Y8 h λy=>b _⟩
    exact h.elim
  . split at h
    . rename_i d;rw[dif_pos d];exact⟨h.1,h.2.1,Y8 h.2.2 λy=>b _⟩
    exact h.elim
  exact h.elim
def RV {d:Tmp} {s:A8} {ss:List SV} (h:Zh cx sp st d s ss k) (g:∀f,C4 st f->k f->k' f):Zh cx sp st d s ss k':=by
 unfold Zh at h|-;split at h
 . obtain⟨i,h⟩:=C0 h;simp only[i,qS];cases j:Q7 s.args<;>simp only[j,rI,qS]at h|-
   . exact Y8 h λx a=>⟨a.1,λr c b=>g _ ((C4.place _ _ _).trans (C4.setS _ _ _)) (a.2 r c b)⟩
   exact Y8 h λx a=>⟨a.1,λr o c l b n=>g _ ((C4.dropM _ _).trans ((C4.place _ _ _).trans ((C4.addM _ _ _ _).trans (C4.setS _ _ _)))) (a.2 r o c l b n)⟩
 exact h
def iY {d:Tmp} {f:Operand} {args:List Operand} (h:Um cx sp st d f args k) (b:∀a,C4 st a->k a->k' a):Um cx sp st d f args k':=by
 unfold Um at h|-;split at h
 . split at h
   . split at h
     . exact⟨h.1,h.2.1,λo=>b _ (C4.setS _ _ _) (h.2.2 o)⟩
     exact h
   exact h
 split at h
 . split at h
   . obtain⟨i,h⟩:=C0 h;simp only[i,qS];rename_i s _ _;cases g:s.inl.filter λc=>c.has d with
     |some c=>
      simp only[g]at h|-;exact c.step h λa r ev l=>b _ (ev.trans (C4.setS _ _ _)) l
     |none=>
     simp only[g]at h|-;cases n:s.shared<;>simp only[n,rI,qS]at h|-
     . exact RV h b
     split at h
     . obtain⟨j,h⟩:=C0 h;simp only[j,qS];exact RV h λa ev=>b a (((C4.stillF _ _ _ _).trans (C4.settleA _ _ _)).trans ev)
     exact h
   exact h
 exact h
def cP {ctx:Ia} {t:Tmp} {b:Bool} {d:Tmp} {f:Operand} {args:List Operand} (h:Rm cx sp st ctx t b d f args k) (a:∀l,C4 st l->k l->k' l):Rm cx sp st ctx t b d f args k':=by
 unfold Rm at h|-;split at h
 . split at h
   . split at h
     . exact⟨h.1,h.2.1,λx=>a _ (C4.setS _ _ _) (h.2.2 x)⟩
     exact h
   exact h
 split at h
 . split at h
   . split at h
     . split at h
       . obtain⟨g,h⟩:=C0 h;simp only[g,qS];exact a _ (C4.setS _ _ _) h
       exact h
     obtain⟨g,h⟩:=C0 h;simp only[g,qS];rename_i z _ _ _ _;cases s:Q7 z.args<;>simp only[s,rI,qS]at h|-
     case true=>
      obtain⟨o,h⟩:=C0 h;simp only[o,qS];unfold iX at h|-;split at h
      . obtain⟨n,h⟩:=C0 h;simp only[n,qS];refine Y8 h λA j=>⟨λc=>⟨(j.1 c).1,λr y i u v w=>?_⟩,λc=>?_⟩
        . have:=(j.1 c).2 r y i u v w;split at this
          . exact a _ ((C4.dropM _ _).trans ((C4.place _ _ _).trans ((C4.addM _ _ _ _).trans (C4.setS _ _ _)))) this
          exact this
        have:=j.2 c;split at this
        . exact a _ (C4.setS _ _ _) this
        exact this
      exact h
     refine Y8 h λA h=>⟨h.1,λr i=>?_⟩
     have:=h.2 r i;split at this
     . exact a _ (C4.setS _ _ _) this
     exact this
   exact h
 exact h
def A3a {d:Tmp} {T:TypeId} {m x:Operand} {a:St} (h:YI cx st d T m x=some a):C4 st a:=by unfold YI at h;cases h
def A2k {m s y:Operand} {a:St} (h:XN st m s y=some a):C4 st a:=by unfold XN at h;cases h
def P5 {α:Type} {c:Bool} {a:Option α} {x:α} (h:(bif c then a else none)=some x):a=some x:=by
 cases c with
 |true=>exact h
 |false=>cases h
def C4.giveS (st:St) (k:Nat):C4 st (giveS st k):=by
 unfold Vc.giveS;split
 . split
   . cases Nat.ble st.nm k&&Nat.ble st.nm _ && !(Nat.beq _ k)with
     |true=>exact(C4.setL _ _ _).trans (C4.setL _ _ _)
     |false=>exact C4.refl _
   exact C4.setL _ _ _
 exact C4.refl _
def B0d {φ:Option Prop} {b:St} {d:Tmp} {p i:Nat} (a:gX st d p i=some (φ,b)):C4 st b:=by
 unfold gX at a;split at a
 . have a:=P5 a;cases a;exact(((C4.setL _ _ _).trans (C4.newL _ _)).trans (C4.setL _ _ _)).trans (C4.setS _ _ _)
 cases a
def A9l {φ:Option Prop} {b:St} {p r i:Nat} (a:ZR st p r i=some (φ,b)):C4 st b:=by
 unfold ZR at a;split at a
 . split at a
   . have a:=P5 a;split at a
     . cases a;exact((C4.setL _ _ _).trans (C4.setL _ _ _)).trans (C4.setL _ _ _)
     . cases a;exact((C4.setL _ _ _).trans (C4.setL _ _ _)).trans (C4.setL _ _ _)
     cases a
   cases a
 cases a
def pI {φ:Option Prop} {b:St} {op:Op} {f:Option Tmp} (a:Ov cx st f op=some (φ,b)):C4 st b:=by
 unfold Ov at a;split at a
 . simp only[qH,bind_some]at a;obtain⟨d,_,ti,_,a⟩:=a;have a:=P5 a;simp only[bind_some]at a;obtain⟨t,_,n,_,l,_,c,_,a⟩:=a;have a:=P5 a;cases a;exact(C4.newL _ _).trans (C4.setS _ _ _)
 . simp only[qH,bind_some]at a;obtain⟨d,_,ti,_,c,_,a⟩:=a;split at a
   . have a:=P5 a;exact(C4.giveS _ _).trans (B0d a)
   cases a
 . split at a
   . simp only[qH,bind_some]at a;obtain⟨ti,_,c,_,r,_,a⟩:=a;split at a
     . have a:=P5 a;exact A9l a
     cases a
   cases a
 . simp only[qH,bind_some]at a;obtain⟨d,_,ti,_,c,_,a⟩:=a;split at a
   . simp only[bind_some]at a;obtain⟨g,_,a⟩:=a;have a:=P5 a;cases a;exact((C4.setL _ _ _).trans (C4.newL _ _)).trans (C4.setS _ _ _)
   cases a
 . simp only[qH,bind_some]at a;obtain⟨d,_,c,_,a⟩:=a;split at a
   . split at a
     . have a:=P5 a;cases a;exact C4.setS _ _ _
     cases a
   cases a
 . split at a
   . simp only[qH,bind_some]at a;obtain⟨ti,_,c,_,k,_,a⟩:=a;split at a
     . simp only[bind_some]at a;obtain⟨g,_,j,_,a⟩:=a;cases a;exact C4.setL _ _ _
     cases a
   cases a
 . split at a
   . simp only[qH,bind_some]at a;obtain⟨ti,_,t,_,h,_,i,_,o,_,a⟩:=a;split at a
     . simp only[bind_some]at a;obtain⟨l,_,a⟩:=a;have a:=P5 a;cases a;exact((C4.setL _ _ _).trans (C4.newL _ _)).trans (C4.setS _ _ _)
     cases a
   cases a
 cases a
def A9d {φ:Option Prop} {b:St} {q r i:Nat} (a:YO st q r i=some (φ,b)):C4 st b:=by
 unfold YO at a;split at a
 . split at a
   . split at a
     . have a:=P5 a;cases a;exact((C4.setL _ _ _).trans (C4.setL _ _ _)).trans (C4.setL _ _ _)
     cases a
   cases a
 cases a
def A3y {φ:Option Prop} {b:St} {op:Op} {d:Option Tmp} (a:AS cx st d op=some (φ,b)):C4 st b:=by
 unfold AS at a;split at a
 . split at a
   . simp only[qH,bind_some]at a;obtain⟨ti,_,a⟩:=a;have a:=P5 a;simp only[bind_some]at a;obtain⟨t,_,f,_,c,_,a⟩:=a;split at a
     . simp only[bind_some]at a;obtain⟨l,_,a⟩:=a;have a:=P5 a;cases a;exact((C4.setL _ _ _).trans (C4.newL _ _)).trans (C4.setS _ _ _)
     cases a
   cases a
 . split at a
   . simp only[qH,bind_some]at a;obtain⟨ti,_,c,_,r,_,a⟩:=a;split at a
     . exact A9d (P5 a)
     cases a
   cases a
 . split at a
   . simp only[qH,bind_some]at a;obtain⟨ti,_,a⟩:=a;have a:=P5 a;simp only[bind_some]at a;obtain⟨t,_,f,_,g,_,h,_,i,_,a⟩:=a;split at a
     . simp only[bind_some]at a;obtain⟨j,_,a⟩:=a;have a:=P5 a;cases a;exact(((C4.dropR _ _).trans (C4.setL _ _ _)).trans (C4.newL _ _)).trans (C4.setS _ _ _)
     cases a
   cases a
 cases a
def A3f {φ:Option Prop} {b:St} {op:Op} {c:Option Tmp} (a:Zx cx st c op=some (φ,b)):C4 st b:=by
 unfold Zx at a;split at a
 . rename_i y d;cases a;exact pI d
 exact A3y a
def fM {ctx:Ia} {s d:Tmp} {b:Bool} {T:TypeId} {x:Operand} {c:St} (a:fL cx st ctx s b d T x=some c):C4 st c:=by
 simp only[fL,qH,bind_some]at a;obtain⟨ti,_,f,_,a⟩:=a;split at a
 . split at a
   . have a:=P5 a;cases a;exact((C4.newL _ _).trans (C4.setL _ _ _)).trans (C4.setS _ _ _)
   cases a
 cases a
def A3g {d:Tmp} {p:Nat} (h:fU st d p k) (b:∀a,C4 st a->k a->k' a):fU st d p k':=by
 unfold fU at h|-;split at h
 . obtain⟨a,h⟩:=eG h;rw[a];exact⟨λa=>b _ (((C4.setL _ _ _).trans (C4.setL _ _ _)).trans (C4.setS _ _ _)) (h.1 a),λc y f a=>b _ ((C4.setL _ _ _).trans (C4.setS _ _ _)) (h.2 c y f a)⟩
 exact h
def kG {d:Tmp} {x:Operand} (h:EC st d x k) (b:∀a,C4 st a->k a->k' a):EC st d x k':=by
 unfold EC at h|-;split at h
 . split at h
   . exact A3g h b
   exact h
 exact h
def JJ {o:Oper} (h:Wv cx sp all o k st) (a:∀d,C4 st d->k d->k' d):Wv cx sp all o k' st:=by
 obtain⟨t,w,y,x,r,u⟩:=o;unfold Wv at h|-;simp only at h|-;split at h
 . split at h
   . split at h
     . exact F1.2 ⟨(F1.1 h).1,a _ (C4.setS _ _ _) (F1.1 h).2⟩
     exact h
   split at h
   . rename_i b;exact F1.2 ⟨(F1.1 h).1,a _ (A3f b) (F1.1 h).2⟩
   rename_i j;clear j;split at h
   . split at h
     . split at h
       . rename_i b;exact F1.2 ⟨(F1.1 h).1,a _ (A4e b) (F1.1 h).2⟩
       exact h
     exact h
   . split at h
     . split at h
       . rename_i b;exact a _ (YJ b) h
       exact h
     exact h
   . split at h
     . split at h
       . rename_i b;exact a _ (YJ b) h
       exact h
     exact h
   . split at h
     . exact iY h a
     exact h
   . split at h
     . rename_i z str v A s;cases str with
       |true=>exact h
       |false=>exact kG h a
     exact h
   . split at h
     . split at h
       . rename_i b;exact a _ (A3a b) h
       exact h
     exact h
   . split at h
     . split at h
       . rename_i b;exact a _ (A2k b) h
       exact h
     exact h
   . split at h
     . split at h
       . rename_i b;exact a _ (A2e b) h
       exact h
     exact h
   split at h
   . split at h
     . rename_i f;exact F1.2 ⟨(F1.1 h).1,a _ (B2l f) (F1.1 h).2⟩
     exact h
   exact h
 split at h
 . obtain⟨g,h⟩:=C0 h;simp only[g,qS];split at h
   . obtain⟨n,h⟩:=C0 h;simp only[n,qS];split at h
     . obtain⟨l,h⟩:=C0 h;simp only[l,qS];exact F1.2 ⟨(F1.1 h).1,a _ (C4.setS _ _ _) (F1.1 h).2⟩
     . exact h
     split at h
     . exact cP h a
     . split at h
       . rename_i c;refine a _ ?_ h;simp only[iT,qH,bind_some]at c;obtain⟨_,_,_,_,_,_,_,_,c⟩:=c;obtain⟨_,c⟩:=E6 c;cases c;exact C4.setS _ _ _
       exact h
     . split at h
       . rename_i i;exact a _ (fM i) h
       exact h
     exact h
   exact h
 exact h
def SK:∀ {ops:List Oper} {k k':St->Prop} {st:St},aB cx sp all ops k st->(∀a,C4 st a->k a->k' a)->aB cx sp all ops k' st
 | [],_,_,st,h,a=>a st (C4.refl st) h
 | _:: _,_,_,_,h,f=>JJ h λb a c=>SK c λg b d=>f g (a.trans b) d
end
inductive Wq where
 |val (t:Ty)
 |own (t:Ty) (e:TypeId)
 |ownR (t:Ty) (e e':TypeId)
 |fix (k:Nat)
 |fixB (k:Nat)
def Wq.pin:Wq->Option Nat
 | .fix k=>some k
 | .fixB k=>some k
 | _=>none
@[reducible] def shD:List Wq->Type->Type
 | [],T=>T
 | .val t::r,T=>t.den×shD r T
 | .own t _::r,T=>List t.den×shD r T
 | .ownR t _ _::r,T=>List (List t.den)×shD r T
 | .fix _::r,T=>shD r T
 | .fixB _::r,T=>shD r T
inductive LT where
 |row (t:Ty) (e:TypeId)
 |map (ka:Bool) (kt:Ty) (va:Bool) (vt:Ty)
 |rows (t:Ty) (e e':TypeId)
 |iter (ka:Bool) (kt:Ty) (va:Bool) (vt:Ty)
 |nest (t:Ty) (e e':TypeId)
 |itM (ka:Bool) (kt:Ty) (va:Bool) (vt:Ty) (q:Nat)
@[reducible] def LT.den:LT->Type
 | .row t _=>List t.den
 | .map _ a _ b=>List (a.den×b.den)
 | .rows t _ _=>List (List t.den)
 | .iter _ a _ b=>List (a.den×b.den)
 | .nest t _ _=>List t.den×List Nat
 | .itM _ a _ b _=>List (a.den×b.den)×List (a.den×b.den)
def LT.wf:(l:LT)->l.den->Prop
 | .row t _,x=>(Ty.sl t).wf x
 | .map a b c d,x=>(Ty.mp a b c d).wf x
 | .rows t _ _,x=>(Ty.sl (Ty.sl t)).wf x
 | .iter a b c d,x=>(Ty.mp a b c d).wf x
 | .nest _ _ _,x=>x.1.length<=9223372036854775807
 | .itM a b c d _,x=>(Ty.mp a b c d).wf x.2
def LT.lc:(l:LT)->l.den->LC
 | .row t e,x=> .row t e x
 | .map a b c d,x=> .map a b c d x
 | .rows t e a,x=> .rows t e a x [] none
 | .iter a b c d,x=> .iter a b c d x none
 | .nest t e a,x=> .nest t e a x.1 [] x.2
 | .itM a b c d q,x=> .itM a b c d x.1 x.2 none q
def plugL:List (Nat×LT)->St->St
 | [],a=>a
 | (k, .nest _ _ _)::r,a=>plugL r (giveS a k)
 | (k, .row _ _)::r,a=>plugL r (thaw a k)
 | _::r,a=>plugL r a
def LT.need:LT->Option Nat
 | .itM _ _ _ _ q=>some q
 | _=>none
def A3d (a:St) (t:Ty) (e e':TypeId) (k:Nat):Option (List t.den×List Nat):=match a.L k with
 | .nest f d a c [] b=>if h:f=t then(bif Nat.beq d e&&Nat.beq a e' then some (h▸c,b)else none)else none
 | _=>none
def A2x (a:St) (k:Nat):(l:LT)->Option l.den
 | .row t e=>Wu a t e k
 | .map b c d f=>mapM a b c d f k
 | .rows t e b=>rowsAt a t e b k
 | .iter b d g i=>match a.L k with
  | .iter c f h j n _=>if o:Ty.mp c f h j=Ty.mp b d g i then some (o▸(show(Ty.mp c f h j).den from n):(Ty.mp b d g i).den)else none
  | _=>none
 | .nest t e b=>A3d a t e b k
 | .itM b c f h q=>match a.L k with
  | .itM a d g i j left _ o=>bif Nat.beq q o&&Nat.blt q k then(if n:Ty.mp a d g i=Ty.mp b c f h then some (n▸(show(Ty.mp a d g i).den×(Ty.mp a d g i).den from(j,left)):(Ty.mp b c f h).den×(Ty.mp b c f h).den)else none)else none
  | _=>none
@[reducible] def pX:List (Nat×LT)->Type
 | []=>Unit
 | (_,t)::r=>t.den×pX r
structure HO where
 keepS:List Nat
 keepL:List Nat
 modS:List (Nat×Bool×List Wq)
 boxL:List (Nat×TypeId×List Wq)
 rowL:List (Nat×LT)
def C6r:List (Nat×Bool×List Wq)->List Wq->List Wq
 | [],r=>r
 | (_,_,a)::l,r=>a++C6r l r
def C6q:List (Nat×TypeId×List Wq)->List Wq
 | []=> []
 | (_,_,a)::l=>a++C6q l
def HO.shs (A:HO):List Wq:=C6r A.modS (C6q A.boxL)
@[reducible] def HO.den (A:HO):Type:=shD A.shs (pX A.rowL)
def shW:(shs:List Wq)-> {T:Type} ->(T->Prop)->shD shs T->Prop
 | [],_,q,x=>q x
 | .val t::r,_,q,x=>t.wf x.1/\shW r q x.2
 | .own t _::r,_,q,x=>(Ty.sl t).wf x.1/\shW r q x.2
 | .ownR t _ _::r,_,q,x=>(Ty.sl (Ty.sl t)).wf x.1/\shW r q x.2
 | .fix _::r,_,q,x=>shW r q x
 | .fixB _::r,_,q,x=>shW r q x
def C4e:(l:List (Nat×LT))->pX l->Prop
 | [],_=>True
 | (_,t)::r,x=>t.wf x.1/\C4e r x.2
def HO.wf (A:HO) (p:A.den):Prop:=shW A.shs (C4e A.rowL) p
def jB (b:St):List (Nat×Bool×List Wq)->List C->Option (List C)
 | [],r=>some r
 | (s,d,shs)::l,r=>match b.S s with
  | .one ⟨c,a⟩=>bif(c==d)&&Nat.beq a.length shs.length then(jB b l r).map (a++ ·)else none
  | _=>none
def jA (b:St):List (Nat×TypeId×List Wq)->Option (List C)
 | []=>some []
 | (k,T,shs)::l=>match b.L k with
  | .box T' a=>bif Nat.beq T' T&&Nat.beq a.length shs.length then(jA b l).map (a++ ·)else none
  | _=>none
def HO.cells (A:HO) (a:St):Option (List C):=(jA a A.boxL).bind (jB a A.modS)
def settleSh:St->List Wq->List C->St
 |b, .val _::r,c::a=>settleSh (settle b [c]) r a
 |b, .own _ _::r,c::a=>settleSh (thawS b ⟨false,[c]⟩) r a
 |b, .ownR _ _ _::r,_::a=>settleSh b r a
 |b, .fix _::r,_::a=>settleSh b r a
 |b, .fixB _::r,_::a=>settleSh b r a
 |a,_,_=>a
def C6e (k:Nat):C->Bool
 | .row j=>Nat.beq j k
 | _=>false
def C6c (k:Nat):C->Bool
 | .box j 0=>Nat.beq j k
 | _=>false
def Ac (a:St):(shs:List Wq)-> {T:Type} ->T->List C->Option (shD shs T)
 | [],_,x,[]=>some x
 | .val t::r,_,x,c::b=>(WV t c).bind λy=>(Ac a r x b).map λz=>(y,z)
 | .own t e::r,_,x,c::b=>(QP a t e c).bind λy=>(Ac a r x b).map λz=>(y,z)
 | .ownR t e d::r,_,x,c::b=>(gL a t e d c).bind λy=>(Ac a r x b).map λz=>(y,z)
 | .fix k::r,_,x,c::b=>bif C6e k c then Ac a r x b else none
 | .fixB k::r,_,x,c::b=>bif C6c k c then Ac a r x b else none
 | _,_,_,_=>none
def B2s (l:List (Nat×LT)) (bl:List (Nat×TypeId×List Wq)):Wq->Bool
 | .fixB k=>bl.any λx=>Nat.beq x.1 k
 | .fix k=>l.any λx=>Nat.beq x.1 k
 | _=>true
def A9o (a:St):(l:List (Nat×LT))->Option (pX l)
 | []=>some ()
 | (k,t)::r=>(A2x a k t).bind λy=>(A9o a r).map λz=>(y,z)
def O8:List Wq->List C->List Nat
 | .own _ _::r, .row k::a=>k::O8 r a
 | .ownR _ _ _::r, .row k::a=>k::O8 r a
 | _::r,_::a=>O8 r a
 | _,_=> []
def oW {α:Type} (d:α) (l:List (Nat×α)):List Nat->List (Nat×α)
 | []=> []
 |s::r=>(s,find d s l)::oW d l r
def gath (A:HO) (b:St):Option (St×A.den):=do
 let c<-A.cells (plugL A.rowL b)
 let a:=settleSh (plugL A.rowL b) A.shs c
 let b<-A.cells a
 let tl<-A9o a A.rowL
 let p<-Ac a A.shs tl b
 bif IJ (A.keepL++(O8 A.shs b++((A.rowL.map λx=>x.1)++(A.boxL.map λx=>x.1))))&&A.shs.all (B2s A.rowL A.boxL)then some (a,p)else none
def C3t:(t:Ty)->t.den->C
 | .ptr t,x=> .pf t x 0
 |t,x=> .val t x
def placeSh:(shs:List Wq)-> {T:Type} ->shD shs T->St->List C×St×T
 | [],_,x,a=>([],a,x)
 | .val t::r,_,x,a=>(λp=>(C3t t x.1::p.1,p.2)) (placeSh r x.2 a)
 | .own t e::r,_,x,a=>(λp=>(C.row a.nx::p.1,p.2)) (placeSh r x.2 (a.newL (.row t e x.1)))
 | .ownR t e b::r,_,x,a=>(λp=>(C.row a.nx::p.1,p.2)) (placeSh r x.2 (a.newL (.rows t e b x.1 [] none)))
 | .fix k::r,_,x,a=>(λp=>(C.row k::p.1,p.2)) (placeSh r x a)
 | .fixB k::r,_,x,a=>(λp=>(C.box k 0::p.1,p.2)) (placeSh r x a)
def putRows:(l:List (Nat×LT))->pX l->St->St
 | [],_,a=>a
 | (k,t)::r,x,a=>putRows r x.2 (a.setL k (t.lc x.1))
def putS:List (Nat×Bool×List Wq)->List C->St->List C×St
 | [],a,b=>(a,b)
 | (s,b,shs)::r,a,c=>putS r (a.drop shs.length) (c.setS s (.one ⟨b,a.take shs.length⟩))
def putB:List (Nat×TypeId×List Wq)->List C->St->St
 | [],_,a=>a
 | (k,T,shs)::r,a,b=>putB r (a.drop shs.length) (b.setL k (.box T (a.take shs.length)))
def B0e:List (Nat×TypeId×List Wq)->Nat->Nat
 | [],n=>n
 |y::r,n=>B0e r (bif Nat.blt y.1 n then n else y.1+1)
def Pd:∀(l:List (Nat×TypeId×List Wq)) (n:Nat),n<=B0e l n
 | [],n=>qV n
 |y::r,n=>by
  refine qX ?_ (Pd r _);cases a:Nat.blt y.1 n with
  |true=>exact qV n
  |false=>
   have:¬y.1<n:=λh=>by rw[show Nat.blt y.1 n=true from by rw[Nat.blt_eq];exact h]at a;cases a
   show n<=y.1+1;omega
def aL:∀ {l:List (Nat×TypeId×List Wq)} {n:Nat},∀y∈l,y.1<B0e l n
 |y::r,n,z,a=>by
  rcases qW.1 a with rfl|a
  . refine rJ ?_ (Pd r _);cases b:Nat.blt z.1 n with
    |true=>rw[Nat.blt_eq]at b;exact b
    |false=>exact rR _
  exact aL (l:=r) z a
def kept (A:HO) (a:St):St:=⟨oW (0, .dead) a.sl A.keepS,oW (0, .none) a.lc A.keepL,B0e A.boxL a.nx,a.ct+1,a.nm,a.fr⟩
def reflect (A:HO) (a:St) (p:A.den):St:=
 (λq=>(λr=>putB A.boxL r.1 r.2) (putS A.modS q.1 (putRows A.rowL q.2.2 q.2.1))) (placeSh A.shs p (kept A a))
def jN (n:Nat) (g:Nat):Bool:=Nat.ble 1 g&&Nat.ble g n
def B3v (A:HO) (a b:St):Bool:=(A.keepS.all λs=>jN a.ct (b.eS s).1)&&(A.keepL.all λk=>jN a.ct (b.eL k).1)&&(A.rowL.all λx=>Nat.blt x.1 a.nx)&&C3s a.ct b.fr
def OY (A:HO) (b:St) (J:A.den->Prop) (a:St):Prop:=
 match gath A a with
 |some (a,p)=>bif B3v A b a then J p else False
 |none=>False
section
variable {za:Zn} {w0 w:World} {Z:Nat->Prop} {B:Nat->Value} {st st0:St} {E:G8}
def C4.plugL:∀(l:List (Nat×LT)) (st:St),C4 st (plugL l st)
 | [],st=>C4.refl st
 | (k, .nest _ _ _)::r,st=>(C4.giveS st k).trans (C4.plugL r _)
 | (k, .row _ _)::r,st=>(C4.thawS st ⟨false,[.row k]⟩).trans (C4.plugL r _)
 | (_, .map _ _ _ _)::r,st=>C4.plugL r st
 | (_, .rows _ _ _)::r,st=>C4.plugL r st
 | (_, .iter _ _ _ _)::r,st=>C4.plugL r st
 | (_, .itM _ _ _ _ _)::r,st=>C4.plugL r st
def C3.plugL (a:za.b0=0):∀ {l:List (Nat×LT)} {st:St} {Z:Nat->Prop},C3 za w0 st E w Z B->∃Z',C3 za w0 (plugL l st) E w Z' B
 | [],_,Z,h=>⟨Z,h⟩
 | (k, .nest _ _ _)::r,_,_,h=>C3.plugL a (l:=r) (h.giveS a k)
 | (k, .row _ _)::r,_,_,h=>by
  obtain⟨Z1,b⟩:=h.thaw k;exact C3.plugL a (l:=r) b
 | (_, .map _ _ _ _)::r,_,_,h=>C3.plugL a (l:=r) h
 | (_, .rows _ _ _)::r,_,_,h=>C3.plugL a (l:=r) h
 | (_, .iter _ _ _ _)::r,_,_,h=>C3.plugL a (l:=r) h
 | (_, .itM _ _ _ _ _)::r,_,_,h=>C3.plugL a (l:=r) h
def C4.settleSh:∀(shs:List Wq) (cs:List C) (st:St),C4 st (settleSh st shs cs)
 | .val _::r,c::cs,st=>(C4.settle st [c]).trans (C4.settleSh r cs _)
 | .own _ _::r,c::cs,st=>(C4.thawS st ⟨false,[c]⟩).trans (C4.settleSh r cs _)
 | .ownR _ _ _::r,_::cs,st=>C4.settleSh r cs st
 | .ownR _ _ _:: _,[],st=>C4.refl st
 | .fix _::r,_::cs,st=>C4.settleSh r cs st
 | .fixB _::r,_::cs,st=>C4.settleSh r cs st
 | .fixB _:: _,[],st=>C4.refl st
 | [],_,st=>C4.refl st
 | .val _:: _,[],st=>C4.refl st
 | .own _ _:: _,[],st=>C4.refl st
 | .fix _:: _,[],st=>C4.refl st
def C3.settleSh:∀ {shs:List Wq} {cs:List C} {st:St} {Z:Nat->Prop},C3 za w0 st E w Z B->∃Z',C3 za w0 (settleSh st shs cs) E w Z' B
 | .val _::r,c::cs,st,Z,h=>by
  obtain⟨Z1,a⟩:=h.settle [c];exact C3.settleSh (shs:=r) (cs:=cs) a
 | .own _ _::r,c::cs,st,Z,h=>by
  obtain⟨Z1,a⟩:=h.thawS ⟨false,[c]⟩;exact C3.settleSh (shs:=r) (cs:=cs) a
 | .ownR _ _ _::r,_::cs,st,Z,h=>C3.settleSh (shs:=r) (cs:=cs) h
 | .ownR _ _ _:: _,[],st,Z,h=>⟨Z,h⟩
 | .fix _::r,_::cs,st,Z,h=>C3.settleSh (shs:=r) (cs:=cs) h
 | .fixB _::r,_::cs,st,Z,h=>C3.settleSh (shs:=r) (cs:=cs) h
 | .fixB _:: _,[],st,Z,h=>⟨Z,h⟩
 | [],_,st,Z,h=>⟨Z,h⟩
 | .val _:: _,[],st,Z,h=>⟨Z,h⟩
 | .own _ _:: _,[],st,Z,h=>⟨Z,h⟩
 | .fix _:: _,[],st,Z,h=>⟨Z,h⟩
def C4.putRows:∀(l:List (Nat×LT)) (x:pX l) (st:St),C4 st (putRows l x st)
 | [],_,st=>C4.refl st
 | (k,t)::r,x,st=>(C4.setL st k _).trans (C4.putRows r x.2 _)
def C4.placeSh:∀(shs:List Wq) {T:Type} (x:shD shs T) (st:St),C4 st (placeSh shs x st).2.1
 | [],_,_,st=>C4.refl st
 | .val t::r,_,x,st=>C4.placeSh r x.2 st
 | .own t e::r,_,x,st=>(C4.newL st (.row t e x.1)).trans (C4.placeSh r x.2 _)
 | .ownR t e a::r,_,x,st=>(C4.newL st (.rows t e a x.1 [] none)).trans (C4.placeSh r x.2 _)
 | .fix _::r,_,x,st=>C4.placeSh r x st
 | .fixB _::r,_,x,st=>C4.placeSh r x st
def C4.putS:∀(l:List (Nat×Bool×List Wq)) (cs:List C) (st:St),C4 st (putS l cs st).2
 | [],_,st=>C4.refl st
 | (s,a,shs)::r,cs,st=>(C4.setS st s _).trans (C4.putS r _ _)
def C4.putB:∀(l:List (Nat×TypeId×List Wq)) (cs:List C) (st:St),C4 st (putB l cs st)
 | [],_,st=>C4.refl st
 | (k,T,shs)::r,cs,st=>(C4.setL st k _).trans (C4.putB r _ _)
def C4.reflect (A:HO) (st0:St) (p:A.den):C4 (kept A st0) (reflect A st0 p):=
 (C4.placeSh A.shs p _).trans ((C4.putRows _ _ _).trans ((C4.putS _ _ _).trans (C4.putB _ _ _)))
def IC {α:Type} (d:α) (l:List (Nat×α)) (q:Nat):∀b:List Nat,find d q (oW d l b)=if q∈b then find d q l else d
 | []=>rfl
 |s::r=>by
  simp only[oW,find,IC d l q r];cases a:Nat.beq s q with
  |true=>have:=qD a;subst this;simp
  |false=>
   have:q≠s:=λh=>by subst h;simp at a
   simp[this]
def jW (A:HO) (st:St) (s:Nat):(kept A st).eS s=if s∈A.keepS then st.eS s else(0, .dead):=IC ..
def jV (A:HO) (st:St) (k:Nat):(kept A st).eL k=if k∈A.keepL then st.eL k else(0, .none):=IC ..
def pW {A:HO} {p:A.den} {s:Nat} (a:((reflect A st0 p).eS s).1≠0) (b:((reflect A st0 p).eS s).1<=st0.ct):(reflect A st0 p).eS s=st0.eS s:=by
 have e:=(C4.reflect A st0 p).s s a (xU b);rw[e]at a|-;rw[jW]at a|-;split
 . rfl
 rename_i b;rw[qL b]at a;exact absurd rfl a
def kZ {A:HO} {p:A.den} {k:Nat} (a:((reflect A st0 p).eL k).1≠0) (b:((reflect A st0 p).eL k).1<=st0.ct):(reflect A st0 p).eL k=st0.eL k:=by
 have e:=(C4.reflect A st0 p).l k a (xU b);rw[e]at a|-;rw[jV]at a|-;split
 . rfl
 rename_i b;rw[qL b]at a;exact absurd rfl a
structure B7b (n:Nat) (st:St):Prop where
 nms:st.nm=n/\n<=st.nx
 refs:∀s,MP st.nx (st.S s)
 refl:∀k,AQ st.nx (st.L k)
 fresh:∀k,st.nx<=k->st.L k= .none
 frf:mE st.nx st.fr
def C3.pure (h:C3 za w0 st E w Z B):B7b za.n st:=⟨h.nms,h.refs,h.refl,h.fresh,h.frf⟩
structure Jf (za:Zn) (w0:World) (st2:St) (E:G8) (w:World) (Z:Nat->Prop) (B:Nat->Value) (used:List Nat) (st:St) (BX:Nat->Value):Prop where
 rel:C3 za w0 st E w Z BX
 own:∀j b,B4 w (BX j) (st.L j) b->∃q,q∈used/\B4 w (B q) (st2.L q) b
def Jf.disj {a:St} {d:List Nat} {BX:Nat->Value} (f:C3 za w0 a E w Z B) (c:Jf za w0 a E w Z B d st BX) {q:Nat} (h:q∉d):∀k b,B4 w (B q) (a.L q) b->¬B4 w (BX k) (st.L k) b:=λk b a d=>by
 obtain⟨j,i,g⟩:=c.own k b d;exact f.disj q j b (λd=>h (d▸i)) a g
end
section
variable {za:Zn} {w0 w:World} {Z:Nat->Prop} {B:Nat->Value} {st st0 st2:St} {E:G8}
def C3.setSame (h:C3 za w0 st E w Z B) (s:Nat) {x:DV} (c:RD w Z B E x (E s)) (b:MP st.nx x):C3 za w0 (st.setS s x) E w Z B:=by
 have e:upd E s (E s)=E:=by
  funext t;by_cases a:t=s
  . subst a;exact C2 _ _ _
  exact C5 _ _ _ _ a
 have:=h.setS s (x:=x) (v:=E s) (by rw[e];exact c) b;rwa[e]at this
def C2i {A:HO} (a:C3 za w0 st2 E w Z B) (d:B7b za.n st0) (c:∀s∈A.keepS,st2.eS s=st0.eS s) (b:∀k∈A.keepL,st2.eL k=st0.eL k) (j:st2.fr=st0.fr):Jf za w0 st2 E w Z B A.keepL (kept A st0) B:=by
 have eS:∀s,(kept A st0).S s=if s∈A.keepS then st2.S s else .dead:=λs=>by
  show((kept A st0).eS s).2= _;rw[jW];split
  . rename_i f;rw[<-c s f];rfl
  rfl
 have eL:∀k,(kept A st0).L k=if k∈A.keepL then st2.L k else .none:=λk=>by
  show((kept A st0).eL k).2= _;rw[jV];split
  . rename_i c;rw[<-b k c];rfl
  rfl
 have i:∀s,(kept A st0).S s=if s∈A.keepS then st0.S s else .dead:=λs=>by
  show((kept A st0).eS s).2= _;rw[jW];split<;>rfl
 have g:∀k,(kept A st0).L k=if k∈A.keepL then st0.L k else .none:=λs=>by
  show((kept A st0).eL s).2= _;rw[jV];split<;>rfl
 have f:∀k b,B4 w (B k) ((kept A st0).L k) b->k∈A.keepL/\B4 w (B k) (st2.L k) b:=λk b c=>by
  rw[eL]at c;split at c
  . rename_i h;exact⟨h,c⟩
  exact c.elim
 refine⟨⟨a.ext,a.zlt,λs=>?_,λk=>?_,λk h b l o r=>a.disj k h b l (f k b o).2 (f h b r).2,λs=>?_,λk=>?_,λk c=>?_,a.bone,a.zin,⟨d.nms.1,qX d.nms.2 (Pd _ _)⟩,a.bfix,⟨a.mrk.1,λk b c h=>a.mrk.2 k b c (f k b h).2⟩,(by have:=a.frs;rw[j]at this;exact this),d.frf.le (Pd _ _)⟩,λj b h=>⟨j,(f j b h).1,(f j b h).2⟩⟩
 . rw[eS];split
   . exact a.slots s
   trivial
 . rw[eL];split
   . exact a.locs k
   trivial
 . rw[i];split
   . exact(d.refs s).le (Pd _ _)
   trivial
 . rw[g];split
   . exact(d.refl k).le (Pd _ _)
   trivial
 rw[g];split
 . exact d.fresh k (qX (Pd _ _) c)
 rfl
def QR (j:C3 za w0 st2 E w Z B) {t:Ty} {e:TypeId} {c:C} {l:List t.den} {v:Value} (o:RC w Z B c v) (a:QP st2 t e c=some l):
 ∃xs,w.ownsRow w0.heap.size e t.size v l.length xs/\G5 (C9 t w Z) xs l/\(∀b,v.ownBlock=some b->¬Z b)/\((∃q,c= .row q/\live (st2.L q)/\v=B q)\/(root v=none/\∀q,c≠ .row q)):=by
 unfold QP at a;split at a
 . rename_i q;split at a
   . rename_i G A F f;split at a
     . rename_i x;subst x;obtain⟨g,a⟩:=E6 a;cases a;simp only[qC]at g;have D:=qO g.2;have u:=qD g.1;subst u;have n:=j.locs q;rw[f]at n;obtain⟨xs,r,s,k⟩:=n;have h:v=B q:=o;subst h;have z:∀b,(B q).ownBlock=some b->w0.heap.size<=b:=λb d=>by
        rcases(k b d).1 with i|i
        . exact i.2
        have:=j.nms.1;omega
       exact⟨xs,kR r z,s,λb d=>(k b d).2, .inl ⟨q,rfl,by rw[f];trivial,rfl⟩⟩
     cases a
   cases a
 . obtain⟨y,a⟩:=E6 a;cases a;have h:v= .slice none 0 0:=by rw[o.1];exact Gv y
   subst h;exact⟨[],World.ownsRow_nil _ _ _ _,rfl,λb d=>(by cases d), .inr ⟨rfl,λq f=>(by cases f)⟩⟩
 cases a
def A0a (j:C3 za w0 st2 E w Z B) {t:Ty} {e e':TypeId} {c:C} {ls:List (List t.den)} {v:Value} (k:RC w Z B c v) (a:gL st2 t e e' c=some ls):
 Ct w Z t e e' v ls/\v.oneCell'=true/\(∀b,B4 w v (.rows t e e' ls [] none) b->¬Z b/\w0.heap.size<=b/\b<w.heap.size)/\((∃q,c= .row q/\v=B q/\∀b,B4 w v (.rows t e e' ls [] none) b->B4 w (B q) (st2.L q) b)\/((∀b,¬B4 w v (.rows t e e' ls [] none) b)/\∀q,c≠ .row q)):=by
 unfold gL at a;split at a
 . rename_i q;obtain⟨h,a⟩:=E6 a;obtain⟨al,o⟩:=Ad a;obtain⟨n,g⟩:=j.rowsAt o (qO h);have f:v=B q:=k;subst f;exact⟨n,j.bone q,λb d=>⟨(g b d).1,(g b d).2.1,(g b d).2.2.1⟩, .inl ⟨q,rfl,rfl,λb d=>(g b d).2.2.2⟩⟩
 . obtain⟨s,a⟩:=E6 a;cases a;have f:v= .slice none 0 0:=by rw[k.1];exact Gv s
   exact⟨⟨[],by rw[f];exact World.ownsRow_nil _ _ _ _,λl y u r=>(by simp at r),λl x u v b _ i=>(by simp at i),λl u b i=>(by simp at i)⟩,by rw[f];rfl,λb d=>absurd d (YU f), .inr ⟨λb=>YU f,λq h=>(by cases h)⟩⟩
 cases a
def B9b {t:Ty} {v:Value} {x:t.den} (h:C9 t w Z [v] x):RC w Z B (C3t t x) v:=by
 cases t with
 |ptr t=>
  obtain⟨b,o,a,e,r⟩:=h;simp only[sJ,vO]at e;exact⟨b,o,a,by rw[e];rfl,r⟩
 | _=>exact h
def B4y {n:Nat} {t:Ty} {x:t.den} :Cz n (C3t t x):=by cases t<;>trivial
def Sl (l:za.b0=0) (f:C3 za w0 st2 E w Z B):∀ {shs:List Wq} {T:Type} {tl:T} {cs:List C} {vs:List Value} {p:shD shs T} {st:St} {BX:Nat->Value} {a:List Nat},Jf za w0 st2 E w Z B a st BX->Db w Z B cs vs->Ac st2 shs tl cs=some p->(∀q∈O8 shs cs,q∉a)->(O8 shs cs).Nodup->(∀c∈shs,∀k,c.pin=some k->k<st.nx/\BX k=B k)->
 ∃BX',Jf za w0 st2 E w Z B (O8 shs cs++a) (placeSh shs p st).2.1 BX'/\Db w Z BX' (placeSh shs p st).1 vs/\(∀c∈(placeSh shs p st).1,Cz (placeSh shs p st).2.1.nx c)/\(∀k,k<st.nx->BX' k=BX k)/\st.nx<=(placeSh shs p st).2.1.nx/\(placeSh shs p st).2.2=tl
 | [],_,tl,[],vs,p,st,BX,a,c,d,b,_,_,_=>by
  simp only[Ac,rF]at b;exact⟨BX,c,d,by simp[placeSh],λ_ _=>rfl,qV _,b.symm⟩
 | [],_,_,_:: _,_,_,_,_,_,_,_,b,_,_,_=>by cases b
 | .val t::r,_,_,[],_,_,_,_,_,_,_,b,_,_,_=>by cases b
 | .own t e::r,_,_,[],_,_,_,_,_,_,_,b,_,_,_=>by cases b
 | .ownR t e d::r,_,_,[],_,_,_,_,_,_,_,b,_,_,_=>by cases b
 | .fix k::r,_,_,[],_,_,_,_,_,_,_,b,_,_,_=>by cases b
 | .fixB k::r,_,_,[],_,_,_,_,_,_,_,b,_,_,_=>by cases b
 | .fix k::u,T,tl,d::cs,vs,p,st,BX,a,c,⟨v,I,e,G,H⟩,b,t,s,o=>by
  simp only[Ac]at b;obtain⟨r,b⟩:=E6 b;have D:O8 (.fix k::u) (d::cs)=O8 u cs:=by cases d<;>rfl
  rw[D]at t s|-;obtain⟨BX',x,y,z,i,n,A⟩:=Sl l f c H b t s (λj F=>o j (qI _ F));subst e;have g:=o _ rD k rfl;cases d with
  |row j=>
   have:=qD r;subst this;refine⟨BX',x,⟨v,I,rfl,?_,y⟩,λq h=>?_,i,n,A⟩
   . show v=BX' j;rw[i j g.1,g.2];exact G
   rcases qW.1 h with rfl|h
   . exact rJ g.1 n
   exact z q h
  | _=>cases r
 | .fixB k::x,T,tl,d::cs,vs,p,st,BX,a,c,⟨v,O,e,M,N⟩,b,t,s,r=>by
  simp only[Ac]at b;obtain⟨g,b⟩:=E6 b;have H:O8 (.fixB k::x) (d::cs)=O8 x cs:=by cases d<;>rfl
  rw[H]at t s|-;obtain⟨BX',z,A,D,n,o,F⟩:=Sl l f c N b t s (λj I=>r j (qI _ I));subst e;have h:=r _ rD k rfl;cases d with
  |box j u=>
   cases u with
   |succ u=>cases g
   |zero=>
   have:=qD g;subst this;refine⟨BX',z,⟨v,O,rfl,?_,A⟩,λq i=>?_,n,o,F⟩
   . obtain⟨y,G,J⟩:=M;exact⟨y,by rw[n j h.1,h.2];exact G,J⟩
   rcases qW.1 i with rfl|i
   . exact rJ h.1 o
   exact D q i
  | _=>cases g
 | .val I::r,T,tl,d::cs,vs,p,st,BX,a,c,⟨v,J,e,A,D⟩,h,i,g,x=>by
  simp only[Ac,bind_some,qK]at h;obtain⟨M,F,N,G,rfl⟩:=h;have y:O8 (.val I::r) (d::cs)=O8 r cs:=by cases d<;>rfl
  rw[y]at i g|-;obtain⟨BX',j,n,o,s,t,u⟩:=Sl l f c D G i g (λH z=>x H (qI _ z));subst e;refine⟨BX',j,⟨v,J,rfl,B9b (iR A F),n⟩,λq b=>?_,s,t,u⟩;rcases qW.1 b with rfl|b
  . exact B4y
  exact o q b
 | .ownR t i j::r,T,tl,G::cs,vs,p,st,BX,a,c,⟨v,ag,e,a9,ab⟩,F,u,A,a3=>by
  simp only[Ac,bind_some,qK]at F;obtain⟨x,a5,ai,ac,rfl⟩:=F;subst e;obtain⟨ae,aa,O,af⟩:=A0a f a9 a5;have ad:∃h,Jf za w0 st2 E w Z B h (st.newL (.rows t i j x [] none)) (upd BX st.nx v)/\(∀q∈O8 r cs,q∉h)/\(O8 r cs).Nodup/\(∀q,q∈O8 (.ownR t i j::r) (G::cs)++a↔q∈O8 r cs++h):=by
   have mk:∀h,(∀q∈a,q∈h)->(∀b,B4 w v (.rows t i j x [] none) b->∃q,q∈h/\B4 w (B q) (st2.L q) b)->(∀k b,B4 w v (.rows t i j x [] none) b->¬B4 w (BX k) (st.L k) b)->Jf za w0 st2 E w Z B h (st.newL (.rows t i j x [] none)) (upd BX st.nx v):=by
    intro h a7 s a2;refine⟨c.rel.new (v:=v) (lc:= .rows t i j x [] none) (Ct.rl (by rw[C2];exact ae) λb d=>by rw[C2]at d;exact⟨.inl ⟨c.rel.nms.2,(O b d).2.1⟩,(O b d).1,(O b d).2.2⟩) a2 (λp F=>by cases F) aa (λb _ _=>by rw[l];exact rS _),λo b g=>?_⟩;rw[St.L_newL]at g;by_cases M:o=st.nx
    . subst M;rw[C2,qR rfl]at g;exact s b g
    rw[qL M,C5 _ _ _ _ M]at g;obtain⟨q,H,I⟩:=c.own o b g;exact⟨q,a7 q H,I⟩
   rcases af with⟨q,rfl,ah,U⟩ | ⟨V,a6⟩
   . have J:O8 (.ownR t i j::r) (.row q::cs)=q::O8 r cs:=rfl;rw[J]at u A|-;have D:=sP.1 A;refine⟨q::a,mk _ (λy n=>qI _ n) (λb d=>⟨q,by simp,U b d⟩) (λk b d=>?_),λy n=>?_,D.2,λy=>by grind⟩
     . exact c.disj f (u q (by simp)) k b (U b d)
     intro N;rcases qW.1 N with rfl|N
     . exact D.1 n
     exact u y (qI _ n) N
   have J:O8 (.ownR t i j::r) (G::cs)=O8 r cs:=by cases G<;>first|rfl|exact absurd rfl (a6 _)
   rw[J]at u A|-;exact⟨a,mk _ (λy n=>n) (λb d=>absurd d (V b)) (λk b d=>absurd d (V b)),u,A,λy=>xX⟩
  obtain⟨h,W,a8,D,a4⟩:=ad;obtain⟨BX',P,X,Y,Q,R,a0⟩:=Sl l f W ab ac a8 D (λo g k z=>by
   obtain⟨d,b⟩:=a3 o (qI _ g) k z;exact⟨uY d,(C5 _ _ _ _ (tY d)).trans b⟩)
  have a1:BX' st.nx=v:=by rw[Q st.nx (rR _),C2]
  refine⟨BX',⟨P.rel,λo b g=>?_⟩,⟨v,ag,rfl,a1.symm,X⟩,λq s=>?_,λk z=>?_,qX (uI _) R,a0⟩
  . obtain⟨q,H,I⟩:=P.own o b g;exact⟨q,(a4 q).2 H,I⟩
  . rcases qW.1 s with rfl|s
    . exact rJ (rR _) R
    exact Y q s
  rw[Q k (uY z),C5 _ _ _ _ (tY z)]
 | .own t i::r,T,tl,D::cs,vs,p,st,BX,a,c,⟨v,ai,e,aa,ac⟩,U,s,y,a4=>by
  simp only[Ac,bind_some,qK]at U;obtain⟨M,a6,am,ad,rfl⟩:=U;subst e;obtain⟨aj,A,af,ag,ah⟩:=QR f aa a6;have ab:v.oneCell'=true:=by rcases A.2 with⟨V,_⟩ | ⟨_,_,_,V,_⟩<;>rw[V]<;>rfl
  have ak:=E7 A;have ae:∃h,Jf za w0 st2 E w Z B h (st.newL (.row t i M)) (upd BX st.nx v)/\(∀q∈O8 r cs,q∉h)/\(O8 r cs).Nodup/\(∀q,q∈O8 (.own t i::r) (D::cs)++a↔q∈O8 r cs++h):=by
   have mk:∀h,(∀q∈a,q∈h)->(∀b,root v=some b->∃q,q∈h/\B4 w (B q) (st2.L q) b)->(∀k b,root v=some b->¬B4 w (BX k) (st.L k) b)->Jf za w0 st2 E w Z B h (st.newL (.row t i M)) (upd BX st.nx v):=by
    intro h a8 o a3;refine⟨c.rel.new (v:=v) (lc:= .row t i M) ⟨aj,by rw[C2];exact Ml A (rS _),af,λb d=>by rw[C2]at d;exact⟨.inl ⟨c.rel.nms.2,(World.ownsRow.lt A b d).1⟩,ag b d⟩⟩ a3 trivial ab (λb _ _=>by rw[l];exact rS _),λn b g=>?_⟩;rw[St.L_newL]at g;by_cases I:n=st.nx
    . subst I;rw[C2,qR rfl]at g;exact o b g
    rw[qL I,C5 _ _ _ _ I]at g;obtain⟨q,F,G⟩:=c.own n b g;exact⟨q,a8 q F,G⟩
   rcases ah with⟨q,rfl,Q,W⟩ | ⟨R,a7⟩
   . have H:O8 (.own t i::r) (.row q::cs)=q::O8 r cs:=rfl;rw[H]at s y|-;have z:=sP.1 y;refine⟨q::a,mk _ (λx j=>qI _ j) (λb d=>⟨q,by simp,B4.of Q (by rw[<-W];exact d)⟩) (λk b d=>?_),λx j=>?_,z.2,λx=>by grind⟩
     . rw[W]at d;exact c.disj f (s q (by simp)) k b (B4.of Q d)
     intro J;rcases qW.1 J with rfl|J
     . exact z.1 j
     exact s x (qI _ j) J
   have H:O8 (.own t i::r) (D::cs)=O8 r cs:=by cases D<;>first|rfl|exact absurd rfl (a7 _)
   rw[H]at s y|-;exact⟨a,mk _ (λx j=>j) (λb d=>by rw[R]at d;cases d) (λk b d=>by rw[R]at d;cases d),s,y,λx=>xX⟩
  obtain⟨h,X,a9,z,a5⟩:=ae;obtain⟨BX',N,Y,a0,O,P,a1⟩:=Sl l f X ac ad a9 z (λn g k u=>by
   obtain⟨d,b⟩:=a4 n (qI _ g) k u;exact⟨uY d,(C5 _ _ _ _ (tY d)).trans b⟩)
  have a2:BX' st.nx=v:=by rw[O st.nx (rR _),C2]
  refine⟨BX',⟨N.rel,λn b g=>?_⟩,⟨v,ai,rfl,a2.symm,Y⟩,λq o=>?_,λk u=>?_,qX (uI _) P,a1⟩
  . obtain⟨q,F,G⟩:=N.own n b g;exact⟨q,(a5 q).2 F,G⟩
  . rcases qW.1 o with rfl|o
    . exact rJ (rR _) P
    exact a0 q o
  rw[O k (uY u),C5 _ _ _ _ (tY u)]
end
section
variable {za:Zn} {w0 w:World} {Z:Nat->Prop} {B:Nat->Value} {st st0 st2:St} {E:G8}
def VZ (E:G8):List (Nat×Bool×List Wq)->List Value->List Value->Prop
 | [],b,a=>b=a
 | (s,b,shs)::l,f,d=>∃a c,f=a++c/\a.length=shs.length/\(b=true->E s= .agg a.toArray)/\(b=false->a= [E s])/\VZ E l c d
def iF (za:Zn) (w0:World) (w:World) (Z:Nat->Prop) (B:Nat->Value) (st2:St):List (Nat×TypeId×List Wq)->List Value->Prop
 | [],a=>a= []
 | (k,T,shs)::l,d=>∃a c,d=a++c/\a.length=shs.length/\live (st2.L k)/\(∃b,B k= .pointer (some ⟨b,0,none⟩)/\up za w0 k b/\¬Z b/\KJ w b a.toArray T)/\iF za w0 w Z B st2 l c
def eK (f:C3 za w0 st2 E w Z B):∀ {l:List (Nat×Bool×List Wq)} {r cs:List C} {b:List Value},Db w Z B r b->jB st2 l r=some cs->∃vs,Db w Z B cs vs/\VZ E l vs b
 | [],r,cs,b,a,h=>by cases h;exact⟨b,a,rfl⟩
 | (s,z,shs)::l,r,cs,b,x,h=>by
  simp only[jB]at h;split at h
  . rename_i n o y;obtain⟨c,h⟩:=E6 h;simp only[qK]at h;obtain⟨A,t,rfl⟩:=h;simp only[qC,g1m]at c;obtain⟨u,c⟩:=c;subst u;have j:=qD c;obtain⟨d,g,i⟩:=eK f x t;have a:=f.slots s;rw[y]at a;cases n with
    |true=>
     obtain⟨k,e,a⟩:=a;exact⟨k++d,a.append g,k,d,rfl,by rw[<-j,a.len],λ_=>e,λv=>(by cases v),i⟩
    |false=>
     have a:Db w Z B o [E s]:=a;exact⟨[E s]++d,a.append g,[E s],d,rfl,by rw[<-j,a.len],λk=>(by cases k),λ_=>rfl,i⟩
  cases h
def eJ (b:C3 za w0 st2 E w Z B):∀ {l:List (Nat×TypeId×List Wq)} {cs:List C},jA st2 l=some cs->∃vs,Db w Z B cs vs/\iF za w0 w Z B st2 l vs
 | [],cs,h=>by cases h;exact⟨[],rfl,rfl⟩
 | (v,T,shs)::l,cs,h=>by
  simp only[jA]at h;split at h
  . rename_i T' x f;obtain⟨a,h⟩:=E6 h;simp only[qK]at h;obtain⟨y,j,rfl⟩:=h;simp only[qC]at a;have t:=qD a.1;subst t;have u:=qD a.2;obtain⟨g,k,n⟩:=eJ b j;have d:=b.locs v;rw[f]at d;obtain⟨i,vs,e,o,r,s,c⟩:=d;exact⟨vs.toList++g,c.append k,vs.toList,g,rfl,by rw[<-u,c.len],by rw[f];trivial,⟨i,e,o,r,by simpa using s⟩,n⟩
  cases h
def fT {k:Nat} {t:Ty} {e e':TypeId} {x:List t.den×List Nat} (a:A3d st2 t e e' k=some x):st2.L k= .nest t e e' x.1 [] x.2:=by
 unfold A3d at a;split at a
 . rename_i j f g i h d;split at a
   . rename_i c;subst c;obtain⟨b,a⟩:=E6 a;cases a;simp only[qC]at b;rw[d,qD b.1,qD b.2]
   cases a
 cases a
def YA {k q:Nat} {c f:Bool} {d g:Ty} {x:(LT.itM c d f g q).den} (a:A2x st2 k (.itM c d f g q)=some x):∃cur,st2.L k= .itM c d f g x.1 x.2 cur q/\q<k:=by
 simp only[A2x]at a;split at a
 . rename_i l n r s j left cur o i;obtain⟨b,a⟩:=E6 a;simp only[qC]at b;split at a
   . rename_i h;cases h;cases a;have:=qD b.1;subst this;exact⟨cur,i,qO b.2⟩
   cases a
 cases a
def fJ {k q:Nat} {t:LT} {x:t.den} (b:A2x st2 k t=some x) (a:t.need=some q):q<k:=by
 cases t with
 |itM c d g h f=>cases a;exact(YA b).choose_spec.2
 | _=>cases a
def LQ (b:C3 za w0 st2 E w Z B) {k:Nat} {t:LT} {x:t.den} (a:A2x st2 k t=some x):live (st2.L k)/\RL (up za w0 k) w Z B k (t.lc x)/\t.wf x:=by
 cases t with
 |row t e=>
  have d:=Jq a;have c:=b.locs k;rw[d]at c;refine⟨by rw[d];trivial,c,?_⟩;obtain⟨h,f,g,_⟩:=c;exact C9.wf (Cv (Z:=λ_=>True) f (g.mono λ_ _=>C9.mono (λ_ _=>trivial) (λ_ _=>rfl)) (λ_ _=>trivial))
 |map n o r s=>
  have d:=VJ a;have c:=b.locs k;rw[d]at c;refine⟨by rw[d];trivial,c,?_⟩;obtain⟨i,l,j,e,_,_,f,h,g⟩:=c;exact C9.wf (kC (Z:=λ_=>True) f h (g.mono (λ_ _=>trivial) (λ_ _=>rfl)) trivial)
 |rows t e o=>
  obtain⟨al,d⟩:=Ad a;have f:=b.locs k;have c:=f;rw[d]at c;have c:=c.rowsR;refine⟨by rw[d];trivial,c.rl λj l=>?_,c.wf⟩;have n:B4 w (B k) (st2.L k) j:=by rw[d];exact(W5 λ_ _=>rfl).1 l
  obtain⟨g,h,i⟩:=f.root n;exact⟨g,i,h⟩
 |iter J N P R=>
  simp only[A2x]at a;cases d:st2.L k with
  |iter M O Q T I H=>
   rw[d]at a;simp only at a;split at a
   . rename_i D;cases D;cases a;have l:=b.locs k;rw[d]at l;obtain⟨G,e,z,A,j⟩:=l;refine⟨trivial,⟨G,e,z,A,j.imp (λh=>⟨h.1,h.2.1,rfl⟩) fun⟨m,seen,i,g,n,o,r,s,f,F⟩=>⟨m,seen,i,g,n,o,r,s,f,λx c=>by cases c⟩⟩,?_⟩;rcases j with⟨_,h,_⟩ | ⟨m,seen,i,g,n,o,r,s,f,F⟩
     . rw[h];intro x c;cases c
     intro x c;obtain⟨m,_,u,v⟩:=T3.mem f c;exact⟨U9.wf' (λ_ _=>C9.wf) u,U9.wf' (λ_ _=>C9.wf) v⟩
   cases a
  | _=>rw[d]at a;cases a
 |nest t e h=>
  have d:=fT a;have c:=b.locs k;rw[d]at c;refine⟨by rw[d];trivial,c,?_⟩;obtain⟨l,g,_⟩:=c;rcases g.own.2 with⟨_,j⟩ | ⟨_,_,_,_,_,_,i,f,_⟩
  . show x.1.length<= _;omega
  show x.1.length<= _;simp only[maxLen]at f;omega
 |itM D F G H q=>
  obtain⟨A,f,_⟩:=YA a;have d:=b.locs k;rw[f]at d;obtain⟨z,m,seen,j,g,h,i,c,o,r,s,u⟩:=d;refine⟨by rw[f];trivial,⟨z,m,seen,j,g,h,i,⟨c.it,c.mp,c.ok,c.all,c.rest,λx v=>(by cases v)⟩,o,r,s,u⟩,λy hy=>?_⟩;obtain⟨m,_,l,n⟩:=T3.mem c.rest hy;exact⟨U9.wf' (λ_ _=>C9.wf) l,U9.wf' (λ_ _=>C9.wf) n⟩
def RL.setB {U:Nat->Prop} {B':Nat->Value} {k:Nat} {t:LT} {x:t.den} (h:RL U w Z B k (t.lc x)) (e:B' k=B k) (d:∀q,t.need=some q->B' q=B q):RL U w Z B' k (t.lc x):=by
 cases t with
 |nest t g i=>
  obtain⟨f,a,b⟩:=h;exact⟨f,⟨by rw[e];exact a.own,λp c=>(by cases c),a.elt,a.dis,by rw[e];exact a.top⟩,by rw[e];exact b⟩
 |itM i j l n q=>
  obtain⟨r,m,seen,f,a,b,c,g⟩:=h;exact⟨r,m,seen,f,a,e.trans b,(d q rfl).trans c,g⟩
 |row t g=>obtain⟨f,a,b,c⟩:=h;exact⟨f,by rw[e];exact a,b,by rw[e];exact c⟩
 |map g i j l=>obtain⟨b,f,c,a,r⟩:=h;exact⟨b,f,c,e.trans a,r⟩
 |iter c f g i=>obtain⟨r,a,b⟩:=h;exact⟨r,e.trans a,b⟩
 |rows t l n=>
  obtain⟨j,a,⟨o,b,c⟩,f,g⟩:=h;exact⟨j,by rw[e];exact a,⟨λp i=>(by cases i),b,c⟩,by rw[e];exact f,by rw[e];exact g⟩
def B8o (c:C3 za w0 st2 E w Z B) {k b:Nat} {t:LT} {x:t.den} (a:A2x st2 k t=some x) (h:B4 w (B k) (t.lc x) b):B4 w (B k) (st2.L k) b:=by
 cases t with
 |row t e=>exact B4.of (LQ c a).1 h
 |map d f g i=>exact B4.of (LQ c a).1 h
 |iter d f g i=>exact B4.of (LQ c a).1 h
 |rows t e f=>
  obtain⟨al,d⟩:=Ad a;rw[d];exact(W5 λ_ _=>rfl).1 h
 |nest t e d=>rw[fT a];exact h
 |itM g i j l q=>obtain⟨f,d,_⟩:=YA a;rw[d];exact h
def ZQ (d:C3 za w0 st2 E w Z B) {BX:Nat->Value} {n0:Nat} (s:∀k,k<n0->BX k=B k):∀ {l:List (Nat×LT)} {x:pX l} {st:St} {c:List Nat},Jf za w0 st2 E w Z B c st BX->n0<=st.nx->A9o st2 l=some x->(∀y∈l,y.1<n0)->(∀y∈l,y.1∉c)->(l.map λy=>y.1).Nodup->
 Jf za w0 st2 E w Z B ((l.map λy=>y.1)++c) (putRows l x st) BX/\(putRows l x st).nx=st.nx
 | [],_,st,c,a,_,_,_,_,_=>⟨a,rfl⟩
 | (k,t)::Q,x,st,c,o,H,n,G,I,v=>by
  simp only[A9o,bind_some,qK]at n;obtain⟨l,i,R,O,rfl⟩:=n;have h:=G (k,t) (by simp);have F:=I (k,t) (by simp);simp only at h F;obtain⟨P,J,_⟩:=LQ d i;have D:BX k=B k:=s k h;simp only[rW,sP]at v;have u:∀b,B4 w (BX k) (t.lc l) b->B4 w (B k) (st2.L k) b:=λb f=>B8o d i (by rw[<-D];exact f)
  have c1:Jf za w0 st2 E w Z B (k::c) (st.setL k (t.lc l)) BX:=by
   refine⟨o.rel.addL ω (J.setB D λq N=>s q (Nat.lt_trans (fJ i N) h)) (λj b _ f a=>?_) (by cases t<;>first|trivial|exact λp n=>(by cases n) |exact rJ (Nat.lt_trans (fJ i rfl) h) H) (λb hk f=>d.mrk.2 k b hk (u b f)),λj b a=>?_⟩
   . exact o.disj d F j b (u b f) a
   rw[St.L_setL]at a;by_cases g:j=k
   . subst g;rw[qR rfl]at a;exact⟨j,by simp,u b a⟩
   rw[qL g]at a;obtain⟨q,A,r⟩:=o.own j b a;exact⟨q,qI _ A,r⟩
  obtain⟨z,M⟩:=ZQ d s c1 H O (λy hy=>G y (qI _ hy)) (λy hy=>by
   intro g;rcases qW.1 g with g|g
   . exact v.1 (g▸vS hy)
   exact I y (qI _ hy) g) v.2
  refine⟨⟨z.rel,λj b a=>?_⟩,M⟩;obtain⟨q,A,r⟩:=z.own j b a;refine⟨q,?_,r⟩;simp only[rW];grind
def A6w {BX:Nat->Value} :∀ {l:List (Nat×Bool×List Wq)} {cs:List C} {vs d:List Value} {st:St} {b:List Nat},Jf za w0 st2 E w Z B b st BX->Db w Z BX cs vs->VZ E l vs d->(∀c∈cs,Cz st.nx c)->
 Jf za w0 st2 E w Z B b (putS l cs st).2 BX/\Db w Z BX (putS l cs st).1 d/\(∀c∈(putS l cs st).1,Cz st.nx c)/\(putS l cs st).2.nx=st.nx
 | [],cs,vs,d,st,b,c,a,g,f=>by rw[show vs=d from g]at a;exact⟨c,a,f,rfl⟩
 | (s,f,shs)::l,cs,vs,d,st,b,c,j,⟨t,u,e,h,n,o,r⟩,i=>by
  subst e;have a:=j.take shs.length;have g:=j.drop shs.length;rw[<-h,g3h]at a;rw[<-h,g3e]at g;rw[h]at a g;have k:RS w Z BX ⟨f,cs.take shs.length⟩ (E s):=by
   cases f with
   |true=>exact⟨t,n rfl,a⟩
   |false=>rw[o rfl]at a;exact a
  have c1:Jf za w0 st2 E w Z B b (st.setS s (.one ⟨f,cs.take shs.length⟩)) BX:=⟨c.rel.setSame s k (λx hx=>i x (rO hx)),c.own⟩;have:=A6w (l:=l) (cs:=cs.drop shs.length) c1 g r (λx hx=>i x (vM hx));exact this
def A6v (g:C3 za w0 st2 E w Z B) {BX:Nat->Value} {n0:Nat} (s:∀k,k<n0->BX k=B k):∀ {l:List (Nat×TypeId×List Wq)} {cs:List C} {vs:List Value} {st:St} {f:List Nat},Jf za w0 st2 E w Z B f st BX->n0<=st.nx->Db w Z BX cs vs->iF za w0 w Z B st2 l vs->(∀c∈cs,Cz st.nx c)->(∀y∈l,y.1<n0)->(∀y∈l,y.1∉f)->(l.map λy=>y.1).Nodup->
 C3 za w0 (putB l cs st) E w Z BX
 | [],_,_,st,f,c,_,_,_,_,_,_,_=>c.rel
 | (k,T,shs)::l,cs,vs,st,f,c,Q,F,⟨W,X,e,i,P,⟨H,I,M,R,N⟩,U⟩,u,D,G,n=>by
  subst e;have b:=F.take shs.length;have d:=F.drop shs.length;rw[<-i,g3h]at b;rw[<-i,g3e]at d;rw[i]at b d;have z:=D (k,T,shs) (by simp);have A:=G (k,T,shs) (by simp);simp only at z A;have t:BX k=B k:=s k z;simp only[rW,sP]at n;have h:∀q,B4 w (BX k) (.box T (cs.take shs.length)) q->B4 w (B k) (st2.L k) q:=λq o=>B4.of P (by rw[<-t];exact o)
  have c1:Jf za w0 st2 E w Z B (k::f) (st.setL k (.box T (cs.take shs.length))) BX:=by
   refine⟨c.rel.addL ω ⟨H,W.toArray,t.trans I,M,R,N,by simpa using b⟩ (λj q _ o a=>?_) (λx r=>u x (rO r)) (λq O J=>g.mrk.2 k q O (h q J)),λj q a=>?_⟩
   . exact c.disj g A j q (h q o) a
   rw[St.L_setL]at a;by_cases v:j=k
   . subst v;rw[qR rfl]at a;exact⟨j,by simp,h q a⟩
   rw[qL v]at a;obtain⟨V,b,d⟩:=c.own j q a;exact⟨V,qI _ b,d⟩
  have:=A6v (l:=l) (cs:=cs.drop shs.length) g s c1 Q d U (λx r=>u x (vM r)) (λy hy=>D y (qI _ hy)) (λy hy=>by
   intro a;rcases qW.1 a with a|a
   . exact n.1 (a▸vS hy)
   exact G y (qI _ hy) a) n.2
  exact this
def Lp (a:C3 za w0 st2 E w Z B):∀ {shs:List Wq} {T:Type} {tl:T} {q:T->Prop} {cs:List C} {vs:List Value} {p:shD shs T},q tl->Db w Z B cs vs->Ac st2 shs tl cs=some p->shW shs q p
 | [],_,tl,q,[],vs,p,c,_,b=>by simp only[Ac,rF]at b;subst b;exact c
 | [],_,_,_,_:: _,_,_,_,_,b=>by cases b
 | .val t::r,_,_,_,[],_,_,_,_,b=>by cases b
 | .own t e::r,_,_,_,[],_,_,_,_,b=>by cases b
 | .ownR t e c::r,_,_,_,[],_,_,_,_,b=>by cases b
 | .fix k::r,_,_,_,[],_,_,_,_,b=>by cases b
 | .fixB k::r,_,_,_,[],_,_,_,_,b=>by cases b
 | .fixB k::r,_,tl,q,f::cs,vs,p,d,⟨v,h,_,g,c⟩,b=>by
  simp only[Ac]at b;exact Lp (shs:=r) a d c (E6 b).2
 | .fix k::r,_,tl,q,f::cs,vs,p,d,⟨v,h,_,g,c⟩,b=>by
  simp only[Ac]at b;exact Lp (shs:=r) a d c (E6 b).2
 | .val t::r,_,tl,q,i::cs,vs,p,f,⟨v,j,e,c,d⟩,b=>by
  simp only[Ac,bind_some,qK]at b;obtain⟨y,g,z,h,rfl⟩:=b;exact⟨C9.wf (iR c g),Lp a f d h⟩
 | .own t e::r,_,tl,q,k::cs,vs,p,g,⟨v,n,_,c,d⟩,b=>by
  simp only[Ac,bind_some,qK]at b;obtain⟨l,f,z,h,rfl⟩:=b;obtain⟨o,i,j,_⟩:=QR a c f;exact⟨C9.wf (Cv (Z:=λ_=>True) i (j.mono λ_ _=>C9.mono (λ_ _=>trivial) (λ_ _=>rfl)) (λ_ _=>trivial)),Lp a g d h⟩
 | .ownR t e j::r,_,tl,q,i::cs,vs,p,g,⟨v,k,_,c,d⟩,b=>by
  simp only[Ac,bind_some,qK]at b;obtain⟨l,f,z,h,rfl⟩:=b;exact⟨Ct.wf (A0a a c f).1,Lp a g d h⟩
def A7f (a:C3 za w0 st2 E w Z B):∀ {l:List (Nat×LT)} {x:pX l},A9o st2 l=some x->C4e l x
 | [],_,_=>trivial
 | (k,t)::r,x,b=>by
  simp only[A9o,bind_some,qK]at b;obtain⟨l,c,z,d,rfl⟩:=b;exact⟨(LQ a c).2.2,A7f a d⟩
def A5t {A:HO} {p:A.den} {o:St} (F:za.b0=0) (h:C3 za w0 st E w Z B) (g:gath A st=some (o,p)) (ab:B7b za.n st0) (a0:∀s∈A.keepS,o.eS s=st0.eS s) (X:∀k∈A.keepL,o.eL k=st0.eL k) (Y:∀y∈A.rowL,y.1<st0.nx) (W:o.fr=st0.fr):
 A.wf p/\∃Z' B',C3 za w0 (reflect A st0 p) E w Z' B':=by
 simp only[gath,qH,bind_some]at g;obtain⟨u,_,cs,j,tl,I,af,G,g⟩:=g;obtain⟨f,g⟩:=E6 g;cases g;simp only[qC,tH]at f;obtain⟨f,a5⟩:=f;obtain⟨Z0,V⟩:=h.plugL F (l:=A.rowL);obtain⟨Z1,d⟩:=C3.settleSh (shs:=A.shs) (cs:=u) V;generalize settleSh (plugL A.rowL st) A.shs u=st2 at*;have f:=Jl f;simp only[HO.cells,bind_some]at j;obtain⟨ac,a4,j⟩:=j;obtain⟨ag,a2,a3⟩:=eJ d a4;obtain⟨ah,H,a6⟩:=eK d a2 j;refine⟨Lp d (A7f d I) H G,?_⟩;have O:=C2i d ab a0 X W;have D:∀y∈A.rowL,y.1<B0e A.boxL st0.nx:=λy b=>rJ (Y y b) (Pd _ _)
 rw[sZ]at f;obtain⟨ae,J,r⟩:=f;rw[sZ]at J;obtain⟨a7,M,N⟩:=J;rw[sZ]at M;obtain⟨a8,a9,aa⟩:=M;obtain⟨BX,P,Q,R,T,v,U⟩:=Sl F d O H G (λq hq hk=>r q hk q (by simp[hq]) rfl) a7 (λc hc k hk=>by
  have:=a5 _ hc;cases c with
  |fix ad=>
   cases hk;simp only[B2s,xI]at this;obtain⟨y,b,a1⟩:=this;have:=qD a1;subst this;exact⟨D y b,rfl⟩
  |fixB ad=>
   cases hk;simp only[B2s,xI]at this;obtain⟨y,b,a1⟩:=this;have:=qD a1;subst this;exact⟨aL y b,rfl⟩
  | _=>cases hk)
 have z:∀k,k<B0e A.boxL st0.nx->BX k=B k:=T;have t:=ZQ d z (x:=(placeSh A.shs p (kept A st0)).2.2) P v (by rw[U];exact I) D (λy b a=>by
  rcases qU.1 a with a|a
  . exact N y.1 a y.1 (by simp only[qU,tT];exact .inl ⟨y,b,rfl⟩) rfl
  exact r y.1 a y.1 (by simp only[qU,tT];exact .inr (.inl ⟨y,b,rfl⟩)) rfl) a8
 have i:=A6w (l:=A.modS) t.1 Q a6 (by rw[t.2];exact R);refine⟨Z1,BX,?_⟩;exact A6v d z i.1 (by rw[i.2.2.2,t.2];exact v) i.2.1 a3 (by rw[i.2.2.2];exact i.2.2.1) (λy b=>aL y b) (λy b a=>by
  rcases qU.1 a with a|a
  . exact aa y.1 a y.1 (vS b) rfl
  rcases qU.1 a with a|a
  . exact N y.1 a y.1 (by simp only[qU,tT];exact .inr ⟨y,b,rfl⟩) rfl
  exact r y.1 a y.1 (by simp only[qU,tT];exact .inr (.inr ⟨y,b,rfl⟩)) rfl) a9
end
def addA (a:St) (d:Tmp) (lc:LC) (mk:Nat->C):St:=(a.newL lc).setS d (one1 (mk a.nx))
def OK (cx:Cx) (a:St) (d:Tmp):Op->Option (Option Prop×LC×(Nat->C))
 | .alloc T=>do
  let ti<-cx.ti T
  some (none, .box T (CS ti.ty),λk=> .box k 0)
 | .makeSlice T c b=>do
  let ti<-cx.ti T
  let t<-slT ti.ty
  let l<-jR a c
  let c<-jR a b
  bif ti.nest.any (Nat.beq d)then do
   let a<-cx.ti ti.elem
   bif MJ t then some (some (0<=l/\l<=c/\(ti.bytes:Int)*c<=281474976710656/\c<=9223372036854775807), .nest t ti.elem a.elem (List.replicate l.toNat t.dflt) [] (Ql t l.toNat), .row)else none
  else bif !ti.rows&&Rx t then some (some (0<=l/\l<=c/\(ti.bytes:Int)*c<=281474976710656/\c<=9223372036854775807), .row t ti.elem (List.replicate l.toNat t.dflt), .row)else none
 | _=>none
def B1c (lc:LC) (mk:Nat->C) (X:Obj) (f:Nat->Value):Prop:=
 ∀(d:Zn) (c w:World) (a:St) (E:G8) (Z:Nat->Prop) (B:Nat->Value) (h b:Nat),C3 d c a E w Z B->w.heap[b]? =some X->c.heap.size<=b->¬Z b->(∀k,¬B4 w (B k) (a.L k) b)->d.b0<=b->
  C3 d c (addA a h lc mk) (upd E h (f b)) w Z (upd B a.nx (f b))/\∀g,B4 w (f b) lc g->g=b
section
variable {za:Zn} {w0 w w':World} {st:St} {E:G8} {Z:Nat->Prop} {B:Nat->Value} {cx:Cx} {d:Tmp} {φ:Option Prop}
def C4.addA (st:St) (d:Tmp) (lc:LC) (mk:Nat->C):C4 st (addA st d lc mk):=(C4.newL _ _).trans (C4.setS _ _ _)
def B5f {a b e sz n c:Nat} {cs:Array Value} (h:w.heap[b]? =some (.cells cs e (0,0))) (g:a<=b) (d:cs.size=c*sz) (f:n<=c) (i:c<=maxLen):w.ownsRow a e sz (.slice (some ⟨b,0,none⟩) n c) n (cs.toList.take (n*sz)):=by
 refine⟨?_, .inr ⟨b,c,cs,rfl,g,h,f,i,d,rfl⟩⟩;rw[qZ,sB,d];exact tI (rL _ f)
def A7v {op:Op} {lc:LC} {mk:Nat->C} (h:C3 za w0 st E w Z B) (U:G7 cx.P cx.tys=true) (a:OK cx st d op=some (φ,lc,mk)) (Y:FL φ):
 ∃(X:Obj) (f:Nat->Value),(∀ty w',Gw.E2 cx.P E ty op w' (f w'.heap.size) (w'.alloc X))/\B1c lc mk X f:=by
 unfold OK at a;split at a
 . simp only[qH,bind_some]at a;obtain⟨ti,I,a⟩:=a;cases a;obtain⟨z,J,k⟩:=Gj (J4 (B9 U I)).2.2;rename_i T;refine⟨.cells z.cells T,λb=> .pointer (some ⟨b,0,none⟩),λty w'=>A7n J,λza w0 w st E Z B d b h i o A y s=>?_⟩;have F:=Dc (w:=w) (Z:=Z) (B:=B) (n:=st.nx) (Em ti.ty);have G:∀c,B4 w (.pointer (some ⟨b,0,none⟩)) (.box T (CS ti.ty)) c->c=b:=λc g=>by
    simp only[B4,root,rF]at g;exact g.symm
   have a7:=h.new (v:= .pointer (some ⟨b,0,none⟩)) (lc:= .box T (CS ti.ty)) ⟨b,z.cells,C2 _ _ _, .inl ⟨h.nms.2,o⟩,A,i,
    Db.mono (n:=st.nx) (λ_=>id) (λ_ _=>rfl) (λa0 aa=>C5 _ _ _ _ (tY aa)) F.2 (by rw[k];exact F.1)⟩
    (λa0 c g u=>y a0 (G c g▸u)) (λc g=>(F.2 c g).le (uI _)) rfl (λc _ g=>by rw[G c g];exact s)
   refine⟨a7.setS d (x:=one1 (.box st.nx 0)) ⟨_,[],rfl,⟨b,C2 _ _ _,rfl⟩,rfl⟩ (λc g=>?_),G⟩;simp at g;subst g;exact rR _
 . rename_i T ai a4;simp only[qH,bind_some]at a;obtain⟨ti,I,t,H,l,ab,c,g,a⟩:=a;have H:=Jy H;have a1:∀ {φ':Option Prop},FL (some (0<=l/\l<=c/\(ti.bytes:Int)*c<=281474976710656/\c<=9223372036854775807))->∃z:Value,z.cells.toList=Em t/\z.cells.size=t.size/\l.toNat<=c.toNat/\c.toNat<=maxLen/\∀ty w',Gw.E2 cx.P E ty (.makeSlice T ai a4) w' (.slice (some ⟨w'.heap.size,0,none⟩) l.toNat c.toNat) (w'.alloc (.cells (madeCells z.cells (c.toNat*t.size)) ti.elem)):=by
    intro _ ⟨D,M,N,O⟩;obtain⟨a5,z,a2,Q,J,W,k,a3,i,a9⟩:=Gt (B9 U I) H;obtain⟨a6,j,_⟩:=h.int (F2 E) ab;obtain⟨a8,r,_⟩:=h.int (F2 E) g;refine⟨z,k,a3,ω,by simp only[maxLen];omega,λty w'=>?_⟩;have V:=run_make (P:=cx.P) w' T ti.elem a5 z a2 Q J a6 a8 l c D M (by rw[i];exact N) O;rw[<-W];exact λ_ _ _ _=>by simp[execOp,j,r,V]
   cases R:ti.nest.any (Nat.beq d)with
   |true=>
    simp only[R,qS,qH,bind_some]at a;obtain⟨aj,_,a⟩:=a;cases D:MJ t with
    |false=>simp only[D,rI]at a;cases a
    |true=>
     simp only[D,qS]at a;cases a;obtain⟨z,k,ah,ac,ad,W⟩:=a1 (φ':=none) Y;obtain⟨ag,N,V⟩:=gB D;rw[ag]at ah W;refine⟨_,λb=> .slice (some ⟨b,0,none⟩) l.toNat c.toNat,W,λza w0 w st E Z B d b h i o A y s=>?_⟩;generalize Q:madeCells z.cells (c.toNat*1)=O at i;have a8:O.size=c.toNat*1:=by rw[<-Q];simp[madeCells]
     have af:=B5f (sz:=1) i o a8 ac ad;have ae:∀x∈O.toList.take (l.toNat*1),x=N:=λx j=>by
      have j:=rO j;rw[<-Q]at j;simp only[madeCells,g1s,tT]at j;obtain⟨M,_,rfl⟩:=j;have r:z.cells.toList= [N]:=k.trans V;have a2:z.cells= #[N]:=by rw[<-uA (xs:=z.cells),r]
      rw[a2];simp[g5a]
     obtain⟨ak,am⟩:=gC D V.symm;obtain⟨a5,a6⟩:=h.newNestE d (t:=t) (e':=aj.elem) (dd:=Ql t l.toNat) af (λM x j=>by
      have:=ae x (sW j);subst this;have a9:M<l.toNat:=by have:=(sR.1 j).1;rw[qZ]at this;omega
      exact⟨ak,am _ _ _ M _ a9⟩) (λa2 r=>by
      simp only[Value.ownBlock,rF]at r;subst r;exact⟨A,y⟩) (λa2 _ r=>by simp only[Value.ownBlock,rF]at r;subst r;exact s)
     exact⟨a5,λa3 u=>by have:=a6 a3 u;simp only[Value.ownBlock,rF]at this;exact this.symm⟩
   |false=>
    simp only[R,rI]at a;cases r: !ti.rows&&Rx t with
    |false=>simp only[r,rI]at a;cases a
    |true=>
     simp only[r,qS]at a;cases a;simp only[qC]at r;obtain⟨z,k,a5,M,W,a3⟩:=a1 (φ':=none) Y;refine⟨_,λb=> .slice (some ⟨b,0,none⟩) l.toNat c.toNat,a3,λza w0 w st E Z B d b h i o A y s=>?_⟩;have D:G5 (C9 t w Z) ((madeCells z.cells (c.toNat*t.size)).toList.take (l.toNat*t.size)) (List.replicate l.toNat t.dflt):=PU k r.2 a5 _ _ M;generalize Q:madeCells z.cells (c.toNat*t.size)=O at i D;have V:O.size=c.toNat*t.size:=by rw[<-Q];simp[madeCells]
     have a2:=B5f i o V M W;refine⟨h.newRowE d (t:=t) (e:=ti.elem) (l:=List.replicate l.toNat t.dflt) (by rw[rG];exact a2) D (λN j=>by
      simp only[Value.ownBlock,rF]at j;subst j;exact⟨A,y⟩) (λN _ j=>by simp only[Value.ownBlock,rF]at j;subst j;exact s),λa6 u=>?_⟩
     have:=u;simp only[B4,root,rF]at this;exact this.symm
 cases a
end
def HB (cx:Cx) (all:List Oper) (a:St):List Nat->(St->Prop)->St->Prop
 | [],k=>k
 |i::r,k=>λb=>match all[i]? with
  |some o=>match OK cx a (Gk all i) o.op with
   |some (c,lc,mk)=>cN c (HB cx all a r k (addA b (Gk all i) lc mk))
   |none=>False
  |none=>False
def A4p (all:List Oper) (f:Nat->Nat->Value) (bl:Nat->Nat):List Nat->G8->G8
 | [],E=>E
 |i::r,E=>A4p all f bl r (upd E (Gk all i) (f i (bl i)))
section
variable {za:Zn} {w0 w w':World} {Z:Nat->Prop} {cx:Cx} {all:List Oper} {st0:St} {k k':St->Prop} {f:Nat->Nat->Value} {X:Nat->Obj} {bl:Nat->Nat}
def gN:∀ {ls:List Nat} {c:St},HB cx all st0 ls k c->∀i∈ls,∃o φ lc mk,all[i]? =some o/\OK cx st0 (Gk all i) o.op=some (φ,lc,mk)/\FL φ
 | [],_,_,_,h=>by cases h
 |i::r,c,a,j,b=>by
  simp only[HB]at a;split at a
  . rename_i o h;split at a
    . rename_i φ lc mk g;obtain⟨d,f⟩:=F1.1 a;rcases qW.1 b with rfl|b
      . exact⟨o,φ,lc,mk,h,g,d⟩
      exact gN f j b
    exact a.elim
  exact a.elim
def ZZ:∀ {ls:List Nat} {a:St},HB cx all st0 ls k a->(∀b,C4 a b->k b->k' b)->HB cx all st0 ls k' a
 | [],a,h,c=>c a (C4.refl a) h
 |i::r,a,h,c=>by
  simp only[HB]at h|-;split at h
  . split at h
    . exact F1.2 ⟨(F1.1 h).1,ZZ (F1.1 h).2 λb e a=>c b ((C4.addA _ _ _ _).trans e) a⟩
    exact h
  exact h
def JL {x:Nat} :∀ {l:List Nat} {E:G8},x∉Bm all l->A4p all f bl l E x=E x
 | [],_,_=>rfl
 |i::l,E,h=>by
  simp only[Bm,rW,qW,g4z]at h;simp only[A4p];rw[JL h.2,C5 _ _ _ _ h.1]
def A0v {i:Nat} :∀ {l:List Nat} {E:G8},(Bm all l).Nodup->i∈l->A4p all f bl l E (Gk all i)=f i (bl i)
 | [],_,_,h=>by cases h
 |j::l,E,b,h=>by
  simp only[Bm,rW]at b;obtain⟨c,d⟩:=sP.1 b;simp only[A4p];by_cases a:i∈l
  . exact A0v d a
  rcases qW.1 h with rfl|h
  . rw[JL c,C2]
  exact absurd h a
def A0g:∀ {ls:List Nat} {a:St} {E:G8} {B:Nat->Value},C3 za w0 a E w Z B->(∀i∈ls,∀o φ lc mk,all[i]? =some o->OK cx st0 (Gk all i) o.op=some (φ,lc,mk)->B1c lc mk (X i) (f i))->
 (∀i∈ls,w.heap[bl i]? =some (X i)/\w0.heap.size<=bl i/\¬Z (bl i)/\za.b0<=bl i/\∀k,¬B4 w (B k) (a.L k) (bl i))->(∀i∈ls,∀j∈ls,i≠j->bl i≠bl j)->ls.Nodup->HB cx all st0 ls k a->∃s B',C3 za w0 s (A4p all f bl ls E) w Z B'/\k s
 | [],a,E,B,h,_,_,_,_,b=>⟨a,B,h,b⟩
 |i::T,a,E,B,M,r,g,n,O,b=>by
  simp only[HB]at b;obtain⟨Q,R⟩:=sP.1 O;split at b
  . rename_i o P;split at b
    . rename_i φ lc mk h;obtain⟨_,b⟩:=F1.1 b;obtain⟨v,x,y,z,A⟩:=g i (rD);obtain⟨I,J⟩:=r i rD o φ lc mk P h za w0 w a E Z B (Gk all i) (bl i) M v x y A z;refine A0g (ls:=T) (E:=upd E (Gk all i) (f i (bl i))) I (λj c=>r j (qI _ c)) (λj c=>?_) (λt h u g=>n t (qI _ h) u (qI _ g)) R b;obtain⟨c1,D,F,G,H⟩:=g j (qI _ c);refine⟨c1,D,F,G,λq d=>?_⟩;have N:(addA a (Gk all i) lc mk).L q=(a.newL lc).L q:=rfl;rw[N,St.L_newL]at d;by_cases l:q=a.nx
      . subst l;rw[qR rfl,C2]at d;exact n i rD j (qI _ c) (λe=>Q (e▸c)) (J _ d).symm
      rw[qL l,C5 _ _ _ _ l]at d;exact H q d
    exact b.elim
  exact b.elim
def gM:∀(l:List Nat) (E:G8) (w:World),l.Nodup->(Bm all l).Nodup->R5 w (Gl all f X l E w).2/\∃bl:Nat->Nat,(∀i∈l,w.heap.size<=bl i/\(Gl all f X l E w).2.heap[bl i]? =some (X i)/\(Gl all f X l E w).1 (Gk all i)=f i (bl i))/\∀i∈l,∀j∈l,i≠j->bl i≠bl j
 | [],_,w,_,_=>⟨R5.refl w,λ_=>0,by simp,by simp⟩
 |i::r,E,w,z,o=>by
  obtain⟨D,F⟩:=sP.1 z;simp only[Bm,rW]at o;obtain⟨s,t⟩:=sP.1 o;obtain⟨n,bl,h,x⟩:=gM r (upd E (Gk all i) (f i w.heap.size)) (w.alloc (X i)) F t;have B:R5 w (w.alloc (X i)):=R5.alloc w _;have A:(w.alloc (X i)).heap.size=w.heap.size+1:=Array.size_push ..;simp only[Gl];refine⟨B.trans n,λj=>if j=i then w.heap.size else bl j,λj d=>?_,λa ha b hb hab=>?_⟩
  . rcases qW.1 d with rfl|d
    . have y:(if j=j then w.heap.size else bl j)=w.heap.size:=qR rfl;show w.heap.size<=(if j=j then w.heap.size else bl j)/\(Gl all f X r _ _).2.heap[if j=j then w.heap.size else bl j]? = _ /\ _=f j (if j=j then w.heap.size else bl j);rw[y];refine⟨qV _,?_,by rw[Iv _ _ _ s,C2]⟩;rw[n.block _ (by rw[A];exact rR _)];exact heap_alloc_new w _
    have:j≠i:=λe=>D (e▸d)
    simp only[qL this];obtain⟨G,u,v⟩:=h j d;exact⟨ω,u,v⟩
  simp only;have g:∀q,q∈i::r->q≠i->q∈r:=λq hq hqi=>(qW.1 hq).resolve_left hqi
  by_cases c:a=i
  . rw[qR c,qL (λe=>hab (c.trans e.symm))];have:=(h b (g b hb (λe=>hab (c.trans e.symm)))).1;omega
  rw[qL c];by_cases k:b=i
  . rw[qR k];have:=(h a (g a ha c)).1;omega
  rw[qL k];exact x a (g a ha c) b (g b hb k) hab
end
def apart (a:St) (q:Nat):C->Bool
 | .box k _=> !(Nat.beq k q)&&(match a.L k with
  | .box _ _=>true
  | _=>false)
 | .elp k _ _ _=> !(Nat.beq k q)&&(match a.L k with
  | .row _ _ _=>true
  | _=>false)
 | .pf _ _ _=>true
 | _=>false
def oV (cx:Cx) (a:St) (ts:List Nat) (o:Oper):Bool:=match o.op with
 | .load T x=>o.guard.isNone&&(YF cx a [] T x).isSome&&(match(a.ev [] x).bind c1 with
  |some c=>ts.all λs=>match a.S s with
   | .one ⟨false,[.box q 0]⟩=>apart a q c&&(match a.L q with
    | .box _ _=>true
    | _=>false)
   | _=>false
  |none=>false)
 |op=> !(A3b op)
def C3h (all:List Oper) (ts:List Nat):Bool:=all.all λo=>match o.dst with
 |some d=> !(ts.contains d)
 |none=>true
section
variable {za:Zn} {w0 w:World} {Z:Nat->Prop} {B:Nat->Value} {st:St} {E E0:G8} {cx:Cx} {sp:G1} {all:List Oper} {k:St->Prop} {ts:List Nat}
def A2v (h:∀s∈ts,E s=E0 s) {b:Nat} :Ux E ts b->Ux E0 ts b:=fun⟨s,hs,hb⟩=>⟨s,hs,by rw[<-h s hs];exact hb⟩
def B9j (h:C3 za w0 st E w Z B) {s q:Nat} (f:st.S s= .one ⟨false,[.box q 0]⟩):E s=B q:=by
 have a:=h.slots s;rw[f]at a;obtain⟨v,_,b,⟨g,c,d⟩,i⟩:=a;cases b;rw[d,c]
def B3u (h:C3 za w0 st E w Z B) (aj:G7 cx.P cx.tys=true) {T ty:TypeId} {x:Operand} {g:Option (Nat×Bool)} {d:Option Tmp} {pos:String} {aft:Array Edge} (t:oV cx st ts ⟨d, .load T x,ty,pos,aft,g⟩=true):
 ∃v,∀w',Y6 (Ux E ts) w w'->Gw.E2 cx.P E ty (.load T x) w' v w':=by
 simp only[oV,qC]at t;obtain⟨⟨_,J⟩,t⟩:=t;obtain⟨ar,J⟩:=zK.1 J;simp only[YF,qH,bind_some,qK]at J;obtain⟨ti,ah,a0,⟨X,I,s⟩,A,a,_⟩:=J;have i:(st.ev [] x).bind c1=some a0:=bind_some.2 ⟨X,I,s⟩;rw[i]at t;simp only[tH]at t;obtain⟨o,G,_⟩:=J4 (B9 aj ah);have ag:(ti.agg=true/\WC cx.P T ti.ty.size=true)\/(ti.agg=false/\Ei cx.P T=true/\ti.ty.size=1):=by
  rcases G with⟨c,G⟩ | ⟨c,G,M⟩
  . exact .inl ⟨c,G⟩
  exact .inr ⟨c,G,M⟩
 have N:=(h.c1 (F2 E) i).1;have out:∀ {b:Nat},(∀q,apart st q a0=true->(∃T A,st.L q= .box T A)->root (B q)≠some b)->¬Ux E ts b:=λ{b} l ⟨X,I,hb⟩=>by
  have o:=t X I;split at o
  . rename_i q a1;simp only[qC]at o;obtain⟨o,M⟩:=o;refine l q o ?_ (by rw[<-B9j h a1];exact hb);split at M
    . rename_i e;exact⟨_,_,e⟩
    cases M
  cases o
 have fin:∀ {b O:Nat} {Y:List Value},Gw.ev E x= .pointer (some ⟨b,O,none⟩)->b<w.heap.size->I6 w ⟨b,O,none⟩ Y->Y.length=ti.ty.size->¬Ux E ts b->∃v,∀w',Y6 (Ux E ts) w w'->Gw.E2 cx.P E ty (.load T x) w' v w':=λf hb i hn ho=>by
  obtain⟨v,F,_⟩:=A6g (P:=cx.P) (ty:=ty) f i (by rw[hn];exact ag);exact⟨v,λw' M=>F w' (M.block _ hb ho)⟩
 have a6:∀ {b:Nat},Z b->¬Ux E ts b:=λ{b} r=>out λq _ ⟨T,A,e⟩ a=>((h.locs q).root (b:=b) (by rw[e];exact a)).2.2 r
 unfold A6f at a;split at a
 . rename_i k y;split at a
   . rename_i au ap u;have H:=h.locs k;rw[u]at H;obtain⟨b,Y,e,_,_,a3,s⟩:=H;obtain⟨a7,D,f⟩:=N;rw[e]at D;cases D;obtain⟨F,n,_⟩:=Qd s a;have:=M6 a3.cellsAt y ti.ty.size;rw[sD]at this;refine fin f a3.lt this n (out λq c ⟨T,A,eq⟩ hrq=>?_);simp only[apart,qC,rN]at c;exact h.disj k q b (uK c.1) (by rw[u,e];rfl) (by rw[eq];exact hrq)
   . rename_i q z am u;cases Q:Nat.beq q k with
     |false=>simp only[Q,rI]at a;cases a
     |true=>
      simp only[Q,qS]at a;have:=qD Q;subst this;have H:=h.locs q;rw[u]at H;obtain⟨_,⟨b,O,a8,M,r,i,R⟩,_⟩:=H;simp only[sJ,vO]at M;obtain⟨a7,D,f⟩:=N;rw[M]at D;cases D;obtain⟨F,n,_⟩:=Qd (O7 (B:=B) R) a;have s:=M6 i y ti.ty.size;rw[sD]at s;exact fin f (h.zlt _ r) s n (a6 r)
   cases a
 . rename_i z am y;obtain⟨b,O,a8,f,r,i,R⟩:=N;obtain⟨F,n,_⟩:=Qd (O7 (B:=B) R) a;exact fin f (h.zlt b r) (M6 i y _) n (a6 r)
 . rename_i k sz V y;split at a
   . rename_i z W u;cases U:Nat.beq sz z.size with
     |false=>simp[U]at a
     |true=>
      simp only[U,qS]at a;have I:=qD U;subst I;obtain⟨e,ak,M,ab⟩:=lD h u;obtain⟨b,m,an,a1,a4,f⟩:=N;rw[a1]at M;have af:m=W.length:=by
       rcases M.2 with⟨l,_⟩ | ⟨_,_,_,l,_⟩<;>cases l
       rfl
      subst af;have ae:=G5.get (λ_ _ h=>C9.length h) ab (qM a4);have ad:W.getD V z.dflt=W[V]:=by rw[qE,qM a4];rfl
      rw[ad]at a;obtain⟨F,n,_⟩:=Qd (O7 (B:=B) ae) a;have a9:=(World.ownsRow.lt M b rfl).2;have aa:I6 w ⟨b,0,none⟩ ak:=λj v hj=>by
       rcases M.2 with⟨l,_⟩ | ⟨g,ao,aq,l,_,ac,_,_,_,ai⟩
       . cases l
       cases l;rw[K5,sD];simp only[World.cell?,ac];rw[<-ai,wA]at hj;split at hj
       . simpa using hj
       cases hj
      have a5:=M6 (M6 aa (V*z.size) z.size) y ti.ty.size;rw[sD]at a5;refine fin f a9 a5 n (out λq c ⟨T,A,eq⟩ hrq=>?_);simp only[apart,qC,rN]at c;obtain⟨c,a2⟩:=c;refine h.disj k q b (uK c) ?_ (by rw[eq];exact hrq);split at a2
      . rename_i e;rw[e,a1];rfl
      cases a2
   cases a
 cases a
def gV {P:Program} {o:Oper} {n:G8->World->Prop} (h:K4 P all o n E w):K4 P all o (λE' w'=>(∀x,o.dst≠some x->E' x=E x)/\n E' w') E w:=by
 have a:∀v x,o.dst≠some x->aR E o.dst v x=E x:=λv x hx=>by
  cases c:o.dst with
  |none=>rfl
  |some d=>exact C5 _ _ _ _ λe=>hx (by rw[c,e])
 unfold K4 at h|-;split
 . rename_i b;simp only[b,wG]at h;generalize (execOp (Gw.ev E) o).run P w=r at*;cases r with
   |ok m w'=>
    cases m<;>simp only at h|-
    case value v=>exact⟨a _,h⟩
    case skip=>exact⟨a _,h⟩
    case enter f args=>exact h.mono λe c ⟨v,he,hn⟩=>⟨v,he,a _,hn⟩
   |halt x w'=>exact h
 rename_i b;simp only[b]at h;exact⟨a _,h⟩
def gG {P:Program} {S:World->Prop} {o:Oper} {n:G8->World->Prop} (h:Qo P S all o n E w):Qo P S all o (λE' w'=>(∀x,o.dst≠some x->E' x=E x)/\n E' w') E w:=by
 have c:∀v x,o.dst≠some x->aR E o.dst v x=E x:=λv x hx=>by
  cases f:o.dst with
  |none=>rfl
  |some g=>exact C5 _ _ _ _ λe=>hx (by rw[f,e])
 rcases h with⟨a,v,b,d⟩ | ⟨a,b⟩
 . exact .inl ⟨a,v,b,c _,d⟩
 exact .inr ⟨a,c _,b⟩
def VI {o:Oper} {i s:Nat} (a:C3h all ts=true) (b:all[i]? =some o) (c:s∈ts):o.dst≠some s:=λe=>by
 have:=tH.1 a o (sW b);rw[e]at this;simp only[rN]at this;exact R7 this c
end
structure K where
 n:St->Prop
 x:Nat->St->Prop
 r:St->Prop
def K.at (k:K):Exit->St->Prop
 | .normal=>k.n
 | .exit i=>k.x i
 | .ret=>k.r
 | _=>λ_=>False
structure An where
 join:List (Nat×HO):= []
 loop:List (Nat×HO):= []
 plan:List (Nat×List Nat×List Nat×Bool×Pl):= []
 bump:Nat:=0
 mv:List (Nat×List Nat):= []
 kp:List (Nat×List Nat):= []
 spl:List (Nat×Nat×Nat):= []
 frz:List (Nat×List Nat):= []
def pB:Code->Option Nat
 | .region id _ _=>some id
 | .seq a b=>match pB a with
  |some i=>some i
  |none=>pB b
 | .cond _ a b=>match pB a with
  |some i=>some i
  |none=>pB b
 | .block _ c=>pB c
 | .loop c=>pB c
 | _=>none
def C1b (l:List (Nat×HO)):Option Nat->Option HO
 |some i=>V3 i l
 |none=>none
def C8x (A:HO) (a:St) (b:(St->Prop)->Prop) (c:St->Prop):Prop:=
 ∃J:A.den->Prop,b (OY A a J)/\∀p,A.wf p->J p->c (reflect A a p)
def C1v (A:HO) (a:St) (d:(St->Prop)->St->Prop):Prop:=
 match gath A a with
 |some (a,f)=>bif(A.rowL.all λx=>Nat.blt x.1 a.nx)&&(A.boxL.all λx=>Nat.blt x.1 a.nx)then
  (∃(I:A.den->Prop) (c:A.den->Nat),I f/\∀p,A.wf p->I p->d (OY A a λb=>I b/\c b<c p) (reflect A a p))else False
 |none=>False
def Lh (cx:Cx) (all:List Oper) (o:Oper) (k:St->Prop) (a:St):Prop:=
 match o.guard with
 |none=>match Vn cx a [] o.op with
  |some (b,v)=>match o.dst with
   |some d=>cN b (k (a.setS d v))
   |none=>False
  |none=>match o.op with
   | .load T x=>match o.dst with
    |some d=>(match fN cx a d T x with
     |some b=>k b
     |none=>False)
    |none=>False
   | _=>False
 |some (j,b)=>match(all[j]?).bind (·.dst)with
  |some t=>bif Ol a 20 t then(match o.dst with
   |some d=>bif !(Nat.beq t d)then(match Vn cx a (gctx a 20 t b) o.op with
    |some (c, .one s)=>bif s.cs.all (B5t a.nx)then cN (B8e (ctxP a (gctx a 20 t b)) c) (k (a.setS d (.cnd t b s)))else False
    |some _=>False
    |none=>match o.op with
     | .load T x=>(match fL cx a (gctx a 20 t b) t b d T x with
      |some a=>k a
      |none=>False)
     | _=>False)else False
   |none=>False)else False
  |none=>False
def SL (cx:Cx) (all:List Oper):List Nat->(St->Prop)->St->Prop
 | [],k=>k
 |j::r,k=>λa=>match all[j]? with
  |some o=>bif !(A3b o.op)&&C0g (fZ all j) (Bm all (j::r))then Lh cx all o (SL cx all r k) a else False
  |none=>False
def S9 (cx:Cx) (sp:G1) (all:List Oper) (tails:List Nat) (n0:Nat) (nw:Bool) (ts:List Nat):Pl->Bool->Bool->(St->Prop)->St->Prop
 | .done,_,_,k=>k
 | .q i p,a,t,k=>λb=>match all[i]? with
  |some o=>bif(a|| !nw)&&(ts.isEmpty||oV cx b ts o)then Lh cx all o (S9 cx sp all tails n0 nw ts p a t k) b else False
  |none=>False
 | .p i p,a,t,k=>λb=>match all[i]? with
  |some o=>bif !(A3b o.op)then Lh cx all o (S9 cx sp all tails n0 nw ts p a t k) b else False
  |none=>False
 | .e i p,_,t,k=>λa=>match all[i]? with
  |some o=>bif((t||tails.contains i) || !(cA sp a o) || (nw&&frO n0 a o.op) || (!nw&&oU cx sp a ts o))&&(!nw||kM sp n0 a o.op)then Wv cx sp all o (S9 cx sp all tails n0 nw ts p false (t||tails.contains i) k) a else False
  |none=>False
 | .or i p q,b,t,k=>λa=>
  (match all[i]? with
  |some o=>bif((t||tails.contains i) || !(cA sp a o) || (nw&&frO n0 a o.op) || (!nw&&oU cx sp a ts o))&&(!nw||kM sp n0 a o.op)then Wv cx sp all o (S9 cx sp all tails n0 nw ts p false (t||tails.contains i) k) a else False
  |none=>False)/\S9 cx sp all tails n0 nw ts q b t k a
 | .al a b p,_,t,k=>λc=>bif A7u all a b&&ts.isEmpty then HB cx all c a (SL cx all b (S9 cx sp all tails n0 nw ts p false t k)) c else False
def pkO:Op->Bool
 | .move _=>true
 | .assign _=>true
 | .pick _ _ _=>true
 | .build _ _=>true
 | .nilCheck _=>true
 | .binOp _ _ _ _ _=>true
 | .unOp _ _ _=>true
 | .convert _ _ _=>true
 | .fieldAddr _ _ _=>true
 | .field _ _ _=>true
 | .indexAddr _ _ _=>true
 | .index _ _ _=>true
 | .extract _ _=>true
 | .slice _ _ _ _ _=>true
 | .makeFunc _ _ _=>true
 | .call ⟨.builtin .len,_,_⟩=>true
 | .call ⟨.builtin .max,_,_⟩=>true
 | .call ⟨.builtin .min,_,_⟩=>true
 | _=>false
def B1h (all:List Oper) (a tails:List Nat) (nw:Bool):Nat->Array Bool->Bool->Pl
 |0,_,_=> .done
 |n+1,l,b=>
  let r:=Region.ready .any all.toArray l
  let c:=λi=>((all[i]?).map λo=>pkO o.op).getD false
  match r.find? λi=>Region.free .any all.toArray l i&& !tails.contains i&&(c i|| (a.contains i&&(b|| !nw)))with
  |some i=>bif c i then .p i (B1h all a tails nw n (l.setIfInBounds i true) b)else .q i (B1h all a tails nw n (l.setIfInBounds i true) b)
  |none=>match r.reverse with
   | []=> .done
   |i::b=>b.foldl (λq j=> .or j (B1h all a tails nw n (l.setIfInBounds j true) false) q) (.e i (B1h all a tails nw n (l.setIfInBounds i true) false))
def C1q (all:List Oper) (a tails:List Nat) (nw:Bool):Pl->Pl
 | .done=>B1h all a tails nw all.length (Array.replicate all.length false) true
 |p=>p
def mvB (a:St) (q:Nat):St:=match a.S q with
 | .one ⟨false,[.box k 0]⟩=>match a.L k with
  | .box T b=>bif Nat.ble a.nm k then((a.setL k .none).newL (.box T b)).setS q (one1 (.box a.nx 0))else a
  | _=>a
 | _=>a
def mvs (an:An) (id:Nat) (k:St->Prop):St->Prop:=match V3 id an.mv with
 |some qs=>λa=>k (qs.foldl mvB a)
 |none=>k
def kpO (an:An) (id:Nat):List Nat:=(V3 id an.kp).getD []
def B5z (b:St) (q:Nat) (a:IntKind) (x:Int) (k:St->Prop):Nat->Prop
 |0=>True
 |j+1=>B5z b q a x k j/\(x=(j:Int)->k (b.setS q (one1 (.val (.int a) (j:Int)))))
def A0n (an:An) (id:Nat) (k:St->Prop):St->Prop:=match V3 id an.spl with
 |some (q,n)=>λa=>(match a.S q with
  | .one ⟨false,[.val (.int b) x]⟩=>(0<=x/\x<(n:Int))/\B5z a q b x k n
  | _=>False)
 |none=>k
def B6b (an:An) (id:Nat) (a:St):St:=match V3 id an.frz with
 |some qs=>qs.foldl (λa q=>match a.S q with
  | .one s=>settleA a [.val false .unit] [s]
  | _=>a) a
 |none=>a
def Oe (cx:Cx) (sp:G1) (an:An):Code->K->St->Prop
 | .skip,k=>k.n
 | .label _,k=>k.n
 | .region id ops b,k=>λa=>A0n an id (λa=>bif b then(match V3 id an.plan with
  |some (c,b,d,f)=>let p:=C1q ops.toList c b d f;bif C1i ops.toList c b p&&cx.P.follows .mixedOrders&&C3h ops.toList (kpO an id)then S9 cx sp ops.toList b a.nx d (kpO an id) p true false (mvs an id k.n) a else False
  |none=>False)else aB cx sp ops.toList ops.toList k.n a) (B6b an id a)
 | .seq c b,k=>λa=>match C1b an.join (pB b)with
  |some A=>C8x A a (λj=>Oe cx sp an c {k with n:=j} a) (Oe cx sp an b k)
  |none=>Oe cx sp an c {k with n:=Oe cx sp an b k} a
 | .cond d b c,k=>λa=>match(a.ev [] d).bind RU with
  |some e=>(e=true->Oe cx sp an b k a)/\(e=false->Oe cx sp an c k a)
  |none=>False
 | .block id c,k=>Oe cx sp an c {k with x:=λi a=>bif Nat.beq i id then k.n a else k.x i a}
 | .loop c,k=>λa=>match C1b an.loop (pB c)with
  |some A=>C1v A a λj=>Oe cx sp an c {k with n:=j}
  |none=>False
 | .exit i,k=>k.x i
 | .ret,k=>k.r
 | _,_=>λ_=>False
section
variable {za:Zn} {w0:World} {cx:Cx} {sp:G1} {an:An} {all:List Oper}
def Vs {o:Oper} {k k':St->Prop} {b:St} (h:Lh cx all o k b) (a:∀c,C4 b c->k c->k' c):Lh cx all o k' b:=by
 unfold Lh at h|-;split at h
 . split at h
   . split at h
     . exact F1.2 ⟨(F1.1 h).1,a _ (C4.setS _ _ _) (F1.1 h).2⟩
     exact h
   split at h
   . split at h
     . split at h
       . rename_i b;exact a _ (fO b) h
       exact h
     exact h
   exact h
 split at h
 . obtain⟨c,h⟩:=C0 h;simp only[c,qS];split at h
   . obtain⟨c,h⟩:=C0 h;simp only[c,qS];split at h
     . obtain⟨c,h⟩:=C0 h;simp only[c,qS];exact F1.2 ⟨(F1.1 h).1,a _ (C4.setS _ _ _) (F1.1 h).2⟩
     . exact h
     split at h
     . split at h
       . rename_i b;exact a _ (fM b) h
       exact h
     exact h
   exact h
 exact h
def aC:∀ {ls:List Nat} {k k':St->Prop} {a:St},SL cx all ls k a->(∀b,C4 a b->k b->k' b)->SL cx all ls k' a
 | [],_,_,a,h,b=>b a (C4.refl a) h
 |j::r,_,_,a,h,f=>by
  simp only[SL]at h|-;split at h
  . obtain⟨a,h⟩:=C0 h;simp only[a,qS];exact Vs h λb a c=>aC c λg b d=>f g (a.trans b) d
  exact h
def Bj {tails:List Nat} {n0:Nat} {nw:Bool} {ts:List Nat} :∀ {p:Pl} {pre t:Bool} {k k':St->Prop} {a:St},S9 cx sp all tails n0 nw ts p pre t k a->(∀b,C4 a b->k b->k' b)->S9 cx sp all tails n0 nw ts p pre t k' a
 | .done,_,_,_,_,a,h,b=>b a (C4.refl a) h
 | .q i p,pre,t,_,_,a,h,g=>by
  simp only[S9]at h|-;split at h
  . obtain⟨b,h⟩:=C0 h;simp only[b,qS]at h|-;exact Vs h λc b d=>Bj d λi c f=>g i (b.trans c) f
  exact h
 | .p i p,pre,t,_,_,a,h,g=>by
  simp only[S9]at h|-;split at h
  . obtain⟨b,h⟩:=C0 h;simp only[b,qS];exact Vs h λc b d=>Bj d λi c f=>g i (b.trans c) f
  exact h
 | .e i p,pre,t,_,_,a,h,g=>by
  simp only[S9]at h|-;split at h
  . obtain⟨b,h⟩:=C0 h;simp only[b,qS];exact JJ h λc b d=>Bj d λi c f=>g i (b.trans c) f
  exact h
 | .or i p q,pre,t,_,_,a,h,b=>by
  simp only[S9]at h|-;refine⟨?_,Bj h.2 b⟩;have h:=h.1;split at h
  . obtain⟨c,h⟩:=C0 h;simp only[c,qS];exact JJ h λd c f=>Bj f λi d g=>b i (c.trans d) g
  exact h
 | .al b c p,pre,t,_,_,a,h,g=>by
  simp only[S9]at h|-;obtain⟨a,h⟩:=C0 h;simp only[a,qS];exact ZZ h λb a c=>aC c λf b d=>Bj d λh c f=>g h (a.trans (b.trans c)) f
def C4.told (A:HO) (a:St) (p:A.den):C4 a (Vc.reflect A a p):=
 ⟨qX (uI _) (C4.reflect A a p).ct,λ_ b c=>pW b c,λ_ b c=>kZ b c,(C4.reflect A a p).f.le (uI _)⟩
def C4.gath {A:HO} {a b:St} {p:A.den} (h:gath A a=some (b,p)):C4 a b:=by
 simp only[Vc.gath,qH,bind_some]at h;obtain⟨d,_,c,_,tl,_,f,_,h⟩:=h;obtain⟨_,h⟩:=E6 h;cases h;exact(C4.plugL _ _).trans (C4.settleSh _ _ _)
def C4.mvB (a:St) (q:Nat):C4 a (Vc.mvB a q):=by
 unfold Vc.mvB;split
 . split
   . cases Nat.ble a.nm _ with
     |true=>exact(C4.setL ..).trans ((C4.newL ..).trans (C4.setS ..))
     |false=>exact C4.refl _
   exact C4.refl _
 exact C4.refl _
def C4.mvBs:∀(qs:List Nat) (a:St),C4 a (qs.foldl Vc.mvB a)
 | [],a=>C4.refl a
 |q::qs,a=>(C4.mvB a q).trans (C4.mvBs qs _)
def gT {q:Nat} {d:IntKind} {x:Int} {k k':St->Prop} {a:St} (c:∀b,C4 a b->k b->k' b):∀ {n:Nat},B5z a q d x k n->B5z a q d x k' n
 |0,h=>h
 | _ +1,h=>⟨gT c h.1,λe=>c _ (C4.setS ..) (h.2 e)⟩
def B0a {id:Nat} {k k':St->Prop} {a:St} (h:A0n an id k a) (d:∀b,C4 a b->k b->k' b):A0n an id k' a:=by
 cases c:V3 id an.spl with
 |none=>simp only[A0n,c]at h|-;exact d a (C4.refl a) h
 |some y=>
  simp only[A0n,c]at h|-;split at h
  . exact⟨h.1,gT d h.2⟩
  exact h
def C4.frz (an:An) (id:Nat) (a:St):C4 a (B6b an id a):=by
 unfold B6b;split
 . rename_i qs b;clear b
   induction qs generalizing a with
   |nil=>exact C4.refl a
   |cons q qs b=>
    refine C4.trans ?_ (b _);dsimp only;split
    . exact C4.settleA _ _ _
    exact C4.refl a
 exact C4.refl a
def C3.frz {id:Nat} {a:St} {E:G8} {w:World} {Z:Nat->Prop} {B:Nat->Value} (h:C3 za w0 a E w Z B):∃Z',C3 za w0 (B6b an id a) E w Z' B:=by
 unfold B6b;split
 . rename_i qs b;clear b
   induction qs generalizing a Z with
   |nil=>exact⟨Z,h⟩
   |cons q qs b=>
    have:∃Z',C3 za w0 (match a.S q with
     | .one s=>Vc.settleA a [.val false .unit] [s]
     | _=>a) E w Z' B:=by
     split
     . exact h.settleA
     exact⟨Z,h⟩
    obtain⟨Z',a⟩:=this;exact b a
 exact⟨Z,h⟩
def A0m {q:Nat} {a:IntKind} {x:Int} {k:St->Prop} {b:St} :∀ {n:Nat},B5z b q a x k n->0<=x->x<(n:Int)->k (b.setS q (one1 (.val (.int a) x)))
 |0,_,a,b=>ω
 |n+1,h,a,b=>by
  by_cases e:x=(n:Int)
  . rw[e];exact h.2 e
  exact A0m h.1 a ω
def C0e {id:Nat} {k:St->Prop} {b:St} {E:G8} {w:World} {Z:Nat->Prop} {B:Nat->Value} (h:C3 za w0 b E w Z B) (a:A0n an id k b):∃d,C3 za w0 d E w Z B/\k d:=by
 cases c:V3 id an.spl with
 |none=>simp only[A0n,c]at a;exact⟨b,h,a⟩
 |some y=>
  obtain⟨q,n⟩:=y;simp only[A0n,c]at a;split at a
  . rename_i j x g;refine⟨_,?_,A0m a.2 a.1.1 a.1.2⟩;have:=h.slots q;rw[g]at this;refine h.setSame q this λi f=>?_
    cases qJ.1 f;trivial
  exact a.elim
def QU:∀ {c:Code} {k k':K} {b:St},Oe cx sp an c k b->(∀e a,C4 b a->k.at e a->k'.at e a)->Oe cx sp an c k' b:=by
 intro c
 induction c with
 |skip=>intro k k' b h d;exact d .normal b (C4.refl b) h
 |label l=>intro k k' b h d;exact d .normal b (C4.refl b) h
 |region id ops l=>
  intro k k' b h d;simp only[Oe]at h|-;refine B0a h λj f h=>?_
  replace f:=(C4.frz an id b).trans f;replace d:∀e a,C4 j a->k.at e a->k'.at e a:=λe a ev=>d e a (f.trans ev)
  clear f;revert j;intro b h d;cases l with
  |true=>
   simp only[qS]at h|-;split at h
   . obtain⟨n,h⟩:=C0 h;simp only[n,qS];refine Bj h λa e g=>?_
     cases i:V3 id an.mv with
     |none=>simp only[mvs,i]at g|-;exact d .normal a e g
     |some qs=>simp only[mvs,i]at g|-;exact d .normal _ (e.trans (C4.mvBs ..)) g
   exact h
  |false=>
   simp only[rI]at h|-;exact SK h λa e=>d .normal a e
 |seq v w j l=>
  intro k k' b h f;simp only[Oe]at h|-;split at h
  . rename_i A _;obtain⟨J,r,i⟩:=h;refine⟨J,j r λe a ev d=>?_,λp t s=>l (i p t s) λe a ev d=>?_⟩
    . cases e with
      |normal=>exact d
      |exit o=>exact f (.exit o) a ev d
      |ret=>exact f .ret a ev d
      | _=>exact d
    exact f e a ((C4.told A b p).trans ev) d
  refine j h λe n g d=>?_
  cases e with
  |normal=>exact l d λe u o i=>f e u (g.trans o) i
  |exit o=>exact f (.exit o) n g d
  |ret=>exact f .ret n g d
  | _=>exact d
 |cond c i j f g=>
  intro k k' b h d;simp only[Oe]at h|-;split at h
  . exact⟨λe=>f (h.1 e) d,λe=>g (h.2 e) d⟩
  exact h
 |block id c j=>
  intro k k' b h f;simp only[Oe]at h|-;refine j h λe a ev d=>?_
  cases e with
  |exit i=>
   simp only[K.at]at d|-;cases g:Nat.beq i id with
   |true=>simp only[g,qS]at d|-;exact f .normal a ev d
   |false=>simp only[g,rI]at d|-;exact f (.exit i) a ev d
  |normal=>exact f .normal a ev d
  |ret=>exact f .ret a ev d
  | _=>exact d
 |loop c t=>
  intro k k' b h g;simp only[Oe]at h|-;split at h
  . rename_i A _;unfold C1v at h|-;split at h
    . rename_i i v f;obtain⟨o,h⟩:=C0 h;simp only[o,qS];obtain⟨I,u,j,l⟩:=h;refine⟨I,u,j,λp r n=>t (l p r n) λe a ev d=>?_⟩;cases e with
      |normal=>exact d
      |exit s=>exact g (.exit s) a ((C4.gath f).trans ((C4.told A i p).trans ev)) d
      |ret=>exact g .ret a ((C4.gath f).trans ((C4.told A i p).trans ev)) d
      | _=>exact d
    exact h
  exact h
 |exit i=>intro k k' b h d;exact d (.exit i) b (C4.refl b) h
 |ret=>intro k k' b h d;exact d .ret b (C4.refl b) h
 | _=>intro k k' b h d;exact h
def eE {A:HO} (k:za.b0=0) {b c:St} {J:A.den->Prop} {E:G8} {w:World} {Z:Nat->Prop} {B:Nat->Value} (h:C3 za w0 c E w Z B) (a:OY A b J c) (v:B7b za.n b) (ev:C4 b c):∃p,A.wf p/\J p/\∃Z' B',C3 za w0 (reflect A b p) E w Z' B':=by
 unfold OY at a;split at a
 . rename_i b p d;obtain⟨b,a⟩:=C0 a;simp only[B3v,qC,tH]at b;obtain⟨⟨⟨i,j⟩,t⟩,u⟩:=b;have c:=ev.trans (C4.gath d);have b:∀ {n g:Nat},jN n g=true->g≠0/\g<=n:=λhh=>by
    simp only[jN,qC]at hh;have o:=qO hh.1;have o:=qO hh.2;omega
   obtain⟨r,Z',B',o⟩:=A5t k h d v (λs hs=>c.s s (b (i s hs)).1 (b (i s hs)).2) (λq hq=>c.l q (b (j q hq)).1 (b (j q hq)).2) (λy hy=>Zf (t y hy)) (c.f.old u);exact⟨p,r,a,Z',B',o⟩
 exact a.elim
variable (hty:G7 cx.P cx.tys=true) (hsp:Lw cx.P sp)
include hty in
theorem Ja {S:World->Prop} {o:Oper} {k:St->Prop} {I:St} {E:G8} {w:World} {Z:Nat->Prop} {B:Nat->Value} (j:∀w',S w'->(A3b o.op=true->R5 w w')) (h:C3 za w0 I E w Z B) (a:Lh cx all o k I):Qo cx.P S all o (Nx za w0 k) E w:=by
 obtain⟨a1,X,ty,G,A,a2⟩:=o;unfold Lh at a;simp only at a j;split at a
 . split at a
   . rename_i Y a6 y;split at a
     . rename_i d;replace a:=F1.1 a;obtain⟨u,c,f,r⟩:=EG (ty:=ty) h hty (F2 E) y a.1;exact .inl ⟨rfl,u,λw' g=>c w' (j w' g) _ _ _ _,_,_,_,h.setS d (f _) r,a.2⟩
     exact a.elim
   split at a
   . rename_i T x _;split at a
     . rename_i d;split at a
       . rename_i a4 s;obtain⟨u,B',c,f⟩:=pD (ty:=ty) h hty s;exact .inl ⟨rfl,u,λw' g=>c w' (j w' g rfl) _ _ _ _,_,_,_,f,a⟩
       exact a.elim
     exact a.elim
   exact a.elim
 rename_i F i;split at a
 . rename_i t l;have a3:=(C0 a).1;replace a:=(C0 a).2;split at a
   . rename_i d;have U:=(C0 a).1;replace a:=(C0 a).2;have z:t≠d:=uK (by simpa using U);split at a
     . rename_i Y H y;obtain⟨R,a⟩:=C0 a;replace a:=F1.1 a;rw[oN]at a;by_cases b:E t= .bool i
       . have D:=h.gctx (n:=20) b;obtain⟨u,c,f,r⟩:=EG (ty:=ty) h hty D y (a.1 (h.ctxP D));refine .inl ⟨MH l b,u,λw' g=>c w' (j w' g) _ _ _ _,_,_,_,h.setS d (x:= .cnd t i H) (.inl ⟨?_,f E⟩) r,a.2⟩;rw[C5 _ _ _ _ z];exact b
       have v:E1 all ⟨some d,X,ty,G,A,some (F,i)⟩ E=false:=by
        unfold E1 Bc;simp only[l];cases N:E t with
        |bool a0=>simp only[vC,g4q,rF];intro Q;exact b (by rw[N,Q])
        | _=>rfl
       refine .inr ⟨v,_,_,_,h.setS d (x:= .cnd t i H) (.inr ⟨?_,rfl⟩) (λJ O=>kY (tH.1 R J O)),a.2⟩;rw[C5 _ _ _ _ z];exact b
     . exact a.elim
     split at a
     . rename_i T x _;split at a
       . rename_i a5 s;obtain⟨V,W⟩:=pC (ty:=ty) h hty z s;by_cases b:E t= .bool i
         . obtain⟨u,B',c,f⟩:=V b (h.gctx (n:=20) b);exact .inl ⟨MH l b,u,λw' g=>c w' (j w' g rfl) _ _ _ _,_,_,_,f,a⟩
         have v:E1 all ⟨some d, .load T x,ty,G,A,some (F,i)⟩ E=false:=by
          unfold E1 Bc;simp only[l];cases N:E t with
          |bool a0=>simp only[vC,g4q,rF];intro Q;exact b (by rw[N,Q])
          | _=>rfl
         obtain⟨B',M⟩:=W b;exact .inr ⟨v,_,_,_,M,a⟩
       exact a.elim
     exact a.elim
   exact a.elim
 exact a.elim
theorem ZS {P:Program} {S:World->Prop} {o:Oper} {n a:G8->World->Prop} {E:G8} {w:World} (h:Qo P S all o n E w) (c:∀E',n E' w->a E' w):Qo P S all o a E w:=by
 rcases h with⟨a,v,b,d⟩ | ⟨a,b⟩
 . exact .inl ⟨a,v,b,c _ d⟩
 exact .inr ⟨a,c _ b⟩
def RW (nw:Bool) (b0:Nat) (m:Nat->Prop) (w w':World):Prop:=bif nw then(Below b0 w w'/\True)else Y6 m w w'
variable {m:Nat->Prop}
theorem RW.of {nw:Bool} {b0:Nat} {w w':World} (a:b0<=w.heap.size) (h:R5 w w'):RW nw b0 m w w':=by
 cases nw with
 |true=>exact⟨⟨h.os,h.tape,h.output,h.size,λk b=>h.block k (rJ b a)⟩,h.drw⟩
 |false=>exact Y6.of h
theorem RW.refl (nw:Bool) (b0:Nat) (w:World):RW nw b0 m w w:=by
 cases nw with
 |true=>exact⟨Below.refl _ _,trivial⟩
 |false=>exact Y6.of (R5.refl _)
theorem RW.trans {nw:Bool} {b0:Nat} {a b c:World} (h:RW nw b0 m a b) (d:RW nw b0 m b c):RW nw b0 m a c:=by
 cases nw with
 |true=>exact⟨Below.trans h.1 d.1,trivial⟩
 |false=>exact Y6.transM h d λ_=> .inr
include hty hsp in
theorem A7i {nw tl:Bool} {n0:Nat} {ts:List Nat} {E0:G8} {k:St->Prop} {o:Oper} {d:St} {E:G8} {w:World} {Z:Nat->Prop} {B:Nat->Value} (r:nw=true->za.k0=n0) (y:nw=false->za.b0=0) (h:C3 za w0 d E w Z B) (x:∀s∈ts,E s=E0 s)
 (b:((tl|| !(cA sp d o) || (nw&&frO n0 d o.op) || (!nw&&oU cx sp d ts o))&&(!nw||kM sp n0 d o.op))=true) (a:Wv cx sp all o k d):K4 cx.P all o (λE' w'=>(tl=true\/RW nw za.b0 (Ux E0 ts) w w')/\Nx za w0 k E' w') E w:=by
 simp only[qC,tX,rN]at b;obtain⟨b,c⟩:=b;have t:za.b0=0\/kM sp za.k0 d o.op=true:=by
  cases i:nw with
  |false=>exact .inl (y i)
  |true=>rw[i]at c;exact .inr (by rw[r i];simpa using c)
 rcases b with((b|b) |b) |b
 . refine J3 ?_ (aA h t hty hsp a);rintro E' w' ⟨_,n⟩;exact⟨.inl b,n⟩
 . refine J3 ?_ (aA h t hty hsp a);rintro E' w' ⟨f,n⟩;exact⟨.inr (RW.of h.mrk.1 (f b)),n⟩
 . obtain⟨F,b⟩:=b;subst F;obtain⟨u,J,O,M,I,v⟩:=o;have z:=b;unfold frO at b;split at b
   . rename_i T p H l;simp only at l;subst l;unfold Wv at a;simp only at a;cases v with
     |none=>
      simp only[Vn]at a;cases u with
      |none=>
       simp only at a;have i:II d (.store T p H)=false:=by
        rcases c with c|c
        . cases c
        simp only[kM,qC,rN]at c;exact c.2
       rw[pJ i]at a;simp only at a;split at a
       . rename_i Q N G;refine J3 ?_ (gW h hty G (F1.1 a).1 (F1.1 a).2 rfl);rintro E' w' ⟨g,n⟩;exact⟨.inr (g (by rw[r rfl];exact z)),n⟩
       exact a.elim
      |some i=>exact a.elim
     |some i=>
      obtain⟨G,j⟩:=i;simp only[Vn]at a;split at a
      . obtain⟨_,a⟩:=C0 a;split at a
        . obtain⟨_,a⟩:=C0 a;exact a.elim
        exact a.elim
      exact a.elim
   cases b
 obtain⟨rfl,b⟩:=b;refine J3 ?_ (B1o h hsp b a);rintro E' w' ⟨f,n⟩;exact⟨.inr ⟨f.os,f.tape,f.output,f.size,λj g D=>f.block j g λA=>D (A2v x A),trivial⟩,n⟩
include hty in
theorem A0h {k:St->Prop} :∀ {d:List Nat},(∀j∈d,kS all j=true)->(Bm all d).Nodup->∀ {f:St} {E:G8} {w:World} {Z:Nat->Prop} {B:Nat->Value},C3 za w0 f E w Z B->SL cx all d k f->∃F,(∀x,x∉Bm all d->F x=E x)/\AlV cx.P all d F/\Nx za w0 k F w
 | [],_,_,f,E,w,Z,B,h,b=>⟨E,λ_ _=>rfl,λ_ a=>(by cases a),f,Z,B,h,b⟩
 |j::W,r,o,f,E,w,Z,B,A,b=>by
  simp only[SL]at b;simp only[Bm,rW]at o;obtain⟨T,U⟩:=sP.1 o;split at b
  . rename_i t i;obtain⟨g,b⟩:=C0 b;simp only[qC,rN]at g;obtain⟨G,H,I⟩:=AJ (r j rD) i;have N:=QY g.2;have J:=Ja (S:=λ_=>True) (all:=all) hty (λv _ hh=>by rw[hh]at g;cases g.1) A b;have R:E1 all t E=true:=by simp[E1,H]
    rcases J with⟨_,V,Q,X,Z1,B1,n,M⟩ | ⟨s,_⟩
    . rw[G]at n;obtain⟨F,h,y,z⟩:=A0h (λl c=>r l (qI _ c)) U n M;have D:F (Gk all j)=V:=by rw[h _ T];exact C2 _ _ _
      refine⟨F,λx a=>?_,λl c=>?_,z⟩
      . simp only[Bm,rW,qW,g4z]at a;rw[h x a.2];exact C5 _ _ _ _ a.1
      rcases qW.1 c with rfl|c
      . refine⟨t,i,λv=>?_⟩;rw[D,PM (E:=F) (E':=E) i I λu O=>?_]
        . exact Q v trivial
        have a:=N u O;simp only[Bm,rW,qW,g4z]at a;rw[h u a.2];exact C5 _ _ _ _ a.1
      exact y l c
    rw[R]at s;cases s
  exact b.elim
theorem RW.size {nw:Bool} {b0:Nat} {a b:World} (h:RW nw b0 m a b):a.heap.size<=b.heap.size:=by
 cases nw with
 |true=>exact h.1.size
 |false=>exact(show Y6 m a b from h).size
include hty in
theorem A9t {nw:Bool} {b s:List Nat} {k:St->Prop} {v:St} {E:G8} {w:World} {Z:Nat->Prop} {B:Nat->Value} (N:A7u all b s=true) (h:C3 za w0 v E w Z B) (M:HB cx all v b (SL cx all s k) v):∃f X,B0v cx.P (RW nw za.b0 m) all b s f X (Nx za w0 k) E w:=by
 simp only[A7u,qC,tH]at N;obtain⟨⟨⟨a6,u⟩,r⟩,ah⟩:=N;have u:=(sZ.1 (Me u)).1;have r:=Me r;have r:(Bm all b++Bm all s).Nodup:=by simpa[Bm]using r
 obtain⟨F,T,a9⟩:=sZ.1 r;have I:=gN M;have a1:∀i,∃x:Obj×(Nat->Value),i∈b->∀o n lc mk,all[i]? =some o->OK cx v (Gk all i) o.op=some (n,lc,mk)->(∀d,(execOp (ev E) o).run cx.P d= .ok (.value (x.2 d.heap.size)) (d.alloc x.1))/\B1c lc mk x.1 x.2:=λi=>by
  by_cases a:i∈b
  . obtain⟨o,n,lc,mk,l,j,Q⟩:=I i a;obtain⟨X,f,U,V⟩:=A7v h hty j Q;refine⟨(X,f),λ_ ae aj ac ad J z=>?_⟩;rw[l]at J;cases J;rw[j]at z;cases z;obtain⟨aa,af,a7,ag,a8,ab⟩:=o;exact⟨λd=>U a7 d _ _ _ _,V⟩
  exact⟨(.cells #[] 0 (0,0),λ_=>undef),λa2=>absurd a2 a⟩
 obtain⟨g,H⟩:=Classical.axiomOfChoice a1;refine⟨λi=>(g i).2,λi=>(g i).1,⟨λi a=>?_,λi a d a5=>RW.of (qX h.mrk.1 a5.size) (R5.alloc d _),λt c=>?_⟩⟩
 . obtain⟨o,n,lc,mk,l,j,Q⟩:=I i a;exact⟨o,l,(H i a o n lc mk l j).1⟩
 have a4:t.Nodup:=c.nodup_iff.2 u;have a3:(Bm all t).Nodup:=(c.map _).nodup_iff.2 F;obtain⟨O,bl,D,R⟩:=gM (f:=λi=>(g i).2) (X:=λi=>(g i).1) t E w a4 a3;have W:=h.more (Z':=Z) O (λ_=>id) (λ_=> .inl);obtain⟨ai,B1,G,Y⟩:=A0g (f:=λi=>(g i).2) (X:=λi=>(g i).1) (bl:=bl) W (λi a o n lc mk l j=>(H i a o n lc mk l j).2) (λi a=>by
  obtain⟨c1,z,a2⟩:=D i (c.symm.subset a);refine⟨z,qX h.ext.size c1,λV=>?_,qX h.mrk.1 c1,λq U=>?_⟩
  . have:=h.zlt _ V;omega
  have:=((h.locs q).root (h.ft O U)).2.1;omega) (λi a A y J=>R i (c.symm.subset a) A (c.symm.subset y) J) u M
 have a0:A4p all (λi=>(g i).2) bl b E=(Gl all (λi=>(g i).2) (λi=>(g i).1) t E w).1:=funext λx=>by
  by_cases z:x∈Bm all b
  . obtain⟨i,a,e⟩:=L6.1 z;subst e;rw[A0v F a,(D i (c.symm.subset a)).2.2]
  rw[JL z,Iv _ _ _ λJ=>z ((c.map _).subset J)]
 rw[a0]at G;exact A0h hty (λA y=>a6 A (sQ _ y)) T G Y
include hty in
theorem B9x {nw:Bool} {ts:List Nat} {E0:G8} {o:Oper} {k:St->Prop} {j:St} {E:G8} {w:World} {Z:Nat->Prop} {B:Nat->Value} (I:nw=true->za.b0=w.heap.size) (H:∀s∈ts,E s=E0 s) (d:(ts.isEmpty||oV cx j ts o)=true) (h:C3 za w0 j E w Z B) (a:Lh cx all o k j):Qo cx.P (RW nw za.b0 (Ux E0 ts) w) all o (Nx za w0 k) E w:=by
 cases nw with
 |true=>
  refine Ja hty (λc b _=>?_) h a;have b:Below za.b0 w c/\True:=b;rw[I rfl]at b;exact⟨b.1,b.2⟩
 |false=>
  have v:∀ {b:World},Y6 (Ux E0 ts) w b->Y6 (Ux E ts) w b:=λhx=>⟨hx.os,hx.tape,hx.output,hx.size,λn hb hnb=>hx.block n hb fun⟨s,a,c⟩=>hnb ⟨s,a,by rw[H s a];exact c⟩,trivial⟩
  cases y:ts.isEmpty with
  |true=>
   have:=g0i.1 y;subst this;exact Ja hty (λb f _=>Y6.ext (v f) λn ⟨s,a,_⟩=>by cases a) h a
  |false=>
   rw[y,wH]at d;obtain⟨r,A,M,D,l,u⟩:=o;cases x:A3b A with
   |false=>exact Ja hty (λ_ _ c=>by rw[x]at c;cases c) h a
   |true=>
    cases A<;>try (simp only[oV,x]at d;cases d)
    obtain⟨N,z⟩:=B3u h hty d;rcases Ja (S:=λb=>R5 w b) hty (λb i _=>i) h a with⟨f,J,g,G⟩ | ⟨f,g⟩
    . refine .inl ⟨f,J,λb i=>?_,G⟩;have t:=g w (R5.refl w);have F:=z w (Y6.of (R5.refl w)) r D l u;rw[F]at t;cases t;exact z b (v i) r D l u
    exact .inr ⟨f,g⟩
include hty hsp in
theorem Dw {za0:Zn} {tails:List Nat} {n0:Nat} {nw:Bool} {ts:List Nat} {E0:G8} (b:C3h all ts=true) {k:St->Prop} (f:nw=true->za.k0=n0) (d:nw=false->za.b0=0) (g:∀ {c:St} {E:G8} {w:World} {Z:Nat->Prop} {B:Nat->Value},C3 za w0 c E w Z B->C3 za0 w0 c E w Z B):∀ {p:Pl} {pre t:Bool} {c:St} {E:G8} {w:World} {Z:Nat->Prop} {B:Nat->Value},(nw=true->pre=true->za.b0=w.heap.size)->(∀s∈ts,E s=E0 s)->C3 za w0 c E w Z B->S9 cx sp all tails n0 nw ts p pre t k c->XF cx.P (RW nw za.b0 (Ux E0 ts)) all tails (Nx za0 w0 k) p t E w
 | .done,_,_,_,_,_,_,_,_,i,h,a=>⟨_,_,_,g h,a⟩
 | .q z p,pre,t,c,E,w,Z,B,n,i,o,a=>by
  simp only[S9]at a;split at a
  . rename_i y l;obtain⟨h,a⟩:=C0 a;simp only[qC]at h;obtain⟨h,v⟩:=h;refine⟨y,l,ZS (gG (B9x hty (λj=>n j (by rw[j]at h;simpa using h)) i v o a)) ?_⟩;rintro E' ⟨x,A,Z',B',r,u⟩;exact Dw b f d g n (λs a=>(x s (VI b l a)).trans (i s a)) r u
  exact a.elim
 | .p y p,pre,t,c,E,w,Z,B,u,n,j,a=>by
  simp only[S9]at a;split at a
  . rename_i x i;obtain⟨h,a⟩:=C0 a;refine⟨x,i,ZS (gG (Ja hty (λA _ o=>by rw[o]at h;cases h) j a)) ?_⟩;rintro E' ⟨v,z,Z',B',l,r⟩;exact Dw b f d g u (λs a=>(v s (VI b i a)).trans (n s a)) l r
  exact a.elim
 | .e x p,pre,t,c,E,w,Z,B,z,h,j,a=>by
  simp only[S9]at a;split at a
  . rename_i y i;obtain⟨r,a⟩:=C0 a;refine⟨y,i,J3 ?_ (gV (A7i hty hsp f d (tl:=t||tails.contains x) j h r a))⟩;rintro E' D ⟨v,u,A,Z',B',l,o⟩;exact⟨u,Dw b f d g (λ_ n=>by cases n) (λs a=>(v s (VI b i a)).trans (h s a)) l o⟩
  exact a.elim
 | .or y p q,pre,t,c,E,w,Z,B,u,h,i,a=>by
  simp only[S9]at a;refine⟨?_,Dw b f d g u h i a.2⟩;have a:=a.1;split at a
  . rename_i z j;obtain⟨r,a⟩:=C0 a;refine⟨z,j,J3 ?_ (gV (A7i hty hsp f d (tl:=t||tails.contains y) i h r a))⟩;rintro E' D ⟨x,v,A,Z',B',l,o⟩;exact⟨v,Dw b f d g (λ_ n=>by cases n) (λs a=>(x s (VI b j a)).trans (h s a)) l o⟩
  exact a.elim
 | .al D G p,pre,t,c,E,w,Z,B,A,z,r,a=>by
  simp only[S9]at a;obtain⟨h,a⟩:=C0 a;simp only[qC,g0i]at h;obtain⟨h,rfl⟩:=h;obtain⟨l,X,j⟩:=A9t (nw:=nw) hty h r a;refine⟨l,X,j.one,j.rel,λy x=>?_⟩;obtain⟨F,n,o,H,Z',B',u,v⟩:=j.fin y x;exact⟨F,n,o,Dw b f d g (λ_ i=>by cases i) (λ_ i=>(by cases i)) u v⟩
theorem C3.marked {a:St} {E:G8} {w:World} {Z:Nat->Prop} {B:Nat->Value} (h:C3 za w0 a E w Z B):C3 {za with k0:=a.nx,b0:=w.heap.size} w0 a E w Z B:=
 ⟨h.ext,h.zlt,h.slots,h.locs,h.disj,h.refs,h.refl,h.fresh,h.bone,h.zin,h.nms,h.bfix,⟨qV _,λk d c b=>by
  have:a.L k= .none:=h.fresh k c;rw[this]at b;exact b.elim⟩,h.frs,h.frf⟩
theorem C3.unmark {k0 b0:Nat} (a:za.b0=0) {b:St} {E:G8} {w:World} {Z:Nat->Prop} {B:Nat->Value} (h:C3 {za with k0:=k0,b0:=b0} w0 b E w Z B):C3 za w0 b E w Z B:=
 ⟨h.ext,h.zlt,h.slots,h.locs,h.disj,h.refs,h.refl,h.fresh,h.bone,h.zin,h.nms,h.bfix,⟨by rw[a];exact rS _,λk b _ _=>by rw[a];exact rS _⟩,h.frs,h.frf⟩
end
section
variable {za:Zn} {w0:World} {cx:Cx} {sp:G1} {an:An}
def B3a {A:HO} {b c:St} {p:A.den} {E:G8} {w:World} {Z:Nat->Prop} {B:Nat->Value} (f:za.b0=0) (h:C3 za w0 b E w Z B) (a:gath A b=some (c,p)):∃Z',C3 za w0 c E w Z' B:=by
 simp only[Vc.gath,qH,bind_some]at a;obtain⟨i,_,g,_,tl,_,j,_,a⟩:=a;obtain⟨_,a⟩:=E6 a;cases a;obtain⟨Z0,d⟩:=h.plugL f (l:=A.rowL);exact C3.settleSh d
def C3.mvB (G:za.b0=0) {a:St} {E:G8} {w:World} {Z:Nat->Prop} {B:Nat->Value} (h:C3 za w0 a E w Z B) (q:Nat):∃B',C3 za w0 (Vc.mvB a q) E w Z B':=by
 unfold Vc.mvB;split
 . rename_i k g;split
   . rename_i T j d;cases o:Nat.ble a.nm k with
     |false=>exact⟨B,h⟩
     |true=>
      have o:=qO o;have R:k<a.nx:=by
       by_cases c:k<a.nx
       . exact c
       rw[h.fresh k ω]at d;cases d
      have l:=h.locs k;have i:=h.refl k;have N:up za w0 k=up za w0 a.nx:=by
       funext b;have:=h.nms;refine propext ⟨λhh=>?_,λhh=>?_⟩<;>(rcases hh with hh|hh<;>first|exact .inl ⟨ω,hh.2⟩ | (exfalso;omega))
      have J:∀b,B4 w (B k) (.box T j) b->B4 w (B k) (a.L k) b:=λb f=>by rw[d];exact f
      rw[d]at l i;have I:=h.drop k;have r:(a.setL k .none).nx=a.nx:=rfl;have A:=I.new (v:=B k) (lc:= .box T j) (by
       rw[r, <-N];obtain⟨b,P,t,u,x,y,z⟩:=l;exact⟨b,P,by rw[C2];exact t,u,x,y,z.mono (n:=a.nx) (λ_=>id) (λ_ _=>rfl) (λq g=>C5 _ _ _ _ (tY g)) i⟩) (λO b f c=>by
       rw[St.L_setL]at c;split at c
       . exact c.elim
       rename_i M;exact h.disj k O b (Ne.symm M) (J b f) c) (AQ.le (uI _) i) (h.bone k) (λb _ _=>by rw[G];exact rS _)
      refine⟨_,A.setSame q ?_ ?_⟩
      . have s:=h.slots q;rw[g]at s;obtain⟨v,U,e,D,F⟩:=(show Db w Z B [.box k 0] [E q]from s);cases e;exact⟨_,_,rfl,(by
         obtain⟨b,c,t⟩:=D;exact⟨b,by rw[r,C2];exact c,t⟩),F⟩
      intro Q H;cases qJ.1 H;exact rR _
   exact⟨B,h⟩
 exact⟨B,h⟩
def C3.mvBs (a:za.b0=0):∀(qs:List Nat) {b:St} {E:G8} {w:World} {Z:Nat->Prop} {B:Nat->Value},C3 za w0 b E w Z B->∃B',C3 za w0 (qs.foldl Vc.mvB b) E w Z B'
 | [],_,_,_,_,B,h=>⟨B,h⟩
 |q::qs,_,_,_,_,_,h=>by
  obtain⟨B',b⟩:=C3.mvB a h q;exact C3.mvBs a qs b
def post (za:Zn) (w0:World) (k:K):Exit->G8->World->Prop:=λe E w=>Nx za w0 (k.at e) E w
variable (hty:G7 cx.P cx.tys=true) (hsp:Lw cx.P sp)
include hty hsp in
theorem A7h (f:za.b0=0) {n:Nat} :∀ {c:Code} {k:K} {a:St} {E:G8} {w:World} {Z:Nat->Prop} {B:Nat->Value},C3 za w0 a E w Z B->Oe cx sp an c k a->Gw.Wp cx.P n c (post za w0 k) E w:=by
 intro c
 induction c with
 |skip=>intro k a E w Z B h d _ g b;exact wp_skip ⟨E,b,a,Z,B,h,d⟩
 |label l=>intro k a E w Z B h d _ g b;exact wp_label ⟨E,b,a,Z,B,h,d⟩
 |exit i=>intro k a E w Z B h d _ g b;exact wp_exit ⟨E,b,a,Z,B,h,d⟩
 |ret=>intro k a E w Z B h d _ g b;exact wp_ret ⟨E,b,a,Z,B,h,d⟩
 |region id ops M=>
  intro k a E w Z B h b u i F;simp only[Co]at u;simp only[Oe]at b;have D:ops=ops.toList.toArray:=by simp
  obtain⟨Z,h⟩:=C3.frz (an:=an) (id:=id) h;obtain⟨a,h,b⟩:=C0e h b;cases M with
  |false=>
   simp only[rI]at b;rw[D];refine wp_region ?_;have:=ZK (P:=cx.P) (Q:=post za w0 k) u ops.toList 0 (by simp) i E w F (gO f hty hsp h b);simpa[g3g]using this
  |true=>
   simp only[qS]at b;split at b
   . rename_i N tails nw T _;generalize C1q ops.toList N tails nw T=p at b;obtain⟨g,b⟩:=C0 b;simp only[qC]at g;obtain⟨⟨g,O⟩,y⟩:=g;simp only[C1i,qC]at g;refine wp_mono (Q:=FJ n (post za w0 {k with n:=mvs an id k.n})) ?_ (λe U w' d=>?_)
     rotate_left
     . obtain⟨E',o,s,Z',B',l,d⟩:=d;cases e with
       |normal=>
        change mvs an id k.n s at d;cases j:V3 id an.mv with
        |none=>simp only[mvs,j]at d;exact⟨E',o,s,Z',B',l,d⟩
        |some qs=>
         simp only[mvs,j]at d;obtain⟨B2,G⟩:=C3.mvBs f qs l;exact⟨E',o,_,Z',B2,G,d⟩
       |exit j=>exact⟨E',o,s,Z',B',l,d⟩
       |ret=>exact⟨E',o,s,Z',B',l,d⟩
       | _=>exact d.elim
     rw[D];refine wp_region_any O (bY (S:=λ_=>True) (tails:=tails) _ _ _ _ ?_);have z:H0 tails (Array.replicate ops.toList.length false)=false:=by
      unfold H0;rw[zZ];intro x _;simp only[yL,zG];split<;>simp
     have v:=h.more (Z':=Z) (w':=w.drew) (R5.refl w).drew (λ_ h=>h) (λ_=> .inl);have fin:∀b0,XF cx.P (RW nw b0 (Ux E (kpO an id))) ops.toList tails (Nx za w0 (mvs an id k.n)) p false E w.drew->Y9 cx.P ops.toList.toArray (FJ n (post za w0 {k with n:=mvs an id k.n})) (RW nw b0 (Ux E (kpO an id)) w.drew) tails ops.toList.length (Array.replicate ops.toList.length false) i w.drew:=λb0 hd=>
      B2i (P:=cx.P) (R:=RW nw b0 (Ux E (kpO an id))) (RW.refl nw _) (λi H=>i.trans H) (Q:=post za w0 {k with n:=mvs an id k.n}) u g.1.1 g.1.2 (λc E w j=>by obtain⟨_,_,_,_,j⟩:=j;exact j) p ops.toList.length _ none g.2 ⟨nC _ _,λG=>by rw[z]at G;cases G⟩ false z.symm i E w.drew F (λ_ j=>by cases j) hd
     cases nw with
     |true=>
      have:=fin _ (Dw (za0:=za) (nw:=true) hty hsp (n0:=a.nx) y (λ_=>rfl) (λj=>by cases j) (λh=>h.unmark f) (λ_ _=>rfl) (λ_ _=>rfl) v.marked b);simpa using Ke (S':=λ_=>True) (λ_ _=>trivial) _ _ _ _ this
     |false=>
      have:=fin _ (Dw (za0:=za) (nw:=false) hty hsp (n0:=a.nx) y (λj=>by cases j) (λ_=>f) (λh=>h) (λj=>by cases j) (λ_ _=>rfl) v b);simpa using Ke (S':=λ_=>True) (λ_ _=>trivial) _ _ _ _ this
   exact b.elim
 |seq O T y z=>
  intro k a E w Z B s l i u v;simp only[Co,qC]at i;simp only[Oe]at l;split at l
  . rename_i A _;obtain⟨J,D,G⟩:=l;have F:=QU (k':= {n:=λd=>C4 a d/\OY A a J d,x:=k.x,r:=k.r}) D (λe d ev j=>by
     cases e with
     |normal=>exact⟨ev,j⟩
     |exit H=>exact j
     |ret=>exact j
     | _=>exact j)
    refine wp_seq (wp_mono (y s F i.1 u v) ?_);rintro e o w' ⟨E',h,d,Z',B',g,b⟩;cases e with
    |normal=>
     obtain⟨p,N,M,Z2,B2,H⟩:=eE f g b.2 s.pure b.1;exact z H (G p N M) i.2 o h
    |exit H=>exact⟨E',h,d,Z',B',g,b⟩
    |ret=>exact⟨E',h,d,Z',B',g,b⟩
    | _=>exact b.elim
  refine wp_seq (wp_mono (y s l i.1 u v) ?_);rintro e o w' ⟨E',h,d,Z',B',g,b⟩;cases e with
  |normal=>exact z g b i.2 o h
  |exit H=>exact⟨E',h,d,Z',B',g,b⟩
  |ret=>exact⟨E',h,d,Z',B',g,b⟩
  | _=>exact b.elim
 |cond c x z u v=>
  intro k a E w Z B h b d i g;simp only[Co,qC]at d;simp only[Oe]at b;split at b
  . rename_i e j;obtain⟨y,l,o⟩:=bind_some.1 j;have s:=Rl (h.ev (F2 E) l).1 o;refine wp_cond (t:=e) (by rw[g.ev];exact s) ?_;cases e with
    |true=>exact u h (b.1 rfl) d.1 i g
    |false=>exact v h (b.2 rfl) d.2 i g
  exact b.elim
 |block id c v=>
  intro k a E w Z B l u o j s;refine wp_block (wp_mono (v l u o j s) ?_);rintro e z w' ⟨E',g,h,Z',B',d,b⟩;cases e with
  |normal=>exact⟨E',g,h,Z',B',d,b⟩
  |ret=>exact⟨E',g,h,Z',B',d,b⟩
  |exit y=>
   simp only[Exit.inBlock];simp only[K.at]at b;by_cases i:y=id
   . subst i;simp only[wG];simp at b;exact⟨E',g,h,Z',B',d,b⟩
   simp only[i,xM];rw[E9 i]at b;exact⟨E',g,h,Z',B',d,b⟩
  | _=>exact b.elim
 |loop c a3=>
  intro k a E w Z B v b F a6 X;simp only[Co]at F;simp only[Oe]at b;split at b
  . rename_i A _;unfold C1v at b;split at b
    . rename_i l H D;obtain⟨z,b⟩:=C0 b;simp only[qC,tH]at z;obtain⟨I,i,M,N⟩:=b;obtain⟨Z1,G⟩:=B3a f v D;obtain⟨a2,Z2,B2,O⟩:=A5t f v D G.pure (λ_ _=>rfl) (λ_ _=>rfl) (λa4 hy=>Zf (z.1 a4 hy)) rfl;refine wp_loop_ghost (λm o w=>∃p E',i p=m/\Gw.C9 n o E'/\A.wf p/\I p/\∃Z B,C3 za w0 (reflect A l p) E' w Z B) (i H) ⟨H,E,rfl,X,a2,M,Z2,B2,O⟩ ?_;rintro m o w ⟨p,E',a7,Y,a0,W,Z3,B3,T⟩;have U:=QU (k':= {n:=λd=>C4 (reflect A l p) d/\OY A l (λh=>I h/\i h<i p) d,x:=k.x,r:=k.r}) (N p a0 W) (λe d ev j=>by
       cases e with
       |normal=>exact⟨ev,j⟩
       |exit y=>exact j
       |ret=>exact j
       | _=>exact j)
      refine wp_mono (a3 T U F o Y) ?_;rintro e a5 w' ⟨E'',u,d,Z',B',s,g⟩;cases e with
      |normal=>
       obtain⟨h,a1,y,Z5,B5,V⟩:=eE f s g.2 G.pure ((C4.told A l p).trans g.1);exact⟨i h,by have:=y.2;omega,h,E'',rfl,u,a1,y.1,Z5,B5,V⟩
      |exit y=>exact⟨E'',u,d,Z',B',s,g⟩
      |ret=>exact⟨E'',u,d,Z',B',s,g⟩
      | _=>exact g.elim
    exact b.elim
  exact b.elim
 | _=>intro k a E w Z B h b;exact b.elim
end
abbrev Er (α:Type):List α:= []
def AR (cx:Cx) (a:St):List ResultVar->Option (List SV)
 | []=>some []
 | .tmp t::r=>match a.S t with
  | .one s=>(AR cx a r).map (s:: ·)
  | _=>none
 | .cell b T::r=>do
  let ti<-cx.ti T
  match a.S b with
  | .one ⟨false,[.box k 0]⟩=>match a.L k with
   | .box _ b=>bif Nat.beq b.length ti.ty.size then(AR cx a r).map (⟨ti.agg,b⟩:: ·)else none
   | _=>none
  | _=>none
def settleR:St->List RT->List SV->St
 |c, .val _ _::a,s::b=>settleR (settle c s.cs) a b
 |c, .own _ _::a,_::b=>settleR c a b
 |a, .obox _ _::c,s::d=>settleR (match c1 s with
  |some (.box k 0)=>(match a.L k with
   | .box _ b=>settle a b
   | _=>a)
  | _=>a) c d
 |c, .rows _ _ _::a,_::b=>settleR c a b
 |a,_,_=>a
def GY (a:St):(rs:List RT)->List SV->Option (Br rs)
 | [],[]=>some ()
 | .val b t::rs,s::c=>(Sj b t s).bind λx=>(GY a rs c).map λy=>(x,y)
 | .own t e::rs,s::b=>((c1 s).bind (QP a t e)).bind λx=>(GY a rs b).map λy=>(x,y)
 | .obox T t::rs,s::b=>((eH s).bind λk=>bif Nat.ble a.nm k then mY a T t k else none).bind λx=>(GY a rs b).map λy=>(x,y)
 | .rows t e b::rs,s::c=>((Sm s).bind λk=>bif Nat.ble a.nm k then rowsAt a t e b k else none).bind λx=>(GY a rs c).map λy=>(x,y)
 | _,_=>none
def Cp:List RT->List SV->List Nat
 | .own _ _::a,⟨false,[.row k]⟩::b=>k::Cp a b
 | .obox _ _::a,⟨false,[.box k 0]⟩::b=>k::Cp a b
 | .rows _ _ _::a,⟨false,[.row k]⟩::b=>k::Cp a b
 | _::a,_::b=>Cp a b
 | _,_=> []
def settleM:St->List AM->Nat->St
 |a, .box _ _::r,j=>settleM (match a.L j with| .box _ cs=>settle a cs| _=>a) r (j+1)
 |a, .row _ _::r,j=>settleM a r (j+1)
 |a, .val _ _::r,j=>settleM a r j
 |a, .fn _ _ _::r,j=>settleM a r j
 |a, .rows _ _ _::r,j=>settleM a r (j+1)
 |a,[],_=>a
def cQ (a:St):(as:List AM)->Nat->Option (Od as)
 | [],_=>some ()
 | .row t e::r,j=>(Wu a t e j).bind λx=>(cQ a r (j+1)).map λy=>(x,y)
 | .box T t::r,j=>(mY a T t j).bind λx=>(cQ a r (j+1)).map λy=>(x,y)
 | .val _ _::r,j=>cQ a r j
 | .fn _ _ _::r,j=>cQ a r j
 | .rows t e b::r,j=>(rowsAt a t e b j).bind λx=>(cQ a r (j+1)).map λy=>(x,y)
def C1f:AM->Bool
 | .row t _=>Mb t
 | .rows t _ _=>Mb t
 | .box _ t=>Mb t
 | _=>true
def C5s (s:A8) (x:A3 s.args) (r:Br s.res) (o:Od s.args):Prop:=bif Q7 s.args then s.post x r/\s.mpost x r o else s.post x r
def fin (cx:Cx) (s:A8) (c:List ResultVar) (x:A3 s.args) (a:St):Prop:=
 match AR cx a c with
 |some b=>match AR cx (settleM (settleR a s.res b) s.args 0) c with
  |some c=>match GY (settleM (settleR a s.res b) s.args 0) s.res c,cQ (settleM (settleR a s.res b) s.args 0) s.args 0 with
   |some r,some o=>bif(IJ (Cp s.res c)&&Mr s.res)&&(s.shared|| (s.res.all A5p&&s.args.all C1f))then C5s s x r o else False
   | _,_=>False
  |none=>False
 |none=>False
def Ib (P:Program):(as:List AM)->A3 as->Nat->Nat->List (Nat×Nat×DV)
 | [],_,_,_=> []
 | .val a t::r,x,i,j=>(i,1, .one ⟨a,explode t x.1⟩)::Ib P r x.2 (i+1) j
 | .row _ _::r,x,i,j=>(i,1, .one ⟨false,[.row j]⟩)::Ib P r x.2 (i+1) (j+1)
 | .box _ _::r,x,i,j=>(i,1, .one ⟨false,[.box j 0]⟩)::Ib P r x.2 (i+1) (j+1)
 | .rows _ _ _::r,x,i,j=>(i,1, .one ⟨false,[.row j]⟩)::Ib P r x.2 (i+1) (j+1)
 | .fn a c b::r,x,i,j=>(i,1, .one ⟨false,[.fv P a c b x.1.1 x.1.2]⟩)::Ib P r x.2 (i+1) j
def Ej:(as:List AM)->A3 as->Nat->List (Nat×Nat×LC)
 | [],_,_=> []
 | .val _ _::r,x,j=>Ej r x.2 j
 | .fn _ _ _::r,x,j=>Ej r x.2 j
 | .row t e::r,x,j=>(j,1, .row t e x.1)::Ej r x.2 (j+1)
 | .box T t::r,x,j=>(j,1, .box T (explode t x.1))::Ej r x.2 (j+1)
 | .rows t e a::r,x,j=>(j,1, .rows t e a x.1 [] none)::Ej r x.2 (j+1)
def Lf:List AM->Nat
 | []=>0
 | .row _ _::r=>Lf r+1
 | .box _ _::r=>Lf r+1
 | .rows _ _ _::r=>Lf r+1
 | .val _ _::r=>Lf r
 | .fn _ _ _::r=>Lf r
def A2r (P:Program) (as:List AM) (x:A3 as):St:=⟨Ib P as x 0 0,Ej as x 0,Lf as,1,Lf as,[]⟩
def C4g (cx:Cx) (sp:G1) (an:An) (s:A8) (a:List ResultVar) (c:Code) (x:A3 s.args):Prop:=
 Oe cx sp an c ⟨fin cx s a x,λ_ _=>False,fin cx s a x⟩ (A2r cx.P s.args x)
section
variable {za:Zn} {w0 w:World} {Z:Nat->Prop} {B:Nat->Value} {st:St} {E:G8} {cx:Cx} {sp:G1} {an:An}
def oI (tmps:Array Value):ResultVar->Sem Value
 | .tmp t=>pure (tmps.getD t undef)
 | .cell a t=>do loadVar t (<-asAddr (tmps.getD a undef))
def MQ (j:G7 cx.P cx.tys=true) (h:C3 za w0 st E w Z B) {tmps:Array Value} (b:∀t,tmps.getD t undef=E t):∀ {A:List ResultVar} {ss:List SV},AR cx st A=some ss->∃vs,(A.mapM (oI tmps)).run cx.P w= .ok vs w/\Nz w Z B ss vs
 | [],ss,a=>by cases a;exact⟨[],rfl,rfl⟩
 | .tmp t::r,ss,a=>by
  simp only[AR]at a;split at a
  . rename_i s g;simp only[qK]at a;obtain⟨k,i,rfl⟩:=a;obtain⟨vs,d,f⟩:=MQ j h b i;have c:=h.slots t;rw[g]at c;refine⟨E t::vs,?_,E t,vs,rfl,c,f⟩;rw[wS];simp only[oI,b,Sem.run_bind,Sem.run_pure,Result.andThen_ok,d]
  cases a
 | .cell D T::a1,ss,a=>by
  simp only[AR,qH,bind_some]at a;obtain⟨ti,W,a⟩:=a;split at a
  . rename_i X N;split at a
    . rename_i T' a0 O;obtain⟨J,a⟩:=E6 a;simp only[qK]at a;obtain⟨a2,R,rfl⟩:=a;obtain⟨vs,r,s⟩:=MQ j h b R;have Q:=qD J;have y:=h.slots D;rw[N]at y;obtain⟨_,_,F,⟨l,G,n⟩,_⟩:=y;cases F;have v:=h.locs X;rw[O]at v;obtain⟨Y,c,o,_,_,x,d⟩:=v;rw[G]at o;cases o;have k:c.toList.length=ti.ty.size:=by rw[<-Q,d.len]
      rcases(J4 (B9 j W)).2.1 with⟨i,I⟩ | ⟨i,V,U⟩
      . refine⟨.agg c.toList.toArray::vs,?_,_,vs,rfl,by rw[i];exact⟨c.toList,rfl,d⟩,s⟩;obtain⟨f,H⟩:=Je (P:=cx.P) (w:=w) I;have g:=run_loadCells_list (P:=cx.P) (w:=w) ⟨l,0,none⟩ c.toList x.cellsAt;rw[k]at g;unfold loadCells at g;rw[wS];simp[oI,b,n,asAddr,loadVar,f,H,g,r,go_sem]
      rw[U]at k
      match z:c.toList,k with
      | [u],_=>
       rw[z]at d;have M:w.cell? ⟨l,0,none⟩=some u:=by
        have:=x.cellsAt 0 u (by rw[z];rfl);rwa[K5]at this
       refine⟨u::vs,?_,u,vs,rfl,by rw[i];exact d,s⟩;have f:=Iw (P:=cx.P) (w:=w) V;rw[wS];simp[oI,b,n,asAddr,loadVar,f,M,r,go_sem]
    cases a
  cases a
def C3.settleR:∀ {rs:List RT} {ss:List SV} {st:St} {Z:Nat->Prop},C3 za w0 st E w Z B->∃Z',C3 za w0 (settleR st rs ss) E w Z' B
 | .val _ _::rs,s::ss,st,Z,h=>by
  obtain⟨Z1,a⟩:=h.settle s.cs;exact C3.settleR (rs:=rs) (ss:=ss) a
 | .own _ _::rs,_::ss,st,Z,h=>C3.settleR (rs:=rs) (ss:=ss) h
 | .obox _ _::rs,s::ss,st,Z,h=>by
  simp only[Vc.settleR];split
  . split
    . obtain⟨Z1,a⟩:=h.settle _;exact C3.settleR (rs:=rs) (ss:=ss) a
    exact C3.settleR (rs:=rs) (ss:=ss) h
  exact C3.settleR (rs:=rs) (ss:=ss) h
 | [],_,st,Z,h=>⟨Z,h⟩
 | .val _ _:: _,[],st,Z,h=>⟨Z,h⟩
 | .own _ _:: _,[],st,Z,h=>⟨Z,h⟩
 | .obox _ _:: _,[],st,Z,h=>⟨Z,h⟩
 | .rows _ _ _::rs,_::ss,st,Z,h=>C3.settleR (rs:=rs) (ss:=ss) h
 | .rows _ _ _:: _,[],st,Z,h=>⟨Z,h⟩
def Si (h:C3 za w0 st E w Z B) {Zn:Nat->Prop} (f:∀b,Zn b->Z b):∀ {rs:List RT} {ss:List SV} {vs:List Value} {r:Br rs},((∀b,Z b->Zn b)\/rs.all A5p=true)->Nz w Z B ss vs->GY st rs ss=some r->(Cp rs ss).Nodup->Mr rs=true->
 Oj w0.heap.size w Zn rs vs r/\∀u∈X4 rs vs,∀b,root u=some b->∃k∈Cp rs ss,B4 w (B k) (st.L k) b
 | [],[],vs,_,_,a,_,_,_=>⟨a,λu c=>by simp[X4]at c⟩
 | [],_:: _,_,_,_,_,a,_,_=>by cases a
 | .val _ _:: _,[],_,_,_,_,a,_,_=>by cases a
 | .own _ _:: _,[],_,_,_,_,a,_,_=>by cases a
 | .obox _ _:: _,[],_,_,_,_,a,_,_=>by cases a
 | .rows _ _ _:: _,[],_,_,_,_,a,_,_=>by cases a
 | .rows v n o::rs,ac::ss,_,r,c,⟨ad,ae,e,Q,R⟩,A,z,F=>by
  simp only[GY,bind_some,qK]at A;obtain⟨G,⟨q,l,s⟩,ai,g,rfl⟩:=A;subst e;obtain⟨a2,s⟩:=E6 s;have ah:=qO a2;have X:ac=⟨false,[.row q]⟩:=by
   unfold Sm at l;split at l
   . cases l;rfl
   cases l
  subst X;obtain⟨_,_,N,t,_⟩:=Q;cases N;have t:ad=B q:=t;subst t;obtain⟨al,D⟩:=Ad s;have x:=h.locs q;rw[D]at x;have U:=x.rowsR;have y:∀b,B4 w (B q) (.rows v n o G [] none) b->B4 w (B q) (st.L q) b:=λb a=>by rw[D];exact(W5 λ_ _=>rfl).1 a
  simp only[Mr,Bn,Qg,qC,zI,wH,rN]at F;obtain⟨⟨aa,H⟩,ab⟩:=F;have Y:Cp (.rows v n o::rs) (⟨false,[.row q]⟩::ss)=q::Cp rs ss:=rfl;rw[Y]at z|-;have a1:=sP.1 z;obtain⟨O,P⟩:=Si h f (c.imp id λj=>by simp only[tN,qC]at j;exact j.2) R g a1.2 ab;have V:Ct w Zn v n o (B q) G:=by
   obtain⟨ag,a6,a7,a8,a9⟩:=U;refine⟨ag,a6,λa5 I af W a3=>(a7 a5 I af W a3).imp λaj g=>⟨g.1,?_⟩,a8,a9⟩;rcases c with c|c
   . exact g.2.mono λ_ _=>C9.mono c (λ_ _=>rfl)
   simp only[tN,qC]at c;exact g.2.mono λ_ _ j=>C9.flat c.1 j
  refine⟨⟨B q,ae,rfl,⟨V,λb a=>?_⟩,λ_=>⟨⟨aa,λ_=>H⟩,λb a u d=>by rw[Vk H]at d;cases d⟩,O⟩,λu d b a=>?_⟩
  . obtain⟨i,J,M⟩:=(h.locs q).root (y b a);refine⟨?_,λa4=>M (f b a4),J⟩;rcases i with i|i
    . exact i.2
    have:=h.nms.1;omega
  simp only[X4,qW]at d;rcases d with rfl|d
  . exact⟨q,by simp,y b (.inl a)⟩
  obtain⟨k,a0,r⟩:=P u d b a;exact⟨k,qI _ a0,r⟩
 | .val g F::rs,s::ss,_,r,a,⟨v,G,e,t,x⟩,j,i,l=>by
  simp only[Mr,qC]at l;obtain⟨H,z⟩:=l;simp only[GY,bind_some,qK]at j;obtain⟨M,A,N,D,rfl⟩:=j;have y:Cp (.val g F::rs) (s::ss)=Cp rs ss:=by
   obtain⟨I,J⟩:=s;simp only[Cp]
  rw[y]at i|-;obtain⟨n,o⟩:=Si h f (a.imp id λd=>by simp only[tN,qC]at d;exact d.2) x D i z;subst e;refine⟨⟨v,G,rfl,?_,λd=>(by cases d),n⟩,o⟩;have c:=Ex t A;rcases a with a|a
  . exact c.mono a (λ_ _=>rfl)
  simp only[tN,qC]at a;cases g with
  |true=>obtain⟨cs,e,c⟩:=c;exact⟨cs,e,C9.flat a.1 c⟩
  |false=>exact C9.flat (cs:= [v]) a.1 c
 | .own y D::rs,ab::ss,_,r,g,⟨z,V,e,X,F⟩,M,l,P=>by
  simp only[Mr,Bn,Qg,qC,zI,wH,g1c,g2d,Bool.and_true,rN]at P;obtain⟨N,O⟩:=P;simp only[GY,bind_some,qK]at M;obtain⟨a8,⟨n,j,a0⟩,ac,R,rfl⟩:=M;subst e;have Y:ab=⟨false,[n]⟩:=by
   unfold c1 at j;split at j
   . cases j;rfl
   cases j
  subst Y;obtain⟨_,_,W,a4,_⟩:=X;cases W;obtain⟨A,x,U,a9,aa⟩:=QR h a4 a0;have a6:=E7 x;have G:G5 (C9 y w Zn) A a8:=by
   rcases g with g|g
   . exact U.mono λ_ _=>C9.mono g (λ_ _=>rfl)
   simp only[tN,qC]at g;exact U.mono λ_ _ d=>C9.flat g.1 d
  have H:(∀b,Z b->Zn b)\/rs.all A5p=true:=g.imp id λd=>by simp only[tN,qC]at d;exact d.2
  rcases aa with⟨q,rfl,I,Q⟩ | ⟨a2,a1⟩
  . have s:Cp (.own y D::rs) (⟨false,[.row q]⟩::ss)=q::Cp rs ss:=rfl;rw[s]at l|-;have J:=sP.1 l;obtain⟨o,i⟩:=Si h f H F R J.2 O;refine⟨⟨z,V,rfl,⟨A,x,G,λb a a7=>a9 b a (f b a7)⟩,λ_=>⟨⟨N,λd=>(by cases d)⟩,λb a u c hub=>?_⟩,o⟩,λu c b a=>?_⟩
    . obtain⟨k,t,a5⟩:=i u c b hub;have a3:root (B q)=some b:=by rw[<-Q];exact a
      exact h.disj q k b (λd=>J.1 (d▸t)) (B4.of I a3) a5
    simp only[X4,qW]at c;rcases c with rfl|c
    . exact⟨q,by simp,B4.of I (by rw[<-Q];exact a)⟩
    obtain⟨k,t,r⟩:=i u c b a;exact⟨k,qI _ t,r⟩
  have s:Cp (.own y D::rs) (⟨false,[n]⟩::ss)=Cp rs ss:=by cases n<;>first|rfl|exact absurd rfl (a1 _)
  rw[s]at l|-;obtain⟨o,i⟩:=Si h f H F R l O;have v:∀b,root z≠some b:=λb a=>by rw[a2]at a;cases a
  refine⟨⟨z,V,rfl,⟨A,x,G,λb a=>absurd (a6.trans a) (v b)⟩,λ_=>⟨⟨N,λd=>(by cases d)⟩,λb a=>absurd a (v b)⟩,o⟩,λu c b a=>?_⟩;simp only[X4,qW]at c;rcases c with rfl|c
  . exact absurd a (v b)
  exact i u c b a
 | .obox T M::rs,ab::ss,_,r,a,⟨ac,ad,e,V,W⟩,G,D,J=>by
  simp only[Mr,Bn,Qg,qC,zI,wH,g1c,g2d,Bool.and_true,rN]at J;obtain⟨a5,a6⟩:=J;simp only[GY,bind_some,qK]at G;obtain⟨ae,⟨q,l,t⟩,ag,a9,rfl⟩:=G;subst e;obtain⟨a3,t⟩:=E6 t;have a0:ab=⟨false,[.box q 0]⟩:=by
   unfold eH at l;split at l
   . cases l;rfl
   cases l
  subst a0;obtain⟨_,_,R,⟨i,x,o⟩,_⟩:=V;cases R;obtain⟨cs,H,a4⟩:=Zg t;have z:=h.locs q;rw[H]at z;obtain⟨af,N,v,j,O,P,Q⟩:=z;rw[v]at x;cases x;have I:=Hd Q a4;have a7:C9 M w Zn N.toList ae:=by
   rcases a with a|a
   . exact C9.mono a (λ_ _=>rfl) I
   simp only[tN,qC]at a;exact C9.flat a.1 I
  have a1:(∀b,Z b->Zn b)\/rs.all A5p=true:=a.imp id λd=>by simp only[tN,qC]at d;exact d.2
  have a2:Cp (.obox T M::rs) (⟨false,[.box q 0]⟩::ss)=q::Cp rs ss:=rfl;rw[a2]at D|-;have F:=sP.1 D;obtain⟨U,y⟩:=Si h f a1 W a9 F.2 a6;have X:w0.heap.size<=i:=by
   rcases j with j|j
   . exact j.2
   have:=h.nms.1;have:=qO a3;omega
  have A:∀n,root (Value.pointer (some ⟨i,0,none⟩))=some n->B4 w (B q) (st.L q) n:=λn Y=>by rw[H,v];exact Y
  refine⟨⟨ac,ad,rfl,⟨i,N,o,X,λaa=>O (f i aa),P,a7⟩,λ_=>⟨⟨a5,λd=>(by cases d)⟩,λb c u g hub=>?_⟩,U⟩,λu g b c=>?_⟩
  . obtain⟨k,s,a8⟩:=y u g b hub;rw[o]at c;exact h.disj q k b (λd=>F.1 (d▸s)) (A b c) a8
  simp only[X4,qW]at g;rcases g with rfl|g
  . rw[o]at c;exact⟨q,by simp,A b c⟩
  obtain⟨k,s,r⟩:=y u g b c;exact⟨k,qI _ s,r⟩
def C3.settleM:∀ {as:List AM} {st:St} {j:Nat} {Z:Nat->Prop},C3 za w0 st E w Z B->∃Z',C3 za w0 (settleM st as j) E w Z' B
 | [],st,_,Z,h=>⟨Z,h⟩
 | .row _ _::r,st,j,Z,h=>C3.settleM (as:=r) h
 | .val _ _::r,st,j,Z,h=>C3.settleM (as:=r) h
 | .fn _ _ _::r,st,j,Z,h=>C3.settleM (as:=r) h
 | .rows _ _ _::r,st,j,Z,h=>C3.settleM (as:=r) h
 | .box _ _::r,st,j,Z,h=>by
  simp only[Vc.settleM];split
  . obtain⟨Z1,a⟩:=h.settle _;exact C3.settleM (as:=r) a
  exact C3.settleM (as:=r) h
def DL (h:C3 za w0 st E w Z B) {Zn:Nat->Prop} :∀ {as:List AM} {vs:List Value} {o:Od as} {j:Nat},((∀b,Z b->Zn b)\/as.all C1f=true)->(∀m u,(D9 as vs)[m]? =some u->B (j+m)=u)->(∀m p,(R1 as vs)[m]? =some p->∀b,up za w0 (j+m) b->B4 w0 p.2 (lcA p.1) b)->vs.length=as.length->cQ st as j=some o->Xr w0 w Zn as vs o
 | [],_,_,_,_,_,_,_,_=>trivial
 |a::r,[],_,_,_,_,_,c,_=>by simp at c
 | .val _ _::r,v::vs,o,j,g,d,f,i,k=>DL (as:=r) h (g.imp id λc=>by simp only[tN,qC]at c;exact c.2) d f (by simpa using i) k
 | .fn _ _ _::r,v::vs,o,j,g,d,f,i,k=>DL (as:=r) h (g.imp id λc=>by simp only[tN,qC]at c;exact c.2) d f (by simpa using i) k
 | .row D e::z,v::vs,o,j,c,k,s,t,n=>by
  simp only[cQ,bind_some,qK]at n;obtain⟨F,x,G,y,rfl⟩:=n;have r:B j=v:=k 0 v (by simp[D9,N0]);have l:=h.locs j;rw[Jq x]at l;obtain⟨A,g,i,_⟩:=l;rw[r]at g;refine⟨⟨A,g,?_⟩,DL (as:=z) h (c.imp id λd=>by simp only[tN,qC]at d;exact d.2) (λm u f=>by rw[(ω:j+1+m=j+(m+1))];exact k (m+1) u (by simpa[D9,N0]using f)) (λm p f=>by rw[(ω:j+1+m=j+(m+1))];exact s (m+1) p (by simpa[R1,N0]using f)) (by simpa using t) y⟩;rcases c with c|c
  . exact i.mono λ_ _=>C9.mono c (λ_ _=>rfl)
  simp only[tN,qC]at c;exact i.mono λ_ _ d=>C9.flat c.1 d
 | .box T I::F,v::vs,o,j,c,g,t,y,l=>by
  simp only[cQ,bind_some,qK]at l;obtain⟨J,A,M,D,rfl⟩:=l;have s:B j=v:=g 0 v (by simp[D9,N0]);obtain⟨H,x,z⟩:=Zg A;have i:=h.locs j;rw[x]at i;obtain⟨b,G,f,_,_,n,r⟩:=i;rw[s]at f;refine⟨⟨b,G,f,n,?_⟩,DL (as:=F) h (c.imp id λk=>by simp only[tN,qC]at k;exact k.2) (λm u d=>by rw[(ω:j+1+m=j+(m+1))];exact g (m+1) u (by simpa[D9,N0]using d)) (λm p d=>by rw[(ω:j+1+m=j+(m+1))];exact t (m+1) p (by simpa[R1,N0]using d)) (by simpa using y) D⟩;have:=Hd r z;rcases c with c|c
  . exact C9.mono c (λ_ _=>rfl) this
  simp only[tN,qC]at c;exact C9.flat c.1 this
 | .rows P e A::O,v::vs,o,j,c,n,t,i,y=>by
  simp only[cQ,bind_some,qK]at y;obtain⟨z,l,R,f,rfl⟩:=y;have r:B j=v:=n 0 v (by simp[D9,N0]);have s:=h.locs j;obtain⟨al,x⟩:=Ad l;rw[x]at s;have g:=s.rowsR;rw[r]at g;refine⟨⟨?_,λb I=>?_⟩,DL (as:=O) h (c.imp id λd=>by simp only[tN,qC]at d;exact d.2) (λm u k=>by rw[(ω:j+1+m=j+(m+1))];exact n (m+1) u (by simpa[D9,N0]using k)) (λm p k=>by rw[(ω:j+1+m=j+(m+1))];exact t (m+1) p (by simpa[R1,N0]using k)) (by simpa using i) f⟩
  . rcases c with c|c
    . exact g.mono c
    simp only[tN,qC]at c;obtain⟨Q,D,F,G,H⟩:=g;exact⟨Q,D,λM N z i l=>(F M N z i l).imp λU f=>⟨f.1,f.2.mono λ_ _ d=>C9.flat c.1 d⟩,G,H⟩
  have J:B4 w (B j) (st.L j) b:=by rw[x,r];exact(W5 λ_ _=>rfl).1 I
  exact t 0 (.rows P e A,v) (by simp[R1,N0]) b ((h.locs j).root J).1
variable {P:Program}
def Im {n:Nat} :∀ {as:List AM} {vs:List Value} {x:A3 as} {i j s:Nat},Z9 P w Z as vs x->i<=s->(∀m u,(D9 as vs)[m]? =some u->B (j+m)=u)->j+Lf as<=n->RD w Z B E (find (0, .dead) s (Ib P as x i j)).2 ((vs[s-i]?).getD undef)/\MP n (find (0, .dead) s (Ib P as x i j)).2
 | [],_,_,_,_,_,_,_,_,_=>⟨trivial,trivial⟩
 |a::z,_,x,i,j,s,⟨v,F,e,g,f⟩,y,b,c=>by
  subst e;by_cases d:i=s
  . subst d;cases a with
    |val a t=>
     simp only[Ib,find,yB,qS,yV];exact⟨Bl.explode g,F3⟩
    |row t e=>
     simp only[Ib,find,yB,qS,yV];have k:B j=v:=b 0 v (by simp[D9,N0]);exact⟨⟨v,[],rfl,k.symm,rfl⟩,λl h=>by simp at h;subst h;simp only[Lf]at c;show j<n;omega⟩
    |box T A=>
     simp only[Ib,find,yB,qS,yV];have o:B j=v:=b 0 v (by simp[D9,N0]);obtain⟨l,D,h,_⟩:=g;exact⟨⟨v,[],rfl,⟨l,o.trans h,h⟩,rfl⟩,λt k=>by simp at k;subst k;simp only[Lf]at c;show j<n;omega⟩
    |rows t e o=>
     simp only[Ib,find,yB,qS,yV];have k:B j=v:=b 0 v (by simp[D9,N0]);exact⟨⟨v,[],rfl,k.symm,rfl⟩,λl h=>by simp at h;subst h;simp only[Lf]at c;show j<n;omega⟩
    |fn k o=>
     simp only[Ib,find,yB,qS,yV];exact⟨⟨v,[],rfl,g,rfl⟩,λl h=>by simp at h;subst h;trivial⟩
  have r:s-i=(s-(i+1))+1:=ω
  rw[r];cases a with
  |val a t=>
   simp only[Ib,find,E9 d,rI,uP];exact Im (i:=i+1) (s:=s) f ω b c
  |fn h k=>
   simp only[Ib,find,E9 d,rI,uP];exact Im (i:=i+1) (s:=s) f ω b c
  |row t e=>
   simp only[Ib,find,E9 d,rI,uP];exact Im (i:=i+1) (s:=s) f ω (λm u h=>by rw[(ω:j+1+m=j+(m+1))];exact b (m+1) u (by simpa[D9,N0]using h)) (by simp only[Lf]at c;omega)
  |box t e=>
   simp only[Ib,find,E9 d,rI,uP];exact Im (i:=i+1) (s:=s) f ω (λm u h=>by rw[(ω:j+1+m=j+(m+1))];exact b (m+1) u (by simpa[D9,N0]using h)) (by simp only[Lf]at c;omega)
  |rows t e k=>
   simp only[Ib,find,E9 d,rI,uP];exact Im (i:=i+1) (s:=s) f ω (λm u h=>by rw[(ω:j+1+m=j+(m+1))];exact b (m+1) u (by simpa[D9,N0]using h)) (by simp only[Lf]at c;omega)
def A2s {n:Nat} {U:Nat->Nat->Prop} :∀ {as:List AM} {vs:List Value} {x:A3 as} {j k:Nat},Z9 P w Z as vs x->(∀m p,(R1 as vs)[m]? =some p->B (j+m)=p.2/\∀b,B4 w p.2 (lcA p.1) b->U (j+m) b)->
 RL (U k) w Z B k (find (0, .none) k (Ej as x j)).2/\AQ n (find (0, .none) k (Ej as x j)).2/\(live (find (0, .none) k (Ej as x j)).2->j<=k/\∃p,(R1 as vs)[k-j]? =some p/\∀b,B4 w (B k) (find (0, .none) k (Ej as x j)).2 b->B4 w p.2 (lcA p.1) b):=by
 intro as
 induction as with
 |nil=>intro _ _ _ _ _ _;exact⟨trivial,trivial,λh=>h.elim⟩
 |cons f r o=>
  intro vs x j k D c;obtain⟨v,y,e,h,i⟩:=D;subst e;have l:N0 f=true->j≠k->RL (U k) w Z B k (find (0, .none) k (Ej r x.2 (j+1))).2/\AQ n (find (0, .none) k (Ej r x.2 (j+1))).2/\(live (find (0, .none) k (Ej r x.2 (j+1))).2->j<=k/\∃p,(R1 (f::r) (v::y))[k-j]? =some p/\∀b,B4 w (B k) (find (0, .none) k (Ej r x.2 (j+1))).2 b->B4 w p.2 (lcA p.1) b):=λhm a=>by
   obtain⟨t,u,g⟩:=o (vs:=y) (x:=x.2) (j:=j+1) (k:=k) i (λm p s=>by rw[(ω:j+1+m=j+(m+1))];exact c (m+1) p (by simpa[R1,hm]using s));refine⟨t,u,λd=>⟨by have:=(g d).1;omega,?_⟩⟩;obtain⟨E,p,z,A⟩:=g d;refine⟨p,?_,A⟩;rw[(ω:k-j=(k-(j+1))+1)];simpa[R1,hm]using z
  cases f with
  |val f t=>exact o (x:=x.2) i c
  |fn f t=>exact o (x:=x.2) i c
  |row u s=>
   simp only[Ej,find];by_cases a:j=k
   . subst a;simp only[yB,qS];obtain⟨g,E⟩:=c 0 (.row u s,v) (by simp[R1,N0]);obtain⟨F,t,z,A⟩:=h;have g:B j=v:=g;refine⟨⟨F,by rw[g];exact t,z,λb d=>?_⟩,trivial,λ_=>⟨qV _,(.row u s,v),by simp[R1,N0],λb d=>by rw[g]at d;exact d⟩⟩;rw[g]at d;exact⟨E b ((E7 t).trans d),A b d⟩
   simp only[E9 a,rI];exact l rfl a
  |box T t=>
   simp only[Ej,find];by_cases a:j=k
   . subst a;simp only[yB,qS];obtain⟨d,E⟩:=c 0 (.box T t,v) (by simp[R1,N0]);obtain⟨b,F,g,u,z,A⟩:=h;have d:B j=v:=d;exact⟨⟨b,F,d.trans g,E b (by rw[g];rfl),u,z,O7 A⟩,F3,λ_=>⟨qV _,(.box T t,v),by simp[R1,N0],λb s=>by rw[d]at s;exact s⟩⟩
   simp only[E9 a,rI];exact l rfl a
  |rows u s t=>
   simp only[Ej,find];by_cases a:j=k
   . subst a;simp only[yB,qS];obtain⟨g,E⟩:=c 0 (.rows u s t,v) (by simp[R1,N0]);obtain⟨z,A⟩:=h;have g:B j=v:=g;refine⟨Ct.rl (by rw[g];exact z) λb d=>?_,λp F=>(by cases F),λ_=>⟨qV _,(.rows u s t,v),by simp[R1,N0],λb d=>by rw[g]at d;exact(W5 λ_ _=>rfl).1 d⟩⟩;rw[g]at d;exact⟨E b ((W5 λ_ _=>rfl).1 d),A b d⟩
   simp only[E9 a,rI];exact l rfl a
def Z9.len:∀ {as:List AM} {vs:List Value} {x:A3 as},Z9 P w Z as vs x->vs.length=as.length
 | [],_,_,h=>by rw[show _= _ from h];rfl
 | _:: _,_,_,⟨v,b,e,_,a⟩=>by rw[e,rK,rK,Z9.len a]
def Be:∀ {as:List AM} {vs:List Value},vs.length=as.length->(D9 as vs).length=Lf as
 | [],vs,_=>by cases vs<;>rfl
 |a::r,[],h=>by simp at h
 | .val _ _::r,v::vs,h=>Be (as:=r) (by simpa using h)
 | .fn _ _ _::r,v::vs,h=>Be (as:=r) (by simpa using h)
 | .row _ _::r,v::vs,h=>by simp only[D9,N0,qS,rK,Lf];rw[Be (as:=r) (by simpa using h)]
 | .box _ _::r,v::vs,h=>by simp only[D9,N0,qS,rK,Lf];rw[Be (as:=r) (by simpa using h)]
 | .rows _ _ _::r,v::vs,h=>by simp only[D9,N0,qS,rK,Lf];rw[Be (as:=r) (by simpa using h)]
def Vb:∀(as:List AM) (vs:List Value),D9 as vs=(R1 as vs).map (·.2)
 | [],vs=>by cases vs<;>rfl
 | _:: _,[]=>rfl
 |a::r,v::vs=>by
  simp only[D9,R1];cases N0 a
  . exact Vb r vs
  simp only[qS,rW,Vb r vs]
def Dis.get:∀ {l:List (AM×Value)} {m c b:Nat} {u a:AM×Value},Dis w l->m<c->l[m]? =some u->l[c]? =some a->B4 w u.2 (lcA u.1) b->¬B4 w a.2 (lcA a.1) b
 | [],_,_,_,_,_,_,_,h,_,_=>by simp at h
 |v::l,0,c+1,b,u,a,g,i,h,d,f=>by
  simp at h d;subst h;exact g.1 b f a (sW d)
 |v::l,m+1,c+1,b,u,a,g,i,h,d,f=>by
  simp at h d;exact Dis.get g.2 ω h d f
 |v::l,_,0,_,_,_,_,d,_,_,_=>ω
def kE (as:List AM) (vs:List Value):Nat->Value:=λj=>((D9 as vs)[j]?).getD (.bool false)
def EA:∀ {as:List AM} {vs:List Value} {x:A3 as},Z9 P w Z as vs x->∀u∈D9 as vs,u.oneCell'=true
 | [],vs,_,_,u,a=>by cases vs<;>cases a
 | .val _ _::r,_,_,⟨v,c,e,_,a⟩,u,b=>by subst e;exact EA (as:=r) a u b
 | .fn _ _ _::r,_,_,⟨v,c,e,_,a⟩,u,b=>by subst e;exact EA (as:=r) a u b
 | .row t d::r,_,_,⟨v,f,e,⟨h,g,_⟩,c⟩,u,a=>by
  subst e;simp only[D9,N0,qS,qW]at a;rcases a with rfl|a
  . rcases g.2 with⟨b,_⟩ | ⟨_,_,_,b,_⟩<;>rw[b]<;>rfl
  exact EA (as:=r) c u a
 | .rows t d f::r,_,_,⟨v,h,e,⟨⟨i,g,_⟩,_⟩,c⟩,u,a=>by
  subst e;simp only[D9,N0,qS,qW]at a;rcases a with rfl|a
  . rcases g.2 with⟨b,_⟩ | ⟨_,_,_,b,_⟩<;>rw[b]<;>rfl
  exact EA (as:=r) c u a
 | .box t d::r,_,_,⟨v,h,e,⟨c,f,g,_⟩,b⟩,u,a=>by
  subst e;simp only[D9,N0,qS,qW]at a;rcases a with rfl|a
  . rw[g];rfl
  exact EA (as:=r) b u a
def Io:∀ {as:List AM} {x:A3 as} {j k:Nat},¬live (find (0, .none) k (Ej as x j)).2->(find (0, .none) k (Ej as x j)).2= .none
 | [],_,_,_,_=>rfl
 | .val _ _::r,x,j,k,h=>Io (as:=r) (x:=x.2) (j:=j) h
 | .fn _ _ _::r,x,j,k,h=>Io (as:=r) (x:=x.2) (j:=j) h
 | .row t b::r,x,j,k,h=>by
  simp only[Ej,find]at h|-;cases a:Nat.beq j k with
  |true=>rw[a]at h;exact absurd trivial h
  |false=>rw[a]at h;exact Io (as:=r) h
 | .rows t b c::r,x,j,k,h=>by
  simp only[Ej,find]at h|-;cases a:Nat.beq j k with
  |true=>rw[a]at h;exact absurd trivial h
  |false=>rw[a]at h;exact Io (as:=r) h
 | .box T t::r,x,j,k,h=>by
  simp only[Ej,find]at h|-;cases a:Nat.beq j k with
  |true=>rw[a]at h;exact absurd trivial h
  |false=>rw[a]at h;exact Io (as:=r) h
def C5v (w:World) (as:List AM) (vs:List Value):Nat->Nat->Prop:=λk b=>∃p:AM×Value,(R1 as vs)[k]? =some p/\B4 w p.2 (lcA p.1) b
def zn0 (w:World) (Z:Nat->Prop) (as:List AM) (vs:List Value):Zn:=⟨Z,YQ w as vs,Lf as,kE as vs,0,0,C5v w as vs,λ_ _ ⟨p,hp,hb⟩=>⟨p,sW hp,hb⟩,[]⟩
def B8h {as:List AM} {vs:List Value} {x:A3 as} (J:∀b,Z b->b<w.heap.size) (h:Z9 P w Z as vs x) (D:Dis w (R1 as vs)):C3 (zn0 w Z as vs) w (A2r P as x) (SD vs) w Z (kE as vs):=by
 have O:=Be (Z9.len h);have z:∀m u,(D9 as vs)[m]? =some u->kE as vs (0+m)=u:=λm u a=>by simp only[kE,sD,a,wF]
 have g:∀(m:Nat) (p:AM×Value),(R1 as vs)[m]? =some p->(D9 as vs)[m]? =some p.2:=λm p a=>by rw[Vb,vT,a];rfl
 have d:=λk=>A2s (P:=P) (w:=w) (Z:=Z) (B:=kE as vs) (n:=Lf as) (U:=λk b=>up (zn0 w Z as vs) w k b) (j:=0) (k:=k) h (λm p a=>⟨z m p.2 (g m p a),λb l=> .inr ⟨by have:=SA (g m p a);simp only[sD];show m<Lf as;omega,p,by simpa using a,l⟩⟩)
 have A:=λs=>Im (P:=P) (w:=w) (Z:=Z) (B:=kE as vs) (E:=SD vs) (n:=Lf as) (i:=0) (j:=0) (s:=s) h (rS _) z ω
 refine⟨Y6.of (R5.refl w),J,λs=>(A s).1,λk=>(d k).1,λk o b Q r t=>?_,λs=>(A s).2,λk=>(d k).2.1,λk F=>?_,λk=>?_,λb l=> .inl l,⟨rfl,qV _⟩,λ_ _=>rfl,⟨rS _,λ_ _ _ _=>rS _⟩,trivial,λM H=>(by cases H)⟩
 . obtain⟨_,p,c,v⟩:=(d k).2.2 r.live;obtain⟨_,R,f,y⟩:=(d o).2.2 t.live;simp only[g2m]at c f;rcases sH k o with I|N
   . exact D.get I c f (v b r) (y b t)
   exact D.get (ω:o<k) f c (y b t) (v b r)
 . by_cases G:live ((A2r P as x).L k)
   . obtain⟨_,p,c,_⟩:=(d k).2.2 G;simp only[g2m]at c;have:=SA (g k p c);have F:Lf as<=k:=F;omega
   exact Io G
 simp only[kE];cases a:(D9 as vs)[k]? with
 |none=>rfl
 |some u=>exact EA h u (sW a)
def B4g {f:FuncId} {fn:Func} {c:Code} {s:A8} (a0:cx.P.funcs[f]? =some fn) (a:fn.body=some c) (a1:s.args.length<=fn.ntmps) (a3:Co fn.ntmps c=true) (Q:G7 cx.P cx.tys=true) (a9:Lw cx.P sp)
 (ac:∀x,awf s.args x->s.pre x->C4g cx sp an s fn.results.toList c x):B7 cx.P f s:=by
 intro w Z i x ad H Y a5;have v:i.length=s.args.length:=H.len;have a8:=ac x H.awf a5;generalize k:zn0 w Z s.args i=za;have M:=B8h ad H Y;rw[k]at M;refine RX a0 a (by rw[v];exact a1) a3 (λE l=>Nx za w (fin cx s fn.results.toList x) E l) ?_ ⟨λa4 U G=>?_⟩
 . rintro E l A ab ⟨st,Z',B',D,h⟩;unfold fin at h;split at h
   . rename_i ss af;split at h
     . rename_i ah aa;split at h
       . rename_i z R G a2;obtain⟨g,r⟩:=C0 h;simp only[qC]at g;obtain⟨Z0,X⟩:=C3.settleR (rs:=s.res) (ss:=ss) D;obtain⟨Z1,n⟩:=C3.settleM (as:=s.args) (j:=0) X;obtain⟨B,V,W⟩:=MQ Q n ab aa;have a7:(results fn A).run cx.P l= .ok (BB B) l:=by
          have d:(fn.results.mapM (oI A)).run cx.P l= .ok B.toArray l:=by
           rw[yY];simp[V]
          have e:results fn A=(do let i<-fn.results.mapM (oI A);pure (if D:i.size=1 then i[0]else .tuple i)):=by
           unfold results;congr 1
          rw[e];simp only[Sem.run_bind,d,Result.andThen_ok,Sem.run_pure]
          match B with
          | []=>rfl
          | [u]=>rfl
          |u::ai::z=>rfl
         have O:s.post x z/\(Q7 s.args=true->s.mpost x z R):=by
          unfold C5s at r;cases d:Q7 s.args with
          |true=>simp only[d,qS]at r;exact⟨r.1,λ_=>r.2⟩
          |false=>simp only[d,rI]at r;exact⟨r,λo=>by cases o⟩
         refine⟨_,a7,?_,z,R,B,(λb=>s.shared=true/\Z1 b),O.1,O.2,rfl,λb a=>?_,?_,?_⟩
         . have:=D.ext;rw[<-k]at this;exact this
         . rcases n.zin b a.2 with o|o
           . rw[<-k]at o;exact .inr ⟨a.1,o⟩
           exact .inl ⟨o,n.zlt b a.2⟩
         . refine(Si n (Zn:=λb=>s.shared=true/\Z1 b) (λb a=>a.2) ?_ W G (Jl g.1.1) g.1.2).1;cases I:s.shared with
           |true=>exact .inl λb a=>⟨rfl,a⟩
           |false=>rw[I]at g;simp only[wH,qC]at g;exact .inr g.2.1
         refine DL (Zn:=λb=>s.shared=true/\Z1 b) n (j:=0) ?_ (λm u d=>?_) (λm p d b t=>?_) v a2
         . cases I:s.shared with
           |true=>exact .inl λb a=>⟨rfl,a⟩
           |false=>rw[I]at g;simp only[wH,qC]at g;exact .inr g.2.2
         . have y:=SA d;rw[Be v]at y;have:=n.bfix m (by rw[<-k];exact y);rw[sD,this, <-k];show kE s.args i m=u;simp only[kE,d,wF]
         rw[<-k,sD]at t;rcases t with⟨t,_⟩ | ⟨_,ag,N,a⟩
         . have y:=SA (show(D9 s.args i)[m]? =some p.2 by rw[Vb,vT,d];rfl);rw[Be v]at y;have t:Lf s.args<=m:=t;omega
         rw[d]at N;cases N;exact a
       exact h.elim
     exact h.elim
   exact h.elim
 refine wp_mono (A7h Q a9 (by rw[<-k];rfl) M a8 a4 U G) ?_;rintro e ae l ⟨E',a6,T,Z',B',J,F⟩;refine⟨E',a6,?_⟩;cases e with
 |normal=>exact⟨T,Z',B',J,F⟩
 |ret=>exact⟨T,Z',B',J,F⟩
 | _=>exact F.elim
def B4h {f:FuncId} {fn:Func} {c:Code} {s:A8} {a:A3 s.args->Prop} (g:cx.P.funcs[f]? =some fn) (b:fn.body=some c) (h:s.args.length<=fn.ntmps) (i:Co fn.ntmps c=true) (k:G7 cx.P cx.tys=true) (j:Lw cx.P sp)
 (d:∀x,C4g cx sp an s fn.results.toList c x=a x) (l:∀x,awf s.args x->s.pre x->a x):B7 cx.P f s:=
 B4g g b h i k j λx n a=>by rw[d];exact l x n a
def C4h (P:Program) (tys:List (Nat×TI)) (sp:G1) (an:An) (s:A8) (fn:Func) (x:A3 s.args):Prop:=C4g ⟨P,tys⟩ sp an s fn.results.toList (fn.body.getD .skip) x
def B4i {P:Program} {tys:List (Nat×TI)} {sp:G1} {an:An} {f:FuncId} {fn:Func} {s:A8} {g:A3 s.args->Prop} (i:P.funcs[f]? =some fn) (b:fn.body.isSome=true) (j:Nat.ble s.args.length fn.ntmps=true) (k:Co fn.ntmps (fn.body.getD .skip)=true) (n:G7 P tys=true) (l:Lw P sp)
 (h:∀x,C4h P tys sp an s fn x=g x) (o:∀x,awf s.args x->s.pre x->g x):B7 P f s:=by
 cases a:fn.body with
 |none=>rw[a]at b;cases b
 |some c=>
  have d:fn.body.getD .skip=c:=by rw[a];rfl
  refine B4h (cx:=⟨P,tys⟩) (an:=an) (c:=c) i a (qO j) (by rw[<-d];exact k) n l (λx=>?_) o;rw[<-h x, <-d];rfl
def EJ (a:Nat):Nat->List SV->List (Nat×Nat×DV)
 | _,[]=> []
 |i,s::b=>(i,a, .one s)::EJ a (i+1) b
def kT (st:St) (ss:List SV):St:=⟨EJ (st.ct+1) 0 ss,st.lc,st.nx,st.ct+1,st.nm,st.sl::st.fr⟩
def A3u (cx:Cx) (c:List ResultVar) (b:Nat) (k:St->List SV->Prop) (st:St):Prop:=
 match st.fr with
 |f::a=>(match AR cx st c with
  |some c=>k ⟨f,st.lc,max st.nx b,st.ct,st.nm,a⟩ c
  |none=>False)
 | []=>False
def PS (cx:Cx) (b:List (Nat×G1×An)) (a:List ResultVar) (c:Code) (n d:Nat) (st:St) (ss:List SV) (k:St->List SV->Prop):Prop:=
 match V3 d b with
 |some (sp,an)=>bif Nat.ble ss.length n then Oe cx sp an c ⟨A3u cx a an.bump k,λ_ _=>False,A3u cx a an.bump k⟩ (kT st ss)else False
 |none=>False
def gF {i:List ResultVar} {b:Nat} {k k':St->List SV->Prop} {ss:List SV} {a:St} (ev:C4 (kT st ss) a) (h:A3u cx i b k a) (o:∀a g,C4 st a->k a g->k' a g):A3u cx i b k' a:=by
 unfold A3u at h|-;cases d:a.fr with
 |nil=>rw[d]at h;exact h
 |cons j n=>
  rw[d]at h;simp only at h|-;split at h
  . have e:=ev.f;rw[d]at e;have e:Q6 (st.ct+1) st.sl j/\Bd (st.ct+1) st.fr n:=e;refine o _ _ ⟨qX (uI _) ev.ct,λs f c=>?_,λq f c=>ev.l q f (xU c),e.2.le (uI _)⟩ h;exact Q6.find s e.1 (xU c)
  exact h
def B3l (f:List (Nat×G1×An)) (j:List ResultVar) (c:Code) (n:Nat) {st:St} {d:Nat} {ss:List SV} {k k':St->List SV->Prop} (h:PS cx f j c n d st ss k) (g:∀a i,C4 st a->k a i->k' a i):PS cx f j c n d st ss k':=by
 unfold PS at h|-;split at h
 . obtain⟨l,h⟩:=C0 h;simp only[l,qS];refine QU h λe a ev b=>?_
   cases e with
   |normal=>exact gF ev b g
   |ret=>exact gF ev b g
   | _=>exact b
 exact h
def Md (cx:Cx) (a:List (Nat×G1×An)) (b:List ResultVar) (c:Code) (n:Nat):Inl:= {run:=PS cx a b c n,step:=B3l a b c n,has:=λd=>(V3 d a).isSome}
def MV {c s:Nat} :∀ {ss:List SV} {i:Nat},(find (0, .dead) s (EJ c i ss)).2=if i<=s then(match ss[s-i]? with|some v=> .one v|none=> .dead)else .dead
 | [],i=>by simp[EJ,find]
 |v::ss,i=>by
  simp only[EJ,find];cases b:Nat.beq i s with
  |true=>
   have:=qD b;subst this;simp
  |false=>
   have d:i≠s:=uK b;simp only[rI,MV (ss:=ss) (i:=i+1)];by_cases a:i+1<=s
   . rw[qR a,qR ω,(ω:s-i=(s-(i+1))+1),uP]
   rw[qL a,qL ω]
def Nz.len {w:World} {Z:Nat->Prop} {B:Nat->Value} :∀ {ss:List SV} {vs:List Value},Nz w Z B ss vs->vs.length=ss.length
 | [],_,h=>by rw[show _= _ from h];rfl
 | _:: _,_,⟨v,b,e,_,a⟩=>by rw[e,rK,rK,Nz.len a]
def QO (h:C3 za w0 st E w Z B):∀ {f:List ResultVar} {ss:List SV},AR cx st f=some ss->∀s∈ss,Mp st.nx s
 | [],_,a=>by cases a;intro s a;cases a
 | .tmp t::r,ss,a=>by
  simp only[AR]at a;split at a
  . rename_i g d;simp only[qK]at a;obtain⟨i,c,rfl⟩:=a;intro s b;rcases qW.1 b with rfl|b
    . have:=h.refs t;rw[d]at this;exact this
    exact QO h c s b
  cases a
 | .cell g t::r,ss,a=>by
  simp only[AR,qH,bind_some]at a;obtain⟨ti,_,a⟩:=a;split at a
  . rename_i k _;split at a
    . rename_i T i c;obtain⟨_,a⟩:=E6 a;simp only[qK]at a;obtain⟨j,d,rfl⟩:=a;intro s b;rcases qW.1 b with rfl|b
      . have:=h.refl k;rw[c]at this;exact this
      exact QO h d s b
    cases a
  cases a
def A4u (P:Program) (a:List (Nat×G1×An)):Prop:=∀x∈a,Lw P x.2.1
def eV {α:Type} {d:Nat} {x:α} :∀ {l:List (Nat×α)},V3 d l=some x->(d,x)∈l
 | [],h=>by cases h
 | (t,y)::l,h=>by
  simp only[V3]at h;cases a:Nat.beq t d with
  |true=>
   rw[a]at h;have:=qD a;subst this;cases h;simp
  |false=>rw[a]at h;exact qI _ (eV h)
def Gu {f:FuncId} {fn:Func} {c:Code} {x:List (Nat×G1×An)} (Y:cx.P.funcs[f]? =some fn) (g:fn.body=some c) (a6:Co fn.ntmps c=true) (J:G7 cx.P cx.tys=true) (o:A4u cx.P x):Yx cx.P f (Md cx x fn.results.toList c fn.ntmps):=by
 refine {go:= ?_};intro za w0 st E w Z B O j l M W h H aa b;have b:PS cx x fn.results.toList c fn.ntmps O st j M:=b;unfold PS at b;split at b
 . rename_i sp an a2;have o:=o _ (eV a2);simp only at o;obtain⟨z,b⟩:=C0 b;have z:=qO z;have a4:=H.len;have D:∀s,(kT st j).S s=match j[s]? with|some v=> .one v|none=> .dead:=λs=>by
    show(find (0, .dead) s (EJ (st.ct+1) 0 j)).2= _;rw[MV,qR (rS _)];rfl
   have V:C3 {za with es:=E::za.es} w0 (kT st j) (SD l) w Z B:=by
    refine⟨h.ext,h.zlt,λs=>?_,h.locs,h.disj,λs=>?_,h.refl,h.fresh,h.bone,h.zin,h.nms,h.bfix,h.mrk,⟨h.slots,h.frs⟩,λI t s=>?_⟩
    . rw[D];cases A:j[s]? with
      |none=>trivial
      |some v=>
       obtain⟨u,Q,R⟩:=H.get A;show RS w Z B v (SD l s);simp only[SD,Q,wF];exact R
    . rw[D];cases A:j[s]? with
      |none=>trivial
      |some v=>exact aa v (sW A)
    rcases qW.1 t with rfl|t
    . exact h.refs s
    exact h.frf I t s
   refine RX Y g (by rw[a4];exact z) a6 (λE' k=>Nx {za with es:=E::za.es} w0 (A3u cx fn.results.toList an.bump M) E' k) ?_ ⟨λa7 N a8=>?_⟩
   . rintro E' k r ac ⟨d,Z',B',a,i⟩;unfold A3u at i;have G:=a.frs;have y:=a.frf;cases F:d.fr with
     |nil=>rw[F]at i;exact i.elim
     |cons A Q=>
      rw[F]at i G y;simp only at i;obtain⟨a0,a1⟩:=G;split at i
      . rename_i ad I;obtain⟨t,T,U⟩:=MQ J a ac I;have ab:(results fn r).run cx.P k= .ok (BB t) k:=by
         have a5:(fn.results.mapM (oI r)).run cx.P k= .ok t.toArray k:=by
          rw[yY];simp[T]
         have e:results fn r=(do let l<-fn.results.mapM (oI r);pure (if h:l.size=1 then l[0]else .tuple l)):=by
          unfold results;congr 1
         rw[e];simp only[Sem.run_bind,a5,Result.andThen_ok,Sem.run_pure]
         match t with
         | []=>rfl
         | [u]=>rfl
         |u::ag::af=>rfl
        have g:=g2q d.nx an.bump;exact⟨_,ab,⟨A,d.lc,max d.nx an.bump,d.ct,d.nm,Q⟩,Z',B',ad,t,⟨a.ext,a.zlt,a0,a.locs,a.disj,λs=>(y A (by simp) s).le g,λq=>(a.refl q).le g,λq n=>a.fresh q (qX g n),a.bone,a.zin,⟨a.nms.1,qX a.nms.2 g⟩,a.bfix,a.mrk,a1,λR a3 s=>(y R (by simp[a3]) s).le g⟩,rfl,U,λs b c X=>(QO a I s b c X).le g,i⟩
      exact i.elim
   refine wp_mono (A7h J o (by exact W) V b a7 N a8) ?_;rintro e ae k ⟨E',a9,d,Z',B',a,n⟩;refine⟨E',a9,?_⟩;cases e with
   |normal=>exact⟨d,Z',B',a,n⟩
   |ret=>exact⟨d,Z',B',a,n⟩
   | _=>exact n.elim
 exact b.elim
def W1 (run:Inl):A8:= {args:= [],res:= [],pre:=λ_=>False,post:=λ_ _=>True,inl:=some run}
end
end Go.Vc
namespace Go.Proofs.YtdbnghliccifcaaGreat
open Go.IntKind (i64 u64 u32)
abbrev Wf:=List Int
def nv:Wf->Nat
 | []=>0
 |a::l=>a.toNat+4294967296*nv l
def nc (n:Nat):Wf:=if h:n=0 then []else((n%4294967296:Nat):Int)::nc (n/4294967296)
termination_by n
decreasing_by omega
def jZ (x:Int):Prop:=0<=x/\x<=4294967295
def A9 (l:Wf):Prop:=∀x∈l,jZ x
def R3:nc 0= []:=by rw[nc];rfl
def QB {n:Nat} (h:n≠0):nc n=((n%4294967296:Nat):Int)::nc (n/4294967296):=by rw[nc];simp[h]
def F6 (n:Nat):nv (nc n)=n:=by
 induction n using Nat.strongRecOn with
 | _ n a=>
  by_cases h:n=0
  . subst h;rw[R3];rfl
  rw[QB h];simp only[nv,a (n/4294967296) ω];omega
def L8 (n:Nat):A9 (nc n):=by
 induction n using Nat.strongRecOn with
 | _ n b=>
  by_cases h:n=0
  . subst h;rw[R3];intro x a;cases a
  rw[QB h];intro x a;rcases qW.1 a with rfl|a
  . unfold jZ;omega
  exact b (n/4294967296) ω x a
def Zw {n:Nat} :nc n= []↔n=0:=by
 constructor
 . intro h;by_cases a:n=0
   . exact a
   rw[QB a]at h;cases h
 rintro rfl;exact R3
def A6m (a:Int) (m:Nat) (b:jZ a) (h:a≠0\/m≠0):nc (a.toNat+4294967296*m)=a::nc m:=by
 unfold jZ at b;rw[QB ω];congr 1
 . omega
 congr 1;omega
def Rz (a b:Wf):nv (a++b)=nv a+4294967296^a.length*nv b:=by
 induction a with
 |nil=>simp[nv]
 |cons x a c=>
  simp only[yU,nv,c,rK,sC];rw[tD, <-uS, <-sM,sN 4294967296 (4294967296^a.length)]
def Sa (n:Nat):nv (List.replicate n 0)=0:=by
 induction n with
 |zero=>rfl
 |succ n a=>simp[List.replicate_succ,nv,a]
def YC {a:Int} {l:Wf} :A9 (a::l)↔jZ a/\A9 l:=by simp[A9]
def Gy {l:Wf} (h:A9 l):nv l<4294967296^l.length:=by
 induction l with
 |nil=>simp[nv]
 |cons b l a=>
  rw[YC]at h;have:=a h.2;have a:=h.1;unfold jZ at a;simp only[nv,rK,sC];omega
def C6h {l:Wf} (h:A9 l) (c:∀x,l.getLast? =some x->x≠0):nc (nv l)=l:=by
 induction l with
 |nil=>exact R3
 |cons b l a=>
  rw[YC]at h;simp only[nv];cases l with
  |nil=>
   have:=c b rfl;rw[A6m b _ h.1 (.inl this)];simp only[nv,R3]
  |cons d l=>
   have a:=a h.2 (λx hx=>c x (by rw[List.getLast?_cons_cons];exact hx));have g:nv (d::l)≠0:=by
    intro f;rw[f,R3]at a;cases a
   rw[A6m b _ h.1 (.inr g),a]
def A6n {l:Wf} (h:A9 l) {n:Nat} (f:n<=l.length) (k:∀i x,n<=i->l[i]? =some x->x=0) (d:n=0\/∃x,l[n-1]? =some x/\x≠0):l.take n=nc (nv l):=by
 have e:nv l=nv (l.take n):=by
  conv=>lhs;rw[<-uE n l]
  rw[Rz];have:l.drop n=List.replicate (l.length-n) 0:=by
   apply xS;intro i;rw[xK];by_cases c:n+i<l.length
   . rw[qM c,uD,qR ω];rw[k (n+i) l[n+i] ω (qM c)]
   rw[rT ω,rT (by simp;omega)]
  rw[this,Sa];simp
 rw[e]
 symm
 apply C6h
 . intro x a;exact h x (rO a)
 intro x a;rw[List.getLast?_eq_getElem?,qZ,tI f]at a;rcases d with b| ⟨y,g,j⟩
 . subst b;simp at a
 rw[rX (by
  rcases vN n with b|b
  . subst b;simp at a
  omega),g]at a
 cases a;exact j
def Fv {n k:Nat} (h:n<4294967296^k):(nc n).length<=k:=by
 induction k generalizing n with
 |zero=>have:n=0:=by simpa using h
        subst this;rw[R3];exact qV _
 |succ k b=>
  by_cases a:n=0
  . subst a;rw[R3];exact rS _
  rw[QB a,rK];have:n/4294967296<4294967296^k:=by
   rw[tU δ];rw[sC]at h;exact h
  have:=b this;omega
def D6 {l:Wf} (h:A9 l):(nc (nv l)).length<=l.length:=Fv (Gy h)
def B4n {n k:Nat} (h:k<(nc n).length):4294967296^k<=n:=by
 rcases sH n (4294967296^k)with a|a
 . have:=Fv a;omega
 exact a
def K9 {m n:Nat} (h:m<=n):(nc m).length<=(nc n).length:=by
 apply Fv;have:=Gy (L8 n);rw[F6]at this;omega
def Ip (n:Nat):n<4294967296^(nc n).length:=by
 have:=Gy (L8 n);rwa[F6]at this
def Qk (m n:Nat):(nc (m*n)).length<=(nc m).length+(nc n).length:=by
 apply Fv;rw[uZ];have a:=Ip m;have b:=Ip n;exact Nat.mul_lt_mul'' a b
def QA (m n:Nat):(nc (m+n)).length<=max (nc m).length (nc n).length+1:=by
 apply Fv;have a:=Ip m;have a:=Ip n;have a:4294967296^(nc m).length<=4294967296^(max (nc m).length (nc n).length):=rZ δ (g2q ..);have a:4294967296^(nc n).length<=4294967296^(max (nc m).length (nc n).length):=rZ δ (g4x ..);rw[sC];omega
abbrev Lb:=Bool×Wf
abbrev C7:=Lb×Wf
def Dg (a b:Nat):Int:=if a<b then -1 else if b<a then 1 else 0
def N3 (a b:Int):Int:=if a<b then -1 else if b<a then 1 else 0
def iv (x:Lb):Int:=if x.1=true then -(nv x.2:Int)else(nv x.2:Int)
def ic (v:Int):Lb:=(decide (v<0),nc v.natAbs)
def C4f (x:C7):Int:=if nv x.2=0 then 0 else(iv x.1).sign
def rv (x:C7):Rat:=mkRat (iv x.1) (nv x.2)
def rc (q:Rat):C7:=(ic q.num,nc q.den)
def L3 (x:C7):Prop:=nv x.1.2<2147483648/\nv x.2<2147483648
instance (x:C7):Decidable (L3 x):=by unfold L3;infer_instance
def Ry (x:C7):Int:=if nv x.2=0 then 0 else iv x.1
def Ob (x:C7):Int:=if nv x.2=0 then 1 else(nv x.2:Int)
def zi:Lb:=(false,[])
def zr:C7:=((false,[]),[])
def ri (k:Int):C7:=(ic k,[1])
abbrev Ht (l:Wf):Prop:=l.length<=35184372088832
abbrev N8 (l:Wf):Prop:=l.length<=17592186044416
abbrev Gf (l:Wf):Prop:=l.length<=8796093022208
def J8 (x:C7):Prop:=x.1.2.length<=2199023255552/\x.2.length<=2199023255552
def Oc (a b:Lb):Rat:=Rat.divInt (iv a) (iv b)
def M9 (n:Nat):Nat:=if n=0 then 0 else Nat.log2 n+1
def C3k (A B u0 u1 v0 v1:Int) (ev:Bool):Prop:=v0=0\/∃A' B':Int,A'=(if ev then u0*A-v0*B else v0*B-u0*A)/\B'=(if ev then v1*B-u1*A else u1*A-v1*B)/\0<=B'/\B'<=A'/\A=v1*A'+v0*B'/\B=u1*A'+u0*B'/\1<=v0/\1<=v1/\0<=u0/\0<=u1
def Ni (l:Wf):Prop:=l.getD (l.length-1) 0≠0
open Go.Vc Go.Gw
def H3 (a b:Bool):L5 a true b=(a||b):=by cases a<;>rfl
def J7 (a b:Bool):L5 a b false=(a&&b):=by cases a<;>rfl
def wr {a:Int} (b: -9223372036854775808<=a) (c:a<=9223372036854775807):i64.wrap a=a:=IntWalk.i64_in _ ⟨b,c⟩
def wv {a:Int} (h: -9223372036854775808<=a/\a<=9223372036854775807):i64.wrap a=a:=wr h.1 h.2
def F4 {α:Type} {d:α} {l:List α} {i:Int} (a:0<=i) (b:i<(l.length:Int)):gx d l i∈l:=sW (H1 a b)
def K6 {α:Type} {d:α} {l:List α} {i:Int} (a:0<=i) (b:i<(l.length:Int)):gx d l i=l.getD i.toNat d:=by
 have:=H1 (d:=d) a b;rw[qE,this];rfl
def Jh {α:Type} {d:α} {l:List α} {q:α->Prop} {i:Int} (b:0<=i) (c:i<(l.length:Int)) (f:∀x∈l.take i.toNat,q x) (g:q (gx d l i)):∀x∈l.take (i+1).toNat,q x:=by
 intro x a;rw[(ω:(i+1).toNat=i.toNat+1),rP,H1 (d:=d) b c]at a;simp at a;rcases a with a|rfl
 . exact f x a
 exact g
def E8 {α:Type} {l:List α} {i:Int} (h:(l.length:Int)<=i):l.take i.toNat=l:=qP ω
def VV:u32.max=4294967295:=δ
def VW:u32.min=0:=δ
def EP:u64.max=18446744073709551615:=δ
def lJ:u64.min=0:=δ
def DR:i64.max=9223372036854775807:=δ
def Uv:i64.min= -9223372036854775808:=δ
def A6 {l:Wf} (h:∀x∈l,u32.min<=x/\x<=u32.max):A9 l:=λx a=>by
 have:=h x a;rw[VW,VV]at this;exact this
def Y5 {a:Int} (b:0<=a) (c:a<=18446744073709551615):u64.wrap a=a:=IntWalk.u64_in _ ⟨b,c⟩
def w32 {a:Int} (b:0<=a) (c:a<=4294967295):u32.wrap a=a:=IntWalk.u32_in _ ⟨b,c⟩
def Cw (a:Int):u32.wrap a=a%4294967296:=IntKind.wrap_u32 a
def Cy (a:Int):u64.wrap a=a%18446744073709551616:=IntKind.wrap_u64 a
def Uz {l:Wf} (h:A9 l) {i:Int} (a:0<=i) (b:i<(l.length:Int)):0<=gx 0 l i/\gx 0 l i<=4294967295:=h _ (F4 a b)
def SG {v:Int} (a:0<=v) (b:v<18446744073709551616):(BitVec.ofInt 64 v).toNat=v.toNat:=by
 rw[xZ];congr 1;omega
def ZL {v b:Int} {k:Nat} (v0:0<=v) (v1:v<2^k) (b0:0<=b) (c:b*2^k<18446744073709551616) (d:v<18446744073709551616):(((BitVec.ofInt 64 v|||BitVec.ofInt 64 (b*2^k)).toNat:Nat):Int)=v+b*2^k:=by
 have a:0<=b*2^k:=tO b0 (Int.pow_nonneg δ);rw[BitVec.toNat_or,SG v0 d,SG a c];have e:(b*2^k).toNat=b.toNat<<<k:=by
  rw[g4y,g3v b0 (Int.pow_nonneg δ),Int.toNat_pow_of_nonneg δ];rfl
 have c:v.toNat<2^k:=by
  have:(v.toNat:Int)<((2^k:Nat):Int):=by rw[sV v0,xP];exact v1
  exact sY.1 this
 rw[e,Nat.or_comm, <-g0o c, <-e,wY,sV v0,sV a,Int.add_comm]
def LV {l:Wf} {i:Int} (a:0<=i) (b:i<(l.length:Int)):nv (l.take (i+1).toNat)=nv (l.take i.toNat)+4294967296^i.toNat*(gx 0 l i).toNat:=by
 rw[(ω:(i+1).toNat=i.toNat+1),rP,H1 (d:=(0:Int)) a b,g1k,Rz,qZ,tI ω];simp[nv]
def X0 {l:Wf} {i:Int} (a:0<=i) (b:i<(l.length:Int)):l.drop i.toNat=gx 0 l i::l.drop (i+1).toNat:=by
 have h:=H1 (d:=(0:Int)) a b;have a:i.toNat<l.length:=ω
 rw[qM a]at h;rw[xO a,(ω:(i+1).toNat=i.toNat+1)];congr 1;exact xQ h
def kJ {a b:Wf} (f:A9 a) (_:A9 b) (r:a.length=b.length) {i:Int} (c:0<=i) (d:i<(a.length:Int)) (j:a.drop (i+1).toNat=b.drop (i+1).toNat) (t:gx 0 a i<gx 0 b i):nv a<nv b:=by
 have k:nv a=nv (a.take i.toNat)+4294967296^i.toNat*nv (a.drop i.toNat):=by
  conv=>lhs;rw[<-uE i.toNat a,Rz,qZ,tI ω]
 have n:nv b=nv (b.take i.toNat)+4294967296^i.toNat*nv (b.drop i.toNat):=by
  conv=>lhs;rw[<-uE i.toNat b,Rz,qZ,tI ω]
 have s:=Uz f c d;have g:nv (a.drop i.toNat)+1<=nv (b.drop i.toNat):=by
  rw[X0 c d,X0 c ω,j];simp only[nv];omega
 have o:nv (a.take i.toNat)<4294967296^i.toNat:=by
  have:=Gy (l:=a.take i.toNat) λx hx=>f x (rO hx)
  rwa[qZ,tI ω]at this
 have h:=sI (4294967296^i.toNat) g;rw[tD,xF]at h;omega
def EB {m n:Nat} (h:(nc m).length<(nc n).length):m<n:=by
 rcases sH m n with a|a
 . exact a
 have:=K9 a;omega
def Vd:nc 1= [1]:=by rw[QB δ];simp[R3]
def C3r:nv [1]=1:=rfl
def kI:nv []=0:=rfl
def fS (n:Nat):Dg n n=0:=by simp[Dg]
def Ou {m n:Nat} (h:m<n):Dg m n= -1:=by simp[Dg,h]
def VL {m n:Nat} (h:n<m):Dg m n=1:=by
 unfold Dg;rw[qL ω,qR h]
def YS {m n:Nat} :Dg m n=0↔m=n:=by
 unfold Dg;split
 . omega
 split<;>omega
def P6 (v:Int):iv (ic v)=v:=by
 unfold iv ic;simp only[rU,F6];split<;>omega
def B3g {neg:Bool} {m:Nat} :ic (iv (neg,nc m))=(neg&&decide (m≠0),nc m):=by
 unfold ic iv;simp only[F6];cases neg
 . simp
 simp only[g0l,wG,g0n,vR];constructor
 . omega
 congr 1;omega
def C5w {x:Lb} :ic (iv x)=(x.1&&decide (nv x.2≠0),nc (nv x.2)):=by
 have:iv x=iv (x.1,nc (nv x.2)):=by unfold iv;simp only[F6]
 rw[this,B3g]
def C4d (k:Int):nv (ri k).2=1:=rfl
def QN (k:Int):rc (k:Rat)=ri k:=by
 unfold rc ri;rw[g2v,g2u,Vd]
def MR (k:Int):rv (ri k)=(k:Rat):=by
 unfold rv;rw[C4d];show mkRat (iv (ic k)) 1= _;rw[P6];exact Rat.mkRat_one k
def H6 (q:Rat):rv (rc q)=q:=by
 unfold rv rc;simp only[P6,F6];exact g1l q
def B9s (x:C7):C4f x=(rv x).num.sign:=by
 unfold C4f rv;split
 . rename_i h;rw[h,yS];rfl
 rename_i h;rw[Rat.num_mkRat,qL h];have b:(0:Int)<(((nv x.2).gcd (iv x.1).natAbs:Nat):Int):=by
  have:=g1y (iv x.1).natAbs (tF h);omega
 have c:(((nv x.2).gcd (iv x.1).natAbs:Nat):Int)∣iv x.1:=yA.2 (yO ..);obtain⟨d,a⟩:=c;generalize (((nv x.2).gcd (iv x.1).natAbs:Nat):Int)=g at b a;rw[a,xW _ ω,g4j,uW b,Int.one_mul]
def Ot {x:Int} {d:Nat} (a:d≠0):(mkRat x d).num=x/((d.gcd x.natAbs:Nat):Int)/\(mkRat x d).den=d/d.gcd x.natAbs:=by
 rw[Rat.num_mkRat,Rat.den_mkRat,qL a,qL a];exact⟨rfl,rfl⟩
def dg (l:Wf) (i:Nat):Nat:=(l.getD i 0).toNat
def J9 (l:Wf) (i:Nat):nv (l.take (i+1))=nv (l.take i)+4294967296^i*dg l i:=by
 unfold dg;by_cases h:i<l.length
 . have:=LV (l:=l) (i:=(i:Int)) ω ω;rw[(ω:((i:Int)+1).toNat=i+1),qQ]at this;rw[this,K6 ω ω,qQ]
 rw[qP ω,qP ω,qE,rT ω];simp
def O4 {l:Wf} (h:A9 l) (i:Nat):dg l i<=4294967295:=by
 unfold dg;by_cases a:i<l.length
 . rw[qE,qM a];have:=h l[i] (wC a);unfold jZ at this;simp only[wF];omega
 rw[qE,rT ω];simp
def Gc {l:Wf} (h:A9 l) {i:Int} (a:0<=i) (b:i<(l.length:Int)):gx 0 l i=(dg l i.toNat:Int):=by
 have:=Uz h a b;unfold dg;rw[<-K6 (d:=(0:Int)) a b];omega
def Z7 {l:Wf} (h:A9 l) {i:Nat} :l.getD i 0=(dg l i:Int):=by
 unfold dg;by_cases a:i<l.length
 . have:=h l[i] (wC a);unfold jZ at this;rw[qE,qM a];simp only[wF];omega
 rw[qE,rT ω];rfl
def Qe {l:Wf} {i:Nat} (h:l.length<=i):dg l i=0:=by
 unfold dg;rw[qE,rT h];rfl
def U3 {l:Wf} {i:Nat} {v:Int} (h:i<l.length):nv ((l.set i v).take (i+1))=nv (l.take i)+4294967296^i*v.toNat:=by
 rw[J9,zD (qV _)];unfold dg;rw[qE,sU h];rfl
def Kj:∀ {l:Wf} {k:Nat} {v:Int},k<l.length->nv (l.set k v)+4294967296^k*dg l k=nv l+4294967296^k*v.toNat
 | [],_,_,h=>by simp at h
 |a::l,0,v,_=>by simp[nv,dg];omega
 |a::l,k+1,v,h=>by
  have d:=Kj (l:=l) (k:=k) (v:=v) (by simpa using h);have e:dg (a::l) (k+1)=dg l k:=by simp[dg]
  rw[e];simp only[List.set_cons_succ,nv,sC];generalize nv (l.set k v)=A at*;have b:4294967296^k*4294967296*dg l k=4294967296*(4294967296^k*dg l k):=by rw[sN (4294967296^k) 4294967296,sM]
  have c:4294967296^k*4294967296*v.toNat=4294967296*(4294967296^k*v.toNat):=by rw[sN (4294967296^k) 4294967296,sM]
  rw[b,c,uS,uS, <-tD, <-tD,d]
def fK {l:Wf} {k:Nat} {v:Int} (h:A9 l) (b:jZ v):A9 (l.set k v):=λx a=>by
 rcases List.mem_or_eq_of_mem_set a with a|a
 . exact h x a
 rw[a];exact b
def Zl {l:Wf} {k i:Nat} {v:Int} (a:k<l.length):dg (l.set k v) i=if i=k then v.toNat else dg l i:=by
 unfold dg;rw[qE,vV];by_cases h:k=i
 . subst h;rw[qR rfl,qR a,qR rfl];rfl
 rw[qL h,qL (λe=>h e.symm),qE]
def LJ (n i:Nat):dg (List.replicate n 0) i=0:=by
 unfold dg;rw[qE,uD];split<;>rfl
def SF {l:Wf} {i:Nat} (h:∀j,i<=j->dg l j=0):nv (l.take i)=nv l:=by
 have b:∀k,nv (l.take (i+k))=nv (l.take i):=by
  intro k
  induction k with
  |zero=>rfl
  |succ k a=>rw[<-uS,J9,a,h (i+k) ω,wQ,tK]
 rw[<-b l.length,qP ω]
def fW {P A B o c a b s d:Nat} (h:o+P*c=A+B) (f:s+4294967296*d=c+a+b):(o+P*s)+(P*4294967296)*d=(A+P*a)+(B+P*b):=by
 have:=sA (P* ·) f;simp only[tD, <-sM]at this;omega
def YT {P A B o c a b s d:Nat} (h:A+P*c=o+B) (f:a+4294967296*d=s+b+c):(A+P*a)+(P*4294967296)*d=(o+P*s)+(B+P*b):=by
 have:=sA (P* ·) f;simp only[tD, <-sM]at this;omega
def A9h {a b:Wf} (c:A9 a) (d:A9 b):nv a+nv b<4294967296^(max a.length b.length+1):=by
 have f:=Gy c;have h:=Gy d;have g:4294967296^a.length<=4294967296^(max a.length b.length):=rZ δ (g2q ..);have i:4294967296^b.length<=4294967296^(max a.length b.length):=rZ δ (g4x ..);rw[sC];generalize 4294967296^(max a.length b.length)=P at*;omega
def IB {P c x:Nat} (h:P*c<=x) (a:x<P):c=0:=by
 rcases vN c with a|a
 . exact a
 have:=sI P a;omega
def Kh (l:Wf):iv (false,l)=(nv l:Int):=rfl
def YB (l:Wf):iv (true,l)= -(nv l:Int):=rfl
def B3t (b:Bool) (l:Wf):iv (!b,l)= -iv (b,l):=by
 cases b
 . rfl
 show(nv l:Int)= - -(nv l:Int);omega
def De (v:Int):(ic v).2.length=(nc v.natAbs).length:=rfl
def A2o:ic 1=(false,[1]):=by unfold ic;rw[show(1:Int).natAbs=1 from rfl,Vd];rfl
def jL:ic 0=(false,[]):=by unfold ic;rw[show(0:Int).natAbs=0 from rfl,R3];rfl
def A6y:rc 0=((false,[]),[1]):=by
 unfold rc;rw[Rat.zero_num,Rat.zero_den,jL,Vd]
def nJ {a:Lb} {b:Lb} (h:iv b=1):Oc a b=((iv a:Int):Rat):=by
 unfold Oc;rw[h];have:=g0k (iv a) 1;rw[show((1:Nat):Int)=1 from rfl]at this;rw[this];exact Rat.mkRat_one _
def A8n {a:Lb} {b:Lb} (h:iv b=0):Oc a b=0:=by
 unfold Oc;rw[h,Rat.divInt_zero]
def B9u (x:C7):Oc x.1 (false,x.2)=rv x:=by
 unfold Oc rv;rw[Kh,g0k]
structure cB (U V v1 v2 t u2 P:Nat):Prop where
 pos:0<P
 v1p:0<v1
 v1b:v1<4294967296
 v2b:v2<4294967296
 u2b:u2<4294967296
 vlo:(v1*4294967296+v2)*P<=V
 vhi:V<(v1*4294967296+v2+1)*P
 ulo:(t*4294967296+u2)*P<=U
 uhi:U<(t*4294967296+u2+1)*P
 lt:U<V*4294967296
variable {U V v1 v2 t u2 P:Nat}
def cB.vpos (h:cB U V v1 v2 t u2 P):0<V:=by
 have a:=h.vlo;have a:0<(v1*4294967296+v2)*P:=g3m (by have:=h.v1p;omega) h.pos;omega
def cB.quo (h:cB U V v1 v2 t u2 P):U/V<4294967296:=by
 rw[tU h.vpos,sN];exact h.lt
def A6c {a b c P Q:Nat} (f:0<P) (h:a*P<=Q) (g:Q<(b+1)*P) (d:c<=a):c<=b:=by
 have f:c*P<=a*P:=rL _ d;have d:c*P<(b+1)*P:=ω
 have:=xL d;omega
def cB.top (h:cB U V v1 v2 t u2 P):t*4294967296+u2<(v1*4294967296+v2+1)*4294967296:=by
 have a:=h.ulo;have a:=h.lt;have a:=rL 4294967296 (wI h.vhi);have a:(t*4294967296+u2)*P<((v1*4294967296+v2+1)*4294967296)*P:=by
  have b:V*4294967296<(v1*4294967296+v2+1)*P*4294967296:=xE h.vhi δ;rw[zU];omega
 exact xL a
def cB.t_le (h:cB U V v1 v2 t u2 P):t<=v1*4294967296+v2:=by
 have:=h.top;omega
def cB.est (h:cB U V v1 v2 t u2 P):U/V*v1<=t:=by
 have a:U/V*V<=U:=zF U V;have b:U/V*(v1*4294967296+v2)*P<=U:=by
  rw[sM];exact qX (sI _ h.vlo) a
 have a:U/V*(v1*4294967296+v2)<=t*4294967296+u2:=A6c h.pos b h.uhi (qV _);rw[tD, <-sM]at a;have:=h.u2b;omega
def cB.dec (h:cB U V v1 v2 t u2 P) {d r:Nat} (f:t=d*v1+r) (a:U/V<=d) (b:4294967296<=d\/r*4294967296+u2<d*v2):U/V+1<=d:=by
 rcases sH (U/V) d with a|a
 . omega
 exfalso;have c:U/V=d:=ω
 rcases b with b|b
 . have:=h.quo;omega
 have a:d*V<=U:=by rw[<-c];exact zF U V
 have b:d*(v1*4294967296+v2)*P<=U:=by
  rw[sM];exact qX (sI _ h.vlo) a
 have a:d*(v1*4294967296+v2)<=t*4294967296+u2:=A6c h.pos b h.uhi (qV _);rw[tD, <-sM,f,uX]at a;omega
def cB.near (h:cB U V v1 v2 t u2 P) {d r:Nat} (c:t=d*v1+r) (g:d<4294967296) (a:d*v2<=r*4294967296+u2):d<=U/V+1:=by
 have a:=h.ulo;have b:d*(v1*4294967296+v2)<=t*4294967296+u2:=by
  rw[c,uX,tD, <-sM];omega
 have c:d*(v1*4294967296+v2)*P<=U:=qX (rL _ b) a;have a:d*V<=d*((v1*4294967296+v2+1)*P):=sI _ (wI h.vhi);have b:d*((v1*4294967296+v2+1)*P)=d*(v1*4294967296+v2)*P+d*P:=by
  rw[<-sM,tD d,xF,uX]
 have f:d*P<V:=by
  have i:d*P<4294967296*P:=xE g h.pos;have g:4294967296*P<=(v1*4294967296+v2)*P:=rL _ (by have:=h.v1p;omega);have:=h.vlo;omega
 have g:d*V<U+V:=yC (qX a (Nat.le_of_eq b)) (Nat.add_lt_add_of_le_of_lt c f);rcases vN d with a|a
 . rw[a];exact rS _
 have a:(d-1)*V<U:=by
  have:d*V=(d-1)*V+V:=by
   conv=>lhs;rw[(ω:d=d-1+1),uX,xG]
  omega
 have:=(vL h.vpos).2 (wI a);omega
def cB.out (h:cB U V v1 v2 t u2 P) {d r:Nat} (c:t=d*v1+r) (b:4294967296<=r) (a:U/V<=d):d<4294967296/\d*v2<=r*4294967296+u2:=by
 have a:=h.t_le;have a:=h.v2b;have b:d<4294967296:=by
  rcases sH d 4294967296 with a|a
  . exact a
  have:=rL v1 a;rw[sN 4294967296]at this;omega
 refine⟨b,?_⟩;have a:d*v2<=4294967295*4294967295:=uJ ω ω;omega
def CY:M9 0=0:=rfl
def iS (n:Nat):n<2^M9 n:=by
 unfold M9;split
 . rename_i h;subst h;decide
 exact Nat.lt_log2_self
def CX {n:Nat} (h:n≠0):2^(M9 n-1)<=n/\1<=M9 n:=by
 unfold M9;rw[qL h,Nat.add_sub_cancel];exact⟨Nat.log2_self_le h,ω⟩
def B7l {n k:Nat} (a:2^k<=n) (b:n<2^(k+1)):M9 n=k+1:=by
 have c:0<2^k:=tV δ;unfold M9;rw[qL ω];congr 1;exact(Nat.log2_eq_iff ω).2 ⟨a,b⟩
def LH {n k:Nat} (h:2^k<=n):M9 n=M9 (n/2^k)+k:=by
 have a:0<2^k:=tV δ;have c:n/2^k≠0:=by
  have:1<=n/2^k:=(vL a).2 ω;omega
 obtain⟨b,d⟩:=CX c;have c:=iS (n/2^k);have e:M9 (n/2^k)+k=(M9 (n/2^k)-1+k)+1:=ω
 rw[e];apply B7l
 . rw[uZ];have:=(vL a).1 b;exact this
 rw[(ω:M9 (n/2^k)-1+k+1=M9 (n/2^k)+k),uZ];exact(tU a).1 c
def XA (p q:Rat):Int:=if p<q then -1 else if q<p then 1 else 0
def XB {a b:Int} {c d:Nat} (f:c≠0) (g:d≠0):XA (mkRat a c) (mkRat b d)=N3 (a*d) (b*c):=by
 have h:∀ {a b:Int} {c d:Nat},c≠0->d≠0->(mkRat a c<mkRat b d↔a*d<b*c):=λ{a b c d} f g=>by
  have i:(0:Rat)<(c:Rat):=Rat.natCast_pos.2 (tF f);have j:(0:Rat)<(d:Rat):=Rat.natCast_pos.2 (tF g);rw[yW,yW,Rat.div_lt_iff i,uQ,uF,yX _ (c:Rat), <-uF, <-uQ,Rat.lt_div_iff j];have:(a:Rat)*(d:Rat)=((a*(d:Int):Int):Rat):=by rw[g0r];rfl
  have i:(b:Rat)*(c:Rat)=((b*(c:Int):Int):Rat):=by rw[g0r];rfl
  rw[this,i,Rat.intCast_lt_intCast]
 unfold XA N3;simp only[h f g,h g f]
def A8d {p q:Rat} (h:p.num.sign≠q.num.sign):XA p q=N3 p.num.sign q.num.sign:=by
 have l:=g3q p;have n:=g3q q;have e:XA p q=N3 (p.num*q.den) (q.num*p.den):=by
  have:=XB (a:=p.num) (b:=q.num) p.den_nz q.den_nz;rwa[g1l,g1l]at this
 rw[e];have j:(p.num*(q.den:Int)).sign=p.num.sign:=by rw[g4j,uW (ω:(0:Int)<q.den),Int.mul_one]
 have k:(q.num*(p.den:Int)).sign=q.num.sign:=by rw[g4j,uW (ω:(0:Int)<p.den),Int.mul_one]
 rw[<-j, <-k]at h|-;generalize p.num*(q.den:Int)=x at*;generalize q.num*(p.den:Int)=y at*;have i:∀z:Int,(z<0/\z.sign= -1)\/(z=0/\z.sign=0)\/(0<z/\z.sign=1):=λz=>by
  rcases zX z 0 with h|h|h
  . exact .inl ⟨h,xJ h⟩
  . exact .inr (.inl ⟨h,by rw[h];rfl⟩)
  exact .inr (.inr ⟨h,uW h⟩)
 unfold N3;rcases i x with⟨f,c⟩ | ⟨f,c⟩ | ⟨f,c⟩<;>rcases i y with⟨g,d⟩ | ⟨g,d⟩ | ⟨g,d⟩<;>rw[c,d]at h|- <;>first|exact absurd rfl h| (split<;>(try split)<;>(try split)<;>(try split)<;>omega)
end Go.Proofs.YtdbnghliccifcaaGreat
