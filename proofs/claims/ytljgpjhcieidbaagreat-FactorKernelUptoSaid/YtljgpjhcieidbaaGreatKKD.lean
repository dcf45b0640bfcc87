/- Part. -/
import Derived.Test.YtljgpjhcieidbaaGreatKKC
set_option linter.all false
namespace Go.Vc
open Go Go.RowKit Go.Gw
open Go.IntKind (i64 u64 u32)
def C4.trans {a b c:St} (h:C4 a b) (k:C4 b c):C4 a c:=by
 refine⟨qY h.ct k.ct,fun s d g=> ?_,fun q d g=> ?_, ?_⟩
 . have e:=k.s s d (qY g h.ct);rw[e]at d g⊢;exact h.s s d g
 . have e:=k.l q d (qY g h.ct);rw[e]at d g⊢;exact h.l q d g
 . exact h.f.trans h.ct k.f
def C4.setS (b:St) (d:Nat) (x:DV):C4 b (b.setS d x):=by
 refine⟨uW _,fun s c a=> ?_,fun _ _ _=>rfl,Z8.refl _ _⟩;rw[St.eS_setS]at c a⊢;split at a
 . simp only at a;omega
 . rename_i g;rw[qH g];cases f:DU d (b.S s)with
   |true=>simp only[f,qW]at a;omega
   |false=>rfl
def C4.setL (b:St) (k:Nat) (x:LC):C4 b (b.setL k x):=by
 refine⟨uW _,fun _ _ _=>rfl,fun q c a=> ?_,Z8.refl _ _⟩;rw[St.eL_setL]at c a⊢;split at a
 . simp only at a;omega
 . rename_i d;rw[qH d]
def C4.newL (b:St) (x:LC):C4 b (b.newL x):=by
 refine⟨uW _,fun _ _ _=>rfl,fun q c a=> ?_,Z8.refl _ _⟩;rw[St.eL_newL]at c a⊢;split at a
 . simp only at a;omega
 . rename_i d;rw[qH d]
def O3.mapV (n:Nat) (p:DV->Bool) (f:DV->DV):∀l,O3 n l (Vc.mapV p f (n+1) l)
 | []=>trivial
 | (s,x)::l=>by
  refine⟨rfl,fun h=> ?_,O3.mapV n p f l⟩;cases a:p x.2 with
  |true=>simp only[a,qW]at h;omega
  |false=>rfl
def Z8.mapV (n:Nat) (p:DV->Bool) (f:DV->DV):∀l,Z8 n l (l.map (Vc.mapV p f (n+1)))
 | []=>trivial
 |x::l=>⟨O3.mapV n p f x,Z8.mapV n p f l⟩
def C4.freeze (b:St) (k:Nat) (c:C):C4 b (b.freeze k c):=by
 refine⟨uW _,fun s f a=> ?_,fun q f a=> ?_,Z8.mapV _ _ _ _⟩
 . rw[St.eS_freeze]at f a⊢;cases d:Xy k (b.S s)with
   |true=>simp only[d,qW]at a;omega
   |false=>rfl
 . rw[St.eL_freeze]at f a⊢;cases d:bX k (if q=k then(b.ct+1,LC.none)else b.eL q).2 with
   |true=>simp only[d,qW]at a;omega
   |false=>
    simp only[d,rJ]at a⊢;split at a
    . simp only at a;omega
    . rename_i g;rw[qH g]
def C4.settle (a:St) (cs:List C):C4 a (settle a cs):=by
 induction cs generalizing a with
 |nil=>exact C4.refl _
 |cons c cs b=>
  cases c with
  |row k=>
   simp only[Vc.settle];cases g:a.L k with
   |row t e l=>
    cases Nat.ble a.nm k with
    |true=>exact(C4.freeze a k _).trans (b _)
    |false=>exact b a
   |rows t e f h al d=>
    cases d with
    |some _=>exact b a
    |none=>
     cases Nat.ble a.nm k with
     |true=>exact(C4.freeze a k _).trans (b _)
     |false=>exact b a
   | _=>exact b a
  |win k _ _ _=>
   simp only[Vc.settle];cases d:a.L k with
   |row t e l=>
    cases Nat.ble a.nm k with
    |true=>exact(C4.freeze a k _).trans (b _)
    |false=>exact b a
   | _=>exact b a
  |mp k=>
   simp only[Vc.settle];cases d:a.L k with
   |map _ _ _ _ _=>
    cases Nat.ble a.nm k with
    |true=>exact(C4.freeze a k _).trans (b _)
    |false=>exact b a
   | _=>exact b a
  | _=>exact b a
def C4.settleO (a:St) (x:Operand):C4 a (settleO a x):=by
 unfold Vc.settleO;split
 . exact C4.settle _ _
 . exact C4.refl _
def C4.settleP (a:St) (b:List (Nat×Operand)):C4 a (settleP a b):=by
 induction b generalizing a with
 |nil=>exact C4.refl _
 |cons x b c=>exact(C4.settleO a x.2).trans (c _)
def C4.thawS (a:St) (s:SV):C4 a (thawS a s):=by
 unfold Vc.thawS;split
 . unfold thaw;split
   . cases Nat.ble a.nm _ with
     |true=>exact(C4.setL a _ _).trans (C4.setL _ _ _)
     |false=>exact C4.refl a
   . exact C4.refl a
 . exact C4.refl a
def C4.stillB (cx:Cx) (a:St) (k:Nat):C4 a (stillB cx a k):=by
 unfold Vc.stillB;split
 . rename_i T b _;cases Nat.ble a.nm k with
   |false=>exact C4.refl _
   |true=>
    simp only[qW];split
    . split
      . split
        . exact((C4.settle a b).trans (C4.setL _ _ _)).trans (C4.setL _ _ _)
        . exact C4.refl _
      . exact C4.refl _
    . exact C4.refl _
 . exact C4.refl _
def C4.stillL (cx:Cx):∀(b:List Nat) (a:St),C4 a (b.foldl (Vc.stillB cx) a)
 | [],a=>C4.refl a
 |k::b,a=>(C4.stillB cx a k).trans (C4.stillL cx b _)
def C4.stillF (cx:Cx):∀(a:St) (as:List AM) (ss:List SV),C4 a (stillF cx a as ss)
 |a,[],_=>C4.refl a
 |a,_:: _,[]=>C4.refl a
 |a,b::as,s::ss=>by
  simp only[Vc.stillF];split
  . exact(C4.stillL cx _ a).trans (C4.stillF cx _ as ss)
  . exact C4.stillF cx a as ss
def C4.settleA:∀(as:List AM) (ss:List SV) (a:St),C4 a (settleA a as ss)
 | [],_,a=>C4.refl a
 | .val _ _::as,s::ss,a=>(C4.settle a s.cs).trans (C4.settleA as ss _)
 | .row _ _::as,s::ss,a=>(C4.thawS a s).trans (C4.settleA as ss _)
 | .rows _ _ _::as,_::ss,a=>C4.settleA as ss a
 | .rows _ _ _:: _,[],a=>C4.refl a
 | .box _ _::as,_::ss,a=>C4.settleA as ss a
 | .fn _ _ _::as,_::ss,a=>C4.settleA as ss a
 | .val _ _:: _,[],a=>C4.refl a
 | .row _ _:: _,[],a=>C4.refl a
 | .box _ _:: _,[],a=>C4.refl a
 | .fn _ _ _:: _,[],a=>C4.refl a
def C4.dropM:∀(b:List Nat) (a:St),C4 a (dropM a b)
 | [],a=>C4.refl a
 |k::b,a=>(C4.setL a k _).trans (C4.dropM b _)
def C4.addM:∀(as:List AM) (o:Mn as) (b:List Nat) (a:St),C4 a (addM as o b a)
 | [],_,b,a=>by cases b<;>exact C4.refl a
 | .row t e::as,o,[],a=>C4.refl a
 | .box t e::as,o,[],a=>C4.refl a
 | .row t e::as,o,k::b,a=>(C4.setL a k _).trans (C4.addM as o.2 b _)
 | .box t e::as,o,k::b,a=>(C4.setL a k _).trans (C4.addM as o.2 b _)
 | .val _ _::as,o,b,a=>C4.addM as o b a
 | .fn _ _ _::as,o,b,a=>C4.addM as o b a
 | .rows _ _ _::as,o,[],a=>C4.refl a
 | .rows _ _ _::as,o,k::b,a=>(C4.setL a k _).trans (C4.addM as o.2 b _)
def C4.place:∀(rs:List RT) (r:Aq rs) (a:St),C4 a (F7 rs r a).2
 | [],_,a=>C4.refl a
 | .val _ _::rs,r,a=>C4.place rs r.2 a
 | .own t e::rs,r,a=>(C4.newL a (.row t e r.1)).trans (C4.place rs r.2 _)
 | .obox T t::rs,r,a=>(C4.newL a (.box T (explode t r.1))).trans (C4.place rs r.2 _)
 | .rows t e b::rs,r,a=>(C4.newL a (.rows t e b r.1 [] none)).trans (C4.place rs r.2 _)
def C4.boxS (a:St) (d:Tmp) (T:TypeId) (cs:List C):C4 a (boxS a d T cs):=(C4.newL _ _).trans (C4.setS _ _ _)
def C4.rowS (a:St) (d:Tmp) (t:Ty) (e:TypeId) (l:List t.den):C4 a (rowS a d t e l):=(C4.newL _ _).trans (C4.setS _ _ _)
def C4.dropR (a:St) (c:C):C4 a (dropR a c):=by
 cases c with
 |row k=>exact C4.setL _ _ _
 | _=>exact C4.refl _
section
variable {cx:Cx} {sp:G4} {all:List Oper} {k k':St->Prop} {st:St}
def C4.detO (st:St) (x:Operand):C4 st (detO st x):=by
 have c:∀(b:Bool) (a:St),C4 st a->C4 st (bif b then a else st):=by
  intro b a h;cases b
  . exact C4.refl _
  . exact h
 unfold Vc.detO;split
 . unfold B4m;split
   . split
     . split
       . split
         . exact c _ _ ((C4.setL _ _ _).trans (C4.setL _ _ _))
         . exact C4.refl _
       . exact C4.refl _
     . exact C4.refl _
   . exact C4.refl _
 . exact C4.refl _
def cO {d:Tmp} {T:TypeId} {x:Operand} {a:St} (h:cM cx st d T x=some a):C4 st a:=by
 simp only[cM,qI,bind_some]at h;obtain⟨ti,_,c,_,h⟩:=h;split at h
 . split at h
   . obtain⟨_,h⟩:=E4 h;cases h;exact((C4.newL _ _).trans (C4.setL _ _ _)).trans (C4.setS _ _ _)
   . cases h
 . cases h
def A5m {d:Tmp} {T:TypeId} {x y:Operand} {a:St} (h:kS cx st d T x y=some a):C4 st a:=by
 simp only[kS,qI,bind_some]at h;obtain⟨ti,_,t,_,b,_,c,_,f,_,h⟩:=h;cases b with
 |row k=>
  simp only at h;split at h
  . split at h
    . obtain⟨_,h⟩:=E4 h;cases h;exact(C4.setL _ _ _).trans (C4.setS _ _ _)
    . cases h
  . cases h
 | _=>simp at h
def A9n {d:Tmp} {op:Op} {φ:Option Prop} {f:St} (h:A9m cx st d op=some (φ,f)):C4 st f:=by
 unfold A9m at h;split at h
 . simp only[qI,bind_some]at h;obtain⟨s,_,h⟩:=h;obtain⟨_,h⟩:=E4 h;cases h;exact C4.boxS _ _ _ _
 . simp only[qI,bind_some]at h;obtain⟨s,_,h⟩:=h;cases h;exact C4.boxS _ _ _ _
 . simp only[qI,bind_some]at h;obtain⟨ti,_,t,_,n,_,o,_,h⟩:=h;obtain⟨_,h⟩:=E4 h;cases h;exact(C4.settleP _ _).trans (C4.rowS _ _ _ _ _)
 . simp only[qI,bind_some]at h;obtain⟨ti,_,t,_,l,_,k,_,h⟩:=h;cases c:ti.rows with
   |true=>
    simp only[c,qW,qL]at h;obtain⟨g,a,h⟩:=h;cases h;unfold VM at a;split at a
    . simp only[qL]at a;obtain⟨_,_,a⟩:=a;subst a;exact(C4.newL _ _).trans (C4.setS _ _ _)
    . cases a
   |false=>
    simp only[c,rJ]at h;obtain⟨_,h⟩:=E4 h;cases h;exact C4.rowS _ _ _ _ _
 . split at h
   . obtain⟨_,h⟩:=E4 h;simp only[B8i,qI,bind_some]at h;obtain⟨ti,_,t,_,i,_,j,_,l,_,r,_,h⟩:=h;obtain⟨_,h⟩:=E4 h;cases h;exact(C4.detO _ _).trans ((C4.dropR _ _).trans (C4.rowS _ _ _ _ _))
   . cases h
 . simp only[qI,bind_some]at h;obtain⟨ti,_,h⟩:=h;split at h
   . cases h;exact(C4.newL _ _).trans (C4.setS _ _ _)
   . simp only[qL]at h;obtain⟨_,_,h⟩:=h;cases h;exact(C4.newL _ _).trans (C4.setS _ _ _)
   . cases h
 . split at h
   . simp only[qI,bind_some]at h;obtain⟨ti,_,h⟩:=h;split at h
     . simp only[bind_some]at h;obtain⟨_,_,_,_,h⟩:=h;cases h;exact C4.setS _ _ _
     . cases h
   . cases h
 . simp only[qL]at h;obtain⟨g,b,h⟩:=h;cases h;exact cO b
 . simp only[qI,bind_some]at h;obtain⟨ti,_,h⟩:=h;split at h
   . simp only[bind_some]at h;obtain⟨_,_,_,_,h⟩:=h;cases h;exact(C4.settleO _ _).trans ((C4.newL _ _).trans (C4.setS _ _ _))
   . cases h
 . simp only[qI,bind_some]at h;obtain⟨_,_,h⟩:=h;split at h
   . split at h
     . obtain⟨_,h⟩:=E4 h;cases h;exact C4.setS _ _ _
     . cases h
   . cases h
 . split at h
   . simp only[qL]at h;obtain⟨g,b,h⟩:=h;cases h;exact A5m b
   . cases h
 . cases h
def pY {T:TypeId} {x:Operand} {a:St} (h:UE cx st T x=some a):C4 st a:=by unfold UE at h;cases h
def VO {T:TypeId} {m x y:Operand} {a:St} (h:MV cx st T m x y=some a):C4 st a:=by
 simp only[MV,qI,bind_some]at h;obtain⟨ti,_,c,_,b,_,d,_,h⟩:=h;split at h
 . simp only[bind_some]at h;obtain⟨_,_,_,_,_,_,h⟩:=h;cases h;exact(C4.settleO _ _).trans (C4.setL _ _ _)
 . cases h
def A1w {ti:TI} {s:SV} {k sz i off:Nat} {a:St} (h:iN ti st s k sz i off=some a):C4 st a:=by
 unfold iN at h;split at h
 . obtain⟨_,h⟩:=E4 h;split at h
   . cases h;exact C4.setL _ _ _
   . cases h
 . split at h
   . split at h
     . obtain⟨_,h⟩:=E4 h;split at h
       . cases h;exact C4.setL _ _ _
       . cases h
     . cases h
   . cases h
 . cases h
def A1x {T:TypeId} {p v:Operand} {φ:Option Prop} {a:St} (h:XP cx st T p v=some (φ,a)):C4 st a:=by
 simp only[XP,qI,bind_some]at h;obtain⟨ti,_,c,_,h⟩:=h;split at h
 . simp only[bind_some]at h;obtain⟨s,_,h⟩:=h;split at h
   . obtain⟨_,h⟩:=E4 h;cases h;exact C4.setL _ _ _
   . cases h
 . split at h
   . split at h
     . obtain⟨_,h⟩:=E4 h;unfold Vc.attach at h;split at h
       . split at h
         . obtain⟨_,h⟩:=E4 h;cases h;exact(((C4.setL _ _ _).trans (C4.setL _ _ _)).trans (C4.setL _ _ _)).trans (C4.setL _ _ _)
         . cases h
       . cases h
     . cases h
   . simp only[bind_some,qL]at h;obtain⟨s,_,d,b,h⟩:=h;cases h;exact(C4.settleO _ _).trans (A1w b)
 . cases h
def W9 {sh:Bool} {mu:List Nat} :∀ {as:List AM} {ss:List SV} {k k':A4 as->Prop},L9 cx sp st mu sh as ss k->(∀x,k x->k' x)->L9 cx sp st mu sh as ss k'
 | [],[],_,_,h,b=>b _ h
 | [],_:: _,_,_,h,_=>h.elim
 |a::r,[],_,_,h,_=>by cases a<;>exact h.elim
 | .val a t::r,s::ss,_,_,h,b=>by
  simp only[L9]at h⊢;split at h
  . exact W9 h fun y=>b _
  . exact h.elim
 | .row t d::r,s::ss,_,_,h,c=>by
  simp only[L9]at h⊢;split at h
  . split at h
    . obtain⟨b,h⟩:=B9 h;simp only[b,qW];exact W9 h fun y=>c _
    . exact h.elim
  . exact h.elim
 | .box t d::r,s::ss,_,_,h,c=>by
  simp only[L9]at h⊢;split at h
  . split at h
    . obtain⟨b,h⟩:=B9 h;simp only[b,qW];exact W9 h fun y=>c _
    . exact h.elim
  . exact h.elim
 | .rows t d f::r,s::ss,_,_,h,c=>by
  simp only[L9]at h⊢;split at h
  . split at h
    . obtain⟨b,h⟩:=B9 h;simp only[b,qW];exact W9 h fun y=>c _
    . exact h.elim
  . exact h.elim
 | .fn j n l::r,s::ss,_,_,h,b=>by
  simp only[L9]at h⊢;split at h
  . split at h
    . obtain⟨c,h⟩:=B9 h;simp only[c,qW];obtain⟨g,i,f,h⟩:=h;exact⟨g,i,f,W9 h fun y=>b _⟩
    . exact h.elim
  . split at h
    . rename_i d;rw[dif_pos d];exact⟨h.1,h.2.1,W9 h.2.2 fun y=>b _⟩
    . exact h.elim
  . exact h.elim
def OH {d:Tmp} {s:A9} {ss:List SV} (h:FH cx sp st d s ss k) (g:∀f,C4 st f->k f->k' f):FH cx sp st d s ss k':=by
 unfold FH at h⊢;split at h
 . obtain⟨i,h⟩:=B9 h;simp only[i,qW];cases j:P7 s.args<;>simp only[j,rJ,qW]at h⊢
   . exact W9 h fun x a=>⟨a.1,fun r c b=>g _ ((C4.place _ _ _).trans (C4.setS _ _ _)) (a.2 r c b)⟩
   . exact W9 h fun x a=>⟨a.1,fun r o c l b n=>g _ ((C4.dropM _ _).trans ((C4.place _ _ _).trans ((C4.addM _ _ _ _).trans (C4.setS _ _ _)))) (a.2 r o c l b n)⟩
 . exact h
def fJ {d:Tmp} {f:Operand} {args:List Operand} (h:AP cx sp st d f args k) (b:∀a,C4 st a->k a->k' a):AP cx sp st d f args k':=by
 unfold AP at h⊢;split at h
 . split at h
   . split at h
     . exact⟨h.1,h.2.1,fun n=>b _ (C4.setS _ _ _) (h.2.2 n)⟩
     . exact h
   . exact h
 . split at h
   . split at h
     . obtain⟨g,h⟩:=B9 h;simp only[g,qW];rename_i s _ _;cases c:s.inl with
       |some o=>
        simp only[c]at h⊢;exact o.step h fun a r ev j=>b _ (ev.trans (C4.setS _ _ _)) j
       |none=>
       simp only[c]at h⊢;cases l:s.shared<;>simp only[l,rJ,qW]at h⊢
       . exact OH h b
       . split at h
         . obtain⟨i,h⟩:=B9 h;simp only[i,qW];exact OH h fun a ev=>b a (((C4.stillF _ _ _ _).trans (C4.settleA _ _ _)).trans ev)
         . exact h
     . exact h
   . exact h
def ZW {ctx:Hy} {t:Tmp} {b:Bool} {d:Tmp} {f:Operand} {args:List Operand} (h:Pt cx sp st ctx t b d f args k) (a:∀l,C4 st l->k l->k' l):Pt cx sp st ctx t b d f args k':=by
 unfold Pt at h⊢;split at h
 . split at h
   . split at h
     . exact⟨h.1,h.2.1,fun x=>a _ (C4.setS _ _ _) (h.2.2 x)⟩
     . exact h
   . exact h
 split at h
 . split at h
   . split at h
     . split at h
       . obtain⟨g,h⟩:=B9 h;simp only[g,qW];exact a _ (C4.setS _ _ _) h
       . exact h
     obtain⟨g,h⟩:=B9 h;simp only[g,qW];rename_i z _ _ _ _;cases s:P7 z.args<;>simp only[s,rJ,qW]at h⊢
     case true=>
      obtain⟨o,h⟩:=B9 h;simp only[o,qW];unfold fI at h⊢;split at h
      . obtain⟨n,h⟩:=B9 h;simp only[n,qW];refine W9 h fun A j=>⟨fun c=>⟨(j.1 c).1,fun r y i u v w=> ?_⟩,fun c=> ?_⟩
        . have:=(j.1 c).2 r y i u v w;split at this
          . exact a _ ((C4.dropM _ _).trans ((C4.place _ _ _).trans ((C4.addM _ _ _ _).trans (C4.setS _ _ _)))) this
          . exact this
        . have:=j.2 c;split at this
          . exact a _ (C4.setS _ _ _) this
          . exact this
      . exact h
     refine W9 h fun A h=>⟨h.1,fun r i=> ?_⟩
     have:=h.2 r i;split at this
     . exact a _ (C4.setS _ _ _) this
     . exact this
   . exact h
 . exact h
def A0p {d:Tmp} {T:TypeId} {m x:Operand} {a:St} (h:VN cx st d T m x=some a):C4 st a:=by unfold VN at h;cases h
def A0d {m s y:Operand} {a:St} (h:UR st m s y=some a):C4 st a:=by unfold UR at h;cases h
def N8 {α:Type} {c:Bool} {a:Option α} {x:α} (h:(bif c then a else none)=some x):a=some x:=by
 cases c with
 |true=>exact h
 |false=>cases h
def C4.giveS (st:St) (k:Nat):C4 st (giveS st k):=by
 unfold Vc.giveS;split
 . split
   . cases Nat.ble st.nm k&&Nat.ble st.nm _ && !(Nat.beq _ k)with
     |true=>exact(C4.setL _ _ _).trans (C4.setL _ _ _)
     |false=>exact C4.refl _
   . exact C4.setL _ _ _
 . exact C4.refl _
def A7l {φ:Option Prop} {b:St} {d:Tmp} {p i:Nat} (a:eC st d p i=some (φ,b)):C4 st b:=by
 unfold eC at a;split at a
 . have a:=N8 a;cases a;exact(((C4.setL _ _ _).trans (C4.newL _ _)).trans (C4.setL _ _ _)).trans (C4.setS _ _ _)
 . cases a
def A6t {φ:Option Prop} {b:St} {p r i:Nat} (a:WY st p r i=some (φ,b)):C4 st b:=by
 unfold WY at a;split at a
 . split at a
   . have a:=N8 a;split at a
     . cases a;exact((C4.setL _ _ _).trans (C4.setL _ _ _)).trans (C4.setL _ _ _)
     . cases a;exact((C4.setL _ _ _).trans (C4.setL _ _ _)).trans (C4.setL _ _ _)
     . cases a
   . cases a
 . cases a
def mY {φ:Option Prop} {b:St} {op:Op} {f:Option Tmp} (a:Nc cx st f op=some (φ,b)):C4 st b:=by
 unfold Nc at a;split at a
 . simp only[qI,bind_some]at a;obtain⟨d,_,ti,_,a⟩:=a;have a:=N8 a;simp only[bind_some]at a;obtain⟨t,_,n,_,l,_,c,_,a⟩:=a;have a:=N8 a;cases a;exact(C4.newL _ _).trans (C4.setS _ _ _)
 . simp only[qI,bind_some]at a;obtain⟨d,_,ti,_,c,_,a⟩:=a;split at a
   . have a:=N8 a;exact(C4.giveS _ _).trans (A7l a)
   . cases a
 . split at a
   . simp only[qI,bind_some]at a;obtain⟨ti,_,c,_,r,_,a⟩:=a;split at a
     . have a:=N8 a;exact A6t a
     . cases a
   . cases a
 . simp only[qI,bind_some]at a;obtain⟨d,_,ti,_,c,_,a⟩:=a;split at a
   . simp only[bind_some]at a;obtain⟨g,_,a⟩:=a;have a:=N8 a;cases a;exact((C4.setL _ _ _).trans (C4.newL _ _)).trans (C4.setS _ _ _)
   . cases a
 . simp only[qI,bind_some]at a;obtain⟨d,_,c,_,a⟩:=a;split at a
   . split at a
     . have a:=N8 a;cases a;exact C4.setS _ _ _
     . cases a
   . cases a
 . split at a
   . simp only[qI,bind_some]at a;obtain⟨ti,_,c,_,k,_,a⟩:=a;split at a
     . simp only[bind_some]at a;obtain⟨g,_,j,_,a⟩:=a;cases a;exact C4.setL _ _ _
     . cases a
   . cases a
 . split at a
   . simp only[qI,bind_some]at a;obtain⟨ti,_,t,_,h,_,i,_,o,_,a⟩:=a;split at a
     . simp only[bind_some]at a;obtain⟨l,_,a⟩:=a;have a:=N8 a;cases a;exact((C4.setL _ _ _).trans (C4.newL _ _)).trans (C4.setS _ _ _)
     . cases a
   . cases a
 . cases a
def A6j {φ:Option Prop} {b:St} {q r i:Nat} (a:VS st q r i=some (φ,b)):C4 st b:=by
 unfold VS at a;split at a
 . split at a
   . split at a
     . have a:=N8 a;cases a;exact((C4.setL _ _ _).trans (C4.setL _ _ _)).trans (C4.setL _ _ _)
     . cases a
   . cases a
 . cases a
def A1o {φ:Option Prop} {b:St} {op:Op} {d:Option Tmp} (a:Yp cx st d op=some (φ,b)):C4 st b:=by
 unfold Yp at a;split at a
 . split at a
   . simp only[qI,bind_some]at a;obtain⟨ti,_,a⟩:=a;have a:=N8 a;simp only[bind_some]at a;obtain⟨t,_,f,_,c,_,a⟩:=a;split at a
     . simp only[bind_some]at a;obtain⟨l,_,a⟩:=a;have a:=N8 a;cases a;exact((C4.setL _ _ _).trans (C4.newL _ _)).trans (C4.setS _ _ _)
     . cases a
   . cases a
 . split at a
   . simp only[qI,bind_some]at a;obtain⟨ti,_,c,_,r,_,a⟩:=a;split at a
     . exact A6j (N8 a)
     . cases a
   . cases a
 . split at a
   . simp only[qI,bind_some]at a;obtain⟨ti,_,a⟩:=a;have a:=N8 a;simp only[bind_some]at a;obtain⟨t,_,f,_,g,_,h,_,i,_,a⟩:=a;split at a
     . simp only[bind_some]at a;obtain⟨j,_,a⟩:=a;have a:=N8 a;cases a;exact(((C4.dropR _ _).trans (C4.setL _ _ _)).trans (C4.newL _ _)).trans (C4.setS _ _ _)
     . cases a
   . cases a
 . cases a
def A0u {φ:Option Prop} {b:St} {op:Op} {c:Option Tmp} (a:FV cx st c op=some (φ,b)):C4 st b:=by
 unfold FV at a;split at a
 . rename_i y d;cases a;exact mY d
 . exact A1o a
def cK {ctx:Hy} {s d:Tmp} {b:Bool} {T:TypeId} {x:Operand} {c:St} (a:cJ cx st ctx s b d T x=some c):C4 st c:=by
 simp only[cJ,qI,bind_some]at a;obtain⟨ti,_,f,_,a⟩:=a;split at a
 . split at a
   . have a:=N8 a;cases a;exact((C4.newL _ _).trans (C4.setL _ _ _)).trans (C4.setS _ _ _)
   . cases a
 . cases a
def A0v {d:Tmp} {p:Nat} (h:cW st d p k) (b:∀a,C4 st a->k a->k' a):cW st d p k':=by
 unfold cW at h⊢;split at h
 . obtain⟨a,h⟩:=bG h;rw[a];exact⟨fun a=>b _ (((C4.setL _ _ _).trans (C4.setL _ _ _)).trans (C4.setS _ _ _)) (h.1 a),fun c y f a=>b _ ((C4.setL _ _ _).trans (C4.setS _ _ _)) (h.2 c y f a)⟩
 . exact h
def gS {d:Tmp} {x:Operand} (h:BG st d x k) (b:∀a,C4 st a->k a->k' a):BG st d x k':=by
 unfold BG at h⊢;split at h
 . split at h
   . exact A0v h b
   . exact h
 . exact h
def GO {o:Oper} (h:ED cx sp all o k st) (a:∀d,C4 st d->k d->k' d):ED cx sp all o k' st:=by
 obtain⟨t,w,y,x,r,u⟩:=o;unfold ED at h⊢;simp only at h⊢;split at h
 . split at h
   . split at h
     . exact E8.2 ⟨(E8.1 h).1,a _ (C4.setS _ _ _) (E8.1 h).2⟩
     . exact h
   split at h
   . rename_i b;exact E8.2 ⟨(E8.1 h).1,a _ (A0u b) (E8.1 h).2⟩
   . rename_i j;clear j;split at h
     . split at h
       . split at h
         . rename_i b;exact E8.2 ⟨(E8.1 h).1,a _ (A1x b) (E8.1 h).2⟩
         . exact h
       . exact h
     . split at h
       . split at h
         . rename_i b;exact a _ (VO b) h
         . exact h
       . exact h
     . split at h
       . split at h
         . rename_i b;exact a _ (VO b) h
         . exact h
       . exact h
     . split at h
       . exact fJ h a
       . exact h
     . split at h
       . rename_i z str v A s;cases str with
         |true=>exact h
         |false=>exact gS h a
       . exact h
     . split at h
       . split at h
         . rename_i b;exact a _ (A0p b) h
         . exact h
       . exact h
     . split at h
       . split at h
         . rename_i b;exact a _ (A0d b) h
         . exact h
       . exact h
     . split at h
       . split at h
         . rename_i b;exact a _ (pY b) h
         . exact h
       . exact h
     . split at h
       . split at h
         . rename_i f;exact E8.2 ⟨(E8.1 h).1,a _ (A9n f) (E8.1 h).2⟩
         . exact h
       . exact h
 . split at h
   . obtain⟨g,h⟩:=B9 h;simp only[g,qW];split at h
     . obtain⟨n,h⟩:=B9 h;simp only[n,qW];split at h
       . obtain⟨l,h⟩:=B9 h;simp only[l,qW];exact E8.2 ⟨(E8.1 h).1,a _ (C4.setS _ _ _) (E8.1 h).2⟩
       . exact h
       . split at h
         . exact ZW h a
         . split at h
           . rename_i c;refine a _ ?_ h;simp only[fC,qI,bind_some]at c;obtain⟨_,_,_,_,_,_,_,_,c⟩:=c;obtain⟨_,c⟩:=E4 c;cases c;exact C4.setS _ _ _
           . exact h
         . split at h
           . rename_i i;exact a _ (cK i) h
           . exact h
         . exact h
     . exact h
   . exact h
def OZ:∀ {ops:List Oper} {k k':St->Prop} {st:St},XL cx sp all ops k st->(∀a,C4 st a->k a->k' a)->XL cx sp all ops k' st
 | [],_,_,st,h,a=>a st (C4.refl st) h
 | _:: _,_,_,_,h,f=>GO h fun b a c=>OZ c fun g b d=>f g (a.trans b) d
end
inductive Uv where
 |val (t:Ty)
 |own (t:Ty) (e:TypeId)
 |ownR (t:Ty) (e e':TypeId)
 |fix (k:Nat)
 |fixB (k:Nat)
def Uv.pin:Uv->Option Nat
 | .fix k=>some k
 | .fixB k=>some k
 | _=>none
@[reducible] def shD:List Uv->Type->Type
 | [],T=>T
 | .val t::r,T=>t.den×shD r T
 | .own t _::r,T=>List t.den×shD r T
 | .ownR t _ _::r,T=>List (List t.den)×shD r T
 | .fix _::r,T=>shD r T
 | .fixB _::r,T=>shD r T
inductive LT where
 |row (t:Ty) (e:TypeId)
 |map (ka:Bool) (kt:Ty) (va:Bool) (vt:Ty)
 |rows (t:Ty) (e e':TypeId)
 |iter (ka:Bool) (kt:Ty) (va:Bool) (vt:Ty)
 |nest (t:Ty) (e e':TypeId)
 |itM (ka:Bool) (kt:Ty) (va:Bool) (vt:Ty) (q:Nat)
@[reducible] def LT.den:LT->Type
 | .row t _=>List t.den
 | .map _ a _ b=>List (a.den×b.den)
 | .rows t _ _=>List (List t.den)
 | .iter _ a _ b=>List (a.den×b.den)
 | .nest t _ _=>List t.den×List Nat
 | .itM _ a _ b _=>List (a.den×b.den)×List (a.den×b.den)
def LT.wf:(l:LT)->l.den->Prop
 | .row t _,x=>(Ty.sl t).wf x
 | .map a b c d,x=>(Ty.mp a b c d).wf x
 | .rows t _ _,x=>(Ty.sl (Ty.sl t)).wf x
 | .iter a b c d,x=>(Ty.mp a b c d).wf x
 | .nest _ _ _,x=>x.1.length<=9223372036854775807
 | .itM a b c d _,x=>(Ty.mp a b c d).wf x.2
def LT.lc:(l:LT)->l.den->LC
 | .row t e,x=> .row t e x
 | .map a b c d,x=> .map a b c d x
 | .rows t e a,x=> .rows t e a x [] none
 | .iter a b c d,x=> .iter a b c d x none
 | .nest t e a,x=> .nest t e a x.1 [] x.2
 | .itM a b c d q,x=> .itM a b c d x.1 x.2 none q
def plugL:List (Nat×LT)->St->St
 | [],a=>a
 | (k, .nest _ _ _)::r,a=>plugL r (giveS a k)
 | (k, .row _ _)::r,a=>plugL r (thaw a k)
 | _::r,a=>plugL r a
def LT.need:LT->Option Nat
 | .itM _ _ _ _ q=>some q
 | _=>none
def A0s (a:St) (t:Ty) (e e':TypeId) (k:Nat):Option (List t.den×List Nat):=match a.L k with
 | .nest f d a c [] b=>if h:f=t then(bif Nat.beq d e&&Nat.beq a e' then some (h▸c,b)else none)else none
 | _=>none
def A0n (a:St) (k:Nat):(l:LT)->Option l.den
 | .row t e=>Uz a t e k
 | .map b c d f=>mapM a b c d f k
 | .rows t e b=>rowsAt a t e b k
 | .iter b d g i=>match a.L k with
  | .iter c f h j n _=>if o:Ty.mp c f h j=Ty.mp b d g i then some (o▸(show(Ty.mp c f h j).den from n):(Ty.mp b d g i).den)else none
  | _=>none
 | .nest t e b=>A0s a t e b k
 | .itM b c f h q=>match a.L k with
  | .itM a d g i j left _ o=>bif Nat.beq q o&&Nat.blt q k then(if n:Ty.mp a d g i=Ty.mp b c f h then some (n▸(show(Ty.mp a d g i).den×(Ty.mp a d g i).den from(j,left)):(Ty.mp b c f h).den×(Ty.mp b c f h).den)else none)else none
  | _=>none
@[reducible] def nO:List (Nat×LT)->Type
 | []=>Unit
 | (_,t)::r=>t.den×nO r
structure ER where
 keepS:List Nat
 keepL:List Nat
 modS:List (Nat×Bool×List Uv)
 boxL:List (Nat×TypeId×List Uv)
 rowL:List (Nat×LT)
def C2s:List (Nat×Bool×List Uv)->List Uv->List Uv
 | [],r=>r
 | (_,_,a)::l,r=>a++C2s l r
def C2r:List (Nat×TypeId×List Uv)->List Uv
 | []=> []
 | (_,_,a)::l=>a++C2r l
def ER.shs (A:ER):List Uv:=C2s A.modS (C2r A.boxL)
@[reducible] def ER.den (A:ER):Type:=shD A.shs (nO A.rowL)
def shW:(shs:List Uv)-> {T:Type} ->(T->Prop)->shD shs T->Prop
 | [],_,q,x=>q x
 | .val t::r,_,q,x=>t.wf x.1/\shW r q x.2
 | .own t _::r,_,q,x=>(Ty.sl t).wf x.1/\shW r q x.2
 | .ownR t _ _::r,_,q,x=>(Ty.sl (Ty.sl t)).wf x.1/\shW r q x.2
 | .fix _::r,_,q,x=>shW r q x
 | .fixB _::r,_,q,x=>shW r q x
def C0i:(l:List (Nat×LT))->nO l->Prop
 | [],_=>True
 | (_,t)::r,x=>t.wf x.1/\C0i r x.2
def ER.wf (A:ER) (p:A.den):Prop:=shW A.shs (C0i A.rowL) p
def fM (b:St):List (Nat×Bool×List Uv)->List C->Option (List C)
 | [],r=>some r
 | (s,d,shs)::l,r=>match b.S s with
  | .one ⟨c,a⟩=>bif(c==d)&&Nat.beq a.length shs.length then(fM b l r).map (a++ ·)else none
  | _=>none
def fL (b:St):List (Nat×TypeId×List Uv)->Option (List C)
 | []=>some []
 | (k,T,shs)::l=>match b.L k with
  | .box T' a=>bif Nat.beq T' T&&Nat.beq a.length shs.length then(fL b l).map (a++ ·)else none
  | _=>none
def ER.cells (A:ER) (a:St):Option (List C):=(fL a A.boxL).bind (fM a A.modS)
def settleSh:St->List Uv->List C->St
 |b, .val _::r,c::a=>settleSh (settle b [c]) r a
 |b, .own _ _::r,c::a=>settleSh (thawS b ⟨false,[c]⟩) r a
 |b, .ownR _ _ _::r,_::a=>settleSh b r a
 |b, .fix _::r,_::a=>settleSh b r a
 |b, .fixB _::r,_::a=>settleSh b r a
 |a,_,_=>a
def C2j (k:Nat):C->Bool
 | .row j=>Nat.beq j k
 | _=>false
def C2h (k:Nat):C->Bool
 | .box j 0=>Nat.beq j k
 | _=>false
def X5 (a:St):(shs:List Uv)-> {T:Type} ->T->List C->Option (shD shs T)
 | [],_,x,[]=>some x
 | .val t::r,_,x,c::b=>(UA t c).bind fun y=>(X5 a r x b).map fun z=>(y,z)
 | .own t e::r,_,x,c::b=>(NN a t e c).bind fun y=>(X5 a r x b).map fun z=>(y,z)
 | .ownR t e d::r,_,x,c::b=>(dL a t e d c).bind fun y=>(X5 a r x b).map fun z=>(y,z)
 | .fix k::r,_,x,c::b=>bif C2j k c then X5 a r x b else none
 | .fixB k::r,_,x,c::b=>bif C2h k c then X5 a r x b else none
 | _,_,_,_=>none
def A9u (l:List (Nat×LT)) (bl:List (Nat×TypeId×List Uv)):Uv->Bool
 | .fixB k=>bl.any fun x=>Nat.beq x.1 k
 | .fix k=>l.any fun x=>Nat.beq x.1 k
 | _=>true
def A6x (a:St):(l:List (Nat×LT))->Option (nO l)
 | []=>some ()
 | (k,t)::r=>(A0n a k t).bind fun y=>(A6x a r).map fun z=>(y,z)
def N3:List Uv->List C->List Nat
 | .own _ _::r, .row k::a=>k::N3 r a
 | .ownR _ _ _::r, .row k::a=>k::N3 r a
 | _::r,_::a=>N3 r a
 | _,_=> []
def mM {α:Type} (d:α) (l:List (Nat×α)):List Nat->List (Nat×α)
 | []=> []
 |s::r=>(s,find d s l)::mM d l r
def gath (A:ER) (b:St):Option (St×A.den):=do
 let c<-A.cells (plugL A.rowL b)
 let a:=settleSh (plugL A.rowL b) A.shs c
 let b<-A.cells a
 let tl<-A6x a A.rowL
 let p<-X5 a A.shs tl b
 bif FX (A.keepL++(N3 A.shs b++((A.rowL.map fun x=>x.1)++(A.boxL.map fun x=>x.1))))&&A.shs.all (A9u A.rowL A.boxL)then some (a,p)else none
def C0b:(t:Ty)->t.den->C
 | .ptr t,x=> .pf t x 0
 |t,x=> .val t x
def placeSh:(shs:List Uv)-> {T:Type} ->shD shs T->St->List C×St×T
 | [],_,x,a=>([],a,x)
 | .val t::r,_,x,a=>(fun p=>(C0b t x.1::p.1,p.2)) (placeSh r x.2 a)
 | .own t e::r,_,x,a=>(fun p=>(C.row a.nx::p.1,p.2)) (placeSh r x.2 (a.newL (.row t e x.1)))
 | .ownR t e b::r,_,x,a=>(fun p=>(C.row a.nx::p.1,p.2)) (placeSh r x.2 (a.newL (.rows t e b x.1 [] none)))
 | .fix k::r,_,x,a=>(fun p=>(C.row k::p.1,p.2)) (placeSh r x a)
 | .fixB k::r,_,x,a=>(fun p=>(C.box k 0::p.1,p.2)) (placeSh r x a)
def putRows:(l:List (Nat×LT))->nO l->St->St
 | [],_,a=>a
 | (k,t)::r,x,a=>putRows r x.2 (a.setL k (t.lc x.1))
def putS:List (Nat×Bool×List Uv)->List C->St->List C×St
 | [],a,b=>(a,b)
 | (s,b,shs)::r,a,c=>putS r (a.drop shs.length) (c.setS s (.one ⟨b,a.take shs.length⟩))
def putB:List (Nat×TypeId×List Uv)->List C->St->St
 | [],_,a=>a
 | (k,T,shs)::r,a,b=>putB r (a.drop shs.length) (b.setL k (.box T (a.take shs.length)))
def A7m:List (Nat×TypeId×List Uv)->Nat->Nat
 | [],n=>n
 |y::r,n=>A7m r (bif Nat.blt y.1 n then n else y.1+1)
def Nm:∀(l:List (Nat×TypeId×List Uv)) (n:Nat),n<=A7m l n
 | [],n=>qT n
 |y::r,n=>by
  refine qY ?_ (Nm r _);cases a:Nat.blt y.1 n with
  |true=>exact qT n
  |false=>
   have:¬y.1<n:=fun h=>by rw[show Nat.blt y.1 n=true from by rw[Nat.blt_eq];exact h]at a;cases a
   show n<=y.1+1;omega
def XT:∀ {l:List (Nat×TypeId×List Uv)} {n:Nat},∀y∈l,y.1<A7m l n
 |y::r,n,z,a=>by
  rcases qS.1 a with rfl|a
  . refine rD ?_ (Nm r _);cases b:Nat.blt z.1 n with
    |true=>rw[Nat.blt_eq]at b;exact b
    |false=>exact rN _
  . exact XT (l:=r) z a
def kept (A:ER) (a:St):St:=⟨mM (0, .dead) a.sl A.keepS,mM (0, .none) a.lc A.keepL,A7m A.boxL a.nx,a.ct+1,a.nm,a.fr⟩
def reflect (A:ER) (a:St) (p:A.den):St:=
 (fun q=>(fun r=>putB A.boxL r.1 r.2) (putS A.modS q.1 (putRows A.rowL q.2.2 q.2.1))) (placeSh A.shs p (kept A a))
def fY (n:Nat) (g:Nat):Bool:=Nat.ble 1 g&&Nat.ble g n
def B0s (A:ER) (a b:St):Bool:=(A.keepS.all fun s=>fY a.ct (b.eS s).1)&&(A.keepL.all fun k=>fY a.ct (b.eL k).1)&&(A.rowL.all fun x=>Nat.blt x.1 a.nx)&&C0a a.ct b.fr
def LY (A:ER) (b:St) (J:A.den->Prop) (a:St):Prop:=
 match gath A a with
 |some (a,p)=>bif B0s A b a then J p else False
 |none=>False
section
variable {za:Zn} {w0 w:World} {Z:Nat->Prop} {B:Nat->Value} {st st0:St} {E:H6}
def C4.plugL:∀(l:List (Nat×LT)) (st:St),C4 st (plugL l st)
 | [],st=>C4.refl st
 | (k, .nest _ _ _)::r,st=>(C4.giveS st k).trans (C4.plugL r _)
 | (k, .row _ _)::r,st=>(C4.thawS st ⟨false,[.row k]⟩).trans (C4.plugL r _)
 | (_, .map _ _ _ _)::r,st=>C4.plugL r st
 | (_, .rows _ _ _)::r,st=>C4.plugL r st
 | (_, .iter _ _ _ _)::r,st=>C4.plugL r st
 | (_, .itM _ _ _ _ _)::r,st=>C4.plugL r st
def C3.plugL (a:za.b0=0):∀ {l:List (Nat×LT)} {st:St} {Z:Nat->Prop},C3 za w0 st E w Z B->∃Z',C3 za w0 (plugL l st) E w Z' B
 | [],_,Z,h=>⟨Z,h⟩
 | (k, .nest _ _ _)::r,_,_,h=>C3.plugL a (l:=r) (h.giveS a k)
 | (k, .row _ _)::r,_,_,h=>by
  obtain⟨Z1,b⟩:=h.thaw k;exact C3.plugL a (l:=r) b
 | (_, .map _ _ _ _)::r,_,_,h=>C3.plugL a (l:=r) h
 | (_, .rows _ _ _)::r,_,_,h=>C3.plugL a (l:=r) h
 | (_, .iter _ _ _ _)::r,_,_,h=>C3.plugL a (l:=r) h
 | (_, .itM _ _ _ _ _)::r,_,_,h=>C3.plugL a (l:=r) h
def C4.settleSh:∀(shs:List Uv) (cs:List C) (st:St),C4 st (settleSh st shs cs)
 | .val _::r,c::cs,st=>(C4.settle st [c]).trans (C4.settleSh r cs _)
 | .own _ _::r,c::cs,st=>(C4.thawS st ⟨false,[c]⟩).trans (C4.settleSh r cs _)
 | .ownR _ _ _::r,_::cs,st=>C4.settleSh r cs st
 | .ownR _ _ _:: _,[],st=>C4.refl st
 | .fix _::r,_::cs,st=>C4.settleSh r cs st
 | .fixB _::r,_::cs,st=>C4.settleSh r cs st
 | .fixB _:: _,[],st=>C4.refl st
 | [],_,st=>C4.refl st
 | .val _:: _,[],st=>C4.refl st
 | .own _ _:: _,[],st=>C4.refl st
 | .fix _:: _,[],st=>C4.refl st
def C3.settleSh:∀ {shs:List Uv} {cs:List C} {st:St} {Z:Nat->Prop},C3 za w0 st E w Z B->∃Z',C3 za w0 (settleSh st shs cs) E w Z' B
 | .val _::r,c::cs,st,Z,h=>by
  obtain⟨Z1,a⟩:=h.settle [c];exact C3.settleSh (shs:=r) (cs:=cs) a
 | .own _ _::r,c::cs,st,Z,h=>by
  obtain⟨Z1,a⟩:=h.thawS ⟨false,[c]⟩;exact C3.settleSh (shs:=r) (cs:=cs) a
 | .ownR _ _ _::r,_::cs,st,Z,h=>C3.settleSh (shs:=r) (cs:=cs) h
 | .ownR _ _ _:: _,[],st,Z,h=>⟨Z,h⟩
 | .fix _::r,_::cs,st,Z,h=>C3.settleSh (shs:=r) (cs:=cs) h
 | .fixB _::r,_::cs,st,Z,h=>C3.settleSh (shs:=r) (cs:=cs) h
 | .fixB _:: _,[],st,Z,h=>⟨Z,h⟩
 | [],_,st,Z,h=>⟨Z,h⟩
 | .val _:: _,[],st,Z,h=>⟨Z,h⟩
 | .own _ _:: _,[],st,Z,h=>⟨Z,h⟩
 | .fix _:: _,[],st,Z,h=>⟨Z,h⟩
def C4.putRows:∀(l:List (Nat×LT)) (x:nO l) (st:St),C4 st (putRows l x st)
 | [],_,st=>C4.refl st
 | (k,t)::r,x,st=>(C4.setL st k _).trans (C4.putRows r x.2 _)
def C4.placeSh:∀(shs:List Uv) {T:Type} (x:shD shs T) (st:St),C4 st (placeSh shs x st).2.1
 | [],_,_,st=>C4.refl st
 | .val t::r,_,x,st=>C4.placeSh r x.2 st
 | .own t e::r,_,x,st=>(C4.newL st (.row t e x.1)).trans (C4.placeSh r x.2 _)
 | .ownR t e a::r,_,x,st=>(C4.newL st (.rows t e a x.1 [] none)).trans (C4.placeSh r x.2 _)
 | .fix _::r,_,x,st=>C4.placeSh r x st
 | .fixB _::r,_,x,st=>C4.placeSh r x st
def C4.putS:∀(l:List (Nat×Bool×List Uv)) (cs:List C) (st:St),C4 st (putS l cs st).2
 | [],_,st=>C4.refl st
 | (s,a,shs)::r,cs,st=>(C4.setS st s _).trans (C4.putS r _ _)
def C4.putB:∀(l:List (Nat×TypeId×List Uv)) (cs:List C) (st:St),C4 st (putB l cs st)
 | [],_,st=>C4.refl st
 | (k,T,shs)::r,cs,st=>(C4.setL st k _).trans (C4.putB r _ _)
def C4.reflect (A:ER) (st0:St) (p:A.den):C4 (kept A st0) (reflect A st0 p):=
 (C4.placeSh A.shs p _).trans ((C4.putRows _ _ _).trans ((C4.putS _ _ _).trans (C4.putB _ _ _)))
def FM {α:Type} (d:α) (l:List (Nat×α)) (q:Nat):∀b:List Nat,find d q (mM d l b)=if q∈b then find d q l else d
 | []=>rfl
 |s::r=>by
  simp only[mM,find,FM d l q r];cases a:Nat.beq s q with
  |true=>have:=qD a;subst this;simp
  |false=>
   have:q≠s:=fun h=>by subst h;simp at a
   simp[this]
def gH (A:ER) (st:St) (s:Nat):(kept A st).eS s=if s∈A.keepS then st.eS s else(0, .dead):=FM ..
def gG (A:ER) (st:St) (k:Nat):(kept A st).eL k=if k∈A.keepL then st.eL k else(0, .none):=FM ..
def nN {A:ER} {p:A.den} {s:Nat} (a:((reflect A st0 p).eS s).1≠0) (b:((reflect A st0 p).eS s).1<=st0.ct):(reflect A st0 p).eS s=st0.eS s:=by
 have e:=(C4.reflect A st0 p).s s a (xM b);rw[e]at a⊢;rw[gH]at a⊢;split
 . rfl
 . rename_i b;rw[qH b]at a;exact absurd rfl a
def iI {A:ER} {p:A.den} {k:Nat} (a:((reflect A st0 p).eL k).1≠0) (b:((reflect A st0 p).eL k).1<=st0.ct):(reflect A st0 p).eL k=st0.eL k:=by
 have e:=(C4.reflect A st0 p).l k a (xM b);rw[e]at a⊢;rw[gG]at a⊢;split
 . rfl
 . rename_i b;rw[qH b]at a;exact absurd rfl a
structure B3y (n:Nat) (st:St):Prop where
 nms:st.nm=n/\n<=st.nx
 refs:∀s,JS st.nx (st.S s)
 refl:∀k,CU st.nx (st.L k)
 fresh:∀k,st.nx<=k->st.L k= .none
 frf:jK st.nx st.fr
def C3.pure (h:C3 za w0 st E w Z B):B3y za.n st:=⟨h.nms,h.refs,h.refl,h.fresh,h.frf⟩
structure Hx (za:Zn) (w0:World) (st2:St) (E:H6) (w:World) (Z:Nat->Prop) (B:Nat->Value) (used:List Nat) (st:St) (BX:Nat->Value):Prop where
 rel:C3 za w0 st E w Z BX
 own:∀j b,B4 w (BX j) (st.L j) b->∃q,q∈used/\B4 w (B q) (st2.L q) b
def Hx.disj {a:St} {d:List Nat} {BX:Nat->Value} (f:C3 za w0 a E w Z B) (c:Hx za w0 a E w Z B d st BX) {q:Nat} (h:q∉d):∀k b,B4 w (B q) (a.L q) b->¬B4 w (BX k) (st.L k) b:=fun k b a d=>by
 obtain⟨j,i,g⟩:=c.own k b d;exact f.disj q j b (fun d=>h (d▸i)) a g
end
section
variable {za:Zn} {w0 w:World} {Z:Nat->Prop} {B:Nat->Value} {st st0 st2:St} {E:H6}
def C3.setSame (h:C3 za w0 st E w Z B) (s:Nat) {x:DV} (c:RD w Z B E x (E s)) (b:JS st.nx x):C3 za w0 (st.setS s x) E w Z B:=by
 have e:upd E s (E s)=E:=by
  funext t;by_cases a:t=s
  . subst a;exact C2 _ _ _
  . exact C5 _ _ _ _ a
 have:=h.setS s (x:=x) (v:=E s) (by rw[e];exact c) b;rwa[e]at this
def B8p {A:ER} (a:C3 za w0 st2 E w Z B) (d:B3y za.n st0) (c:∀s∈A.keepS,st2.eS s=st0.eS s) (b:∀k∈A.keepL,st2.eL k=st0.eL k) (j:st2.fr=st0.fr):Hx za w0 st2 E w Z B A.keepL (kept A st0) B:=by
 have eS:∀s,(kept A st0).S s=if s∈A.keepS then st2.S s else .dead:=fun s=>by
  show((kept A st0).eS s).2= _;rw[gH];split
  . rename_i f;rw[<-c s f];rfl
  . rfl
 have eL:∀k,(kept A st0).L k=if k∈A.keepL then st2.L k else .none:=fun k=>by
  show((kept A st0).eL k).2= _;rw[gG];split
  . rename_i c;rw[<-b k c];rfl
  . rfl
 have i:∀s,(kept A st0).S s=if s∈A.keepS then st0.S s else .dead:=fun s=>by
  show((kept A st0).eS s).2= _;rw[gH];split<;>rfl
 have g:∀k,(kept A st0).L k=if k∈A.keepL then st0.L k else .none:=fun s=>by
  show((kept A st0).eL s).2= _;rw[gG];split<;>rfl
 have f:∀k b,B4 w (B k) ((kept A st0).L k) b->k∈A.keepL/\B4 w (B k) (st2.L k) b:=fun k b c=>by
  rw[eL]at c;split at c
  . rename_i h;exact⟨h,c⟩
  . exact c.elim
 refine⟨⟨a.ext,a.zlt,fun s=> ?_,fun k=> ?_,fun k h b l o r=>a.disj k h b l (f k b o).2 (f h b r).2,fun s=> ?_,fun k=> ?_,fun k c=> ?_,a.bone,a.zin,⟨d.nms.1,qY d.nms.2 (Nm _ _)⟩,a.bfix,⟨a.mrk.1,fun k b c h=>a.mrk.2 k b c (f k b h).2⟩,(by have:=a.frs;rw[j]at this;exact this),d.frf.le (Nm _ _)⟩,fun j b h=>⟨j,(f j b h).1,(f j b h).2⟩⟩
 . rw[eS];split
   . exact a.slots s
   . trivial
 . rw[eL];split
   . exact a.locs k
   . trivial
 . rw[i];split
   . exact(d.refs s).le (Nm _ _)
   . trivial
 . rw[g];split
   . exact(d.refl k).le (Nm _ _)
   . trivial
 . rw[g];split
   . exact d.fresh k (qY (Nm _ _) c)
   . rfl
def NO (j:C3 za w0 st2 E w Z B) {t:Ty} {e:TypeId} {c:C} {l:List t.den} {v:Value} (o:RC w Z B c v) (a:NN st2 t e c=some l):
 ∃xs,w.ownsRow w0.heap.size e t.size v l.length xs/\G2 (C7 t w Z) xs l/\(∀b,v.ownBlock=some b->¬Z b)/\((∃q,c= .row q/\live (st2.L q)/\v=B q)\/(root v=none/\∀q,c≠ .row q)):=by
 unfold NN at a;split at a
 . rename_i q;split at a
   . rename_i G A F f;split at a
     . rename_i x;subst x;obtain⟨g,a⟩:=E4 a;cases a;simp only[qC]at g;have D:=qQ g.2;have u:=qD g.1;subst u;have n:=j.locs q;rw[f]at n;obtain⟨xs,r,s,k⟩:=n;have h:v=B q:=o;subst h;have z:∀b,(B q).ownBlock=some b->w0.heap.size<=b:=fun b d=>by
        rcases(k b d).1 with i|i
        . exact i.2
        . have:=j.nms.1;omega
       exact⟨xs,iD r z,s,fun b d=>(k b d).2, .inl ⟨q,rfl,by rw[f];trivial,rfl⟩⟩
     . cases a
   . cases a
 . obtain⟨y,a⟩:=E4 a;cases a;have h:v= .slice none 0 0:=by rw[o.1];exact Fs y
   subst h;exact⟨[],World.ownsRow_nil _ _ _ _,rfl,fun b d=>(by cases d), .inr ⟨rfl,fun q f=>(by cases f)⟩⟩
 . cases a
def nR (j:C3 za w0 st2 E w Z B) {t:Ty} {e e':TypeId} {c:C} {ls:List (List t.den)} {v:Value} (k:RC w Z B c v) (a:dL st2 t e e' c=some ls):
 Bj w Z t e e' v ls/\v.oneCell'=true/\(∀b,B4 w v (.rows t e e' ls [] none) b->¬Z b/\w0.heap.size<=b/\b<w.heap.size)/\((∃q,c= .row q/\v=B q/\∀b,B4 w v (.rows t e e' ls [] none) b->B4 w (B q) (st2.L q) b)\/((∀b,¬B4 w v (.rows t e e' ls [] none) b)/\∀q,c≠ .row q)):=by
 unfold dL at a;split at a
 . rename_i q;obtain⟨h,a⟩:=E4 a;obtain⟨al,o⟩:=X6 a;obtain⟨n,g⟩:=j.rowsAt o (qQ h);have f:v=B q:=k;subst f;exact⟨n,j.bone q,fun b d=>⟨(g b d).1,(g b d).2.1,(g b d).2.2.1⟩, .inl ⟨q,rfl,rfl,fun b d=>(g b d).2.2.2⟩⟩
 . obtain⟨s,a⟩:=E4 a;cases a;have f:v= .slice none 0 0:=by rw[k.1];exact Fs s
   exact⟨⟨[],by rw[f];exact World.ownsRow_nil _ _ _ _,fun l y u r=>(by simp at r),fun l x u v b _ i=>(by simp at i),fun l u b i=>(by simp at i)⟩,by rw[f];rfl,fun b d=>absurd d (VX f), .inr ⟨fun b=>VX f,fun q h=>(by cases h)⟩⟩
 . cases a
def B5v {t:Ty} {v:Value} {x:t.den} (h:C7 t w Z [v] x):RC w Z B (C0b t x) v:=by
 cases t with
 |ptr t=>
  obtain⟨b,o,a,e,r⟩:=h;simp only[sM,vR]at e;exact⟨b,o,a,by rw[e];rfl,r⟩
 | _=>exact h
def B1x {n:Nat} {t:Ty} {x:t.den} :Cb n (C0b t x):=by cases t<;>trivial
def Qs (l:za.b0=0) (f:C3 za w0 st2 E w Z B):∀ {shs:List Uv} {T:Type} {tl:T} {cs:List C} {vs:List Value} {p:shD shs T} {st:St} {BX:Nat->Value} {a:List Nat},Hx za w0 st2 E w Z B a st BX->Co w Z B cs vs->X5 st2 shs tl cs=some p->(∀q∈N3 shs cs,q∉a)->(N3 shs cs).Nodup->(∀c∈shs,∀k,c.pin=some k->k<st.nx/\BX k=B k)->
 ∃BX',Hx za w0 st2 E w Z B (N3 shs cs++a) (placeSh shs p st).2.1 BX'/\Co w Z BX' (placeSh shs p st).1 vs/\(∀c∈(placeSh shs p st).1,Cb (placeSh shs p st).2.1.nx c)/\(∀k,k<st.nx->BX' k=BX k)/\st.nx<=(placeSh shs p st).2.1.nx/\(placeSh shs p st).2.2=tl
 | [],_,tl,[],vs,p,st,BX,a,c,d,b,_,_,_=>by
  simp only[X5,rB]at b;exact⟨BX,c,d,by simp[placeSh],fun _ _=>rfl,qT _,b.symm⟩
 | [],_,_,_:: _,_,_,_,_,_,_,_,b,_,_,_=>by cases b
 | .val t::r,_,_,[],_,_,_,_,_,_,_,b,_,_,_=>by cases b
 | .own t e::r,_,_,[],_,_,_,_,_,_,_,b,_,_,_=>by cases b
 | .ownR t e d::r,_,_,[],_,_,_,_,_,_,_,b,_,_,_=>by cases b
 | .fix k::r,_,_,[],_,_,_,_,_,_,_,b,_,_,_=>by cases b
 | .fixB k::r,_,_,[],_,_,_,_,_,_,_,b,_,_,_=>by cases b
 | .fix k::u,T,tl,d::cs,vs,p,st,BX,a,c,⟨v,I,e,G,H⟩,b,t,s,o=>by
  simp only[X5]at b;obtain⟨r,b⟩:=E4 b;have D:N3 (.fix k::u) (d::cs)=N3 u cs:=by cases d<;>rfl
  rw[D]at t s⊢;obtain⟨BX',x,y,z,i,n,A⟩:=Qs l f c H b t s (fun j F=>o j (qM _ F));subst e;have g:=o _ rI k rfl;cases d with
  |row j=>
   have:=qD r;subst this;refine⟨BX',x,⟨v,I,rfl, ?_,y⟩,fun q h=> ?_,i,n,A⟩
   . show v=BX' j;rw[i j g.1,g.2];exact G
   . rcases qS.1 h with rfl|h
     . exact rD g.1 n
     . exact z q h
  | _=>cases r
 | .fixB k::x,T,tl,d::cs,vs,p,st,BX,a,c,⟨v,O,e,M,N⟩,b,t,s,r=>by
  simp only[X5]at b;obtain⟨g,b⟩:=E4 b;have H:N3 (.fixB k::x) (d::cs)=N3 x cs:=by cases d<;>rfl
  rw[H]at t s⊢;obtain⟨BX',z,A,D,n,o,F⟩:=Qs l f c N b t s (fun j I=>r j (qM _ I));subst e;have h:=r _ rI k rfl;cases d with
  |box j u=>
   cases u with
   |succ u=>cases g
   |zero=>
   have:=qD g;subst this;refine⟨BX',z,⟨v,O,rfl, ?_,A⟩,fun q i=> ?_,n,o,F⟩
   . obtain⟨y,G,J⟩:=M;exact⟨y,by rw[n j h.1,h.2];exact G,J⟩
   . rcases qS.1 i with rfl|i
     . exact rD h.1 o
     . exact D q i
  | _=>cases g
 | .val I::r,T,tl,d::cs,vs,p,st,BX,a,c,⟨v,J,e,A,D⟩,h,i,g,x=>by
  simp only[X5,bind_some,qL]at h;obtain⟨M,F,N,G,rfl⟩:=h;have y:N3 (.val I::r) (d::cs)=N3 r cs:=by cases d<;>rfl
  rw[y]at i g⊢;obtain⟨BX',j,n,o,s,t,u⟩:=Qs l f c D G i g (fun H z=>x H (qM _ z));subst e;refine⟨BX',j,⟨v,J,rfl,B5v (fA A F),n⟩,fun q b=> ?_,s,t,u⟩;rcases qS.1 b with rfl|b
  . exact B1x
  . exact o q b
 | .ownR t i j::r,T,tl,G::cs,vs,p,st,BX,a,c,⟨v,ag,e,a9,ab⟩,F,u,A,a3=>by
  simp only[X5,bind_some,qL]at F;obtain⟨x,a5,ai,ac,rfl⟩:=F;subst e;obtain⟨ae,aa,O,af⟩:=nR f a9 a5;have ad:∃h,Hx za w0 st2 E w Z B h (st.newL (.rows t i j x [] none)) (upd BX st.nx v)/\(∀q∈N3 r cs,q∉h)/\(N3 r cs).Nodup/\(∀q,q∈N3 (.ownR t i j::r) (G::cs)++a↔q∈N3 r cs++h):=by
   have mk:∀h,(∀q∈a,q∈h)->(∀b,B4 w v (.rows t i j x [] none) b->∃q,q∈h/\B4 w (B q) (st2.L q) b)->(∀k b,B4 w v (.rows t i j x [] none) b->¬B4 w (BX k) (st.L k) b)->Hx za w0 st2 E w Z B h (st.newL (.rows t i j x [] none)) (upd BX st.nx v):=by
    intro h a7 s a2;refine⟨c.rel.new (v:=v) (lc:= .rows t i j x [] none) (Bj.rl (by rw[C2];exact ae) fun b d=>by rw[C2]at d;exact⟨.inl ⟨c.rel.nms.2,(O b d).2.1⟩,(O b d).1,(O b d).2.2⟩) a2 (fun p F=>by cases F) aa (fun b _ _=>by rw[l];exact rL _),fun o b g=> ?_⟩;rw[St.L_newL]at g;by_cases M:o=st.nx
    . subst M;rw[C2,qJ rfl]at g;exact s b g
    . rw[qH M,C5 _ _ _ _ M]at g;obtain⟨q,H,I⟩:=c.own o b g;exact⟨q,a7 q H,I⟩
   rcases af with⟨q,rfl,ah,U⟩ | ⟨V,a6⟩
   . have J:N3 (.ownR t i j::r) (.row q::cs)=q::N3 r cs:=rfl;rw[J]at u A⊢;have D:=sI.1 A;refine⟨q::a,mk _ (fun y n=>qM _ n) (fun b d=>⟨q,by simp,U b d⟩) (fun k b d=> ?_),fun y n=> ?_,D.2,fun y=>by grind⟩
     . exact c.disj f (u q (by simp)) k b (U b d)
     . intro N;rcases qS.1 N with rfl|N
       . exact D.1 n
       . exact u y (qM _ n) N
   . have J:N3 (.ownR t i j::r) (G::cs)=N3 r cs:=by cases G<;>first|rfl|exact absurd rfl (a6 _)
     rw[J]at u A⊢;exact⟨a,mk _ (fun y n=>n) (fun b d=>absurd d (V b)) (fun k b d=>absurd d (V b)),u,A,fun y=>xS⟩
  obtain⟨h,W,a8,D,a4⟩:=ad;obtain⟨BX',P,X,Y,Q,R,a0⟩:=Qs l f W ab ac a8 D (fun o g k z=>by
   obtain⟨d,b⟩:=a3 o (qM _ g) k z;exact⟨uK d,(C5 _ _ _ _ (uC d)).trans b⟩)
  have a1:BX' st.nx=v:=by rw[Q st.nx (rN _),C2]
  refine⟨BX',⟨P.rel,fun o b g=> ?_⟩,⟨v,ag,rfl,a1.symm,X⟩,fun q s=> ?_,fun k z=> ?_,qY (uW _) R,a0⟩
  . obtain⟨q,H,I⟩:=P.own o b g;exact⟨q,(a4 q).2 H,I⟩
  . rcases qS.1 s with rfl|s
    . exact rD (rN _) R
    . exact Y q s
  . rw[Q k (uK z),C5 _ _ _ _ (uC z)]
 | .own t i::r,T,tl,D::cs,vs,p,st,BX,a,c,⟨v,ai,e,aa,ac⟩,U,s,y,a4=>by
  simp only[X5,bind_some,qL]at U;obtain⟨M,a6,am,ad,rfl⟩:=U;subst e;obtain⟨aj,A,af,ag,ah⟩:=NO f aa a6;have ab:v.oneCell'=true:=by rcases A.2 with⟨V,_⟩ | ⟨_,_,_,V,_⟩<;>rw[V]<;>rfl
  have ak:=E5 A;have ae:∃h,Hx za w0 st2 E w Z B h (st.newL (.row t i M)) (upd BX st.nx v)/\(∀q∈N3 r cs,q∉h)/\(N3 r cs).Nodup/\(∀q,q∈N3 (.own t i::r) (D::cs)++a↔q∈N3 r cs++h):=by
   have mk:∀h,(∀q∈a,q∈h)->(∀b,root v=some b->∃q,q∈h/\B4 w (B q) (st2.L q) b)->(∀k b,root v=some b->¬B4 w (BX k) (st.L k) b)->Hx za w0 st2 E w Z B h (st.newL (.row t i M)) (upd BX st.nx v):=by
    intro h a8 o a3;refine⟨c.rel.new (v:=v) (lc:= .row t i M) ⟨aj,by rw[C2];exact Kw A (rL _),af,fun b d=>by rw[C2]at d;exact⟨.inl ⟨c.rel.nms.2,(World.ownsRow.lt A b d).1⟩,ag b d⟩⟩ a3 trivial ab (fun b _ _=>by rw[l];exact rL _),fun n b g=> ?_⟩;rw[St.L_newL]at g;by_cases I:n=st.nx
    . subst I;rw[C2,qJ rfl]at g;exact o b g
    . rw[qH I,C5 _ _ _ _ I]at g;obtain⟨q,F,G⟩:=c.own n b g;exact⟨q,a8 q F,G⟩
   rcases ah with⟨q,rfl,Q,W⟩ | ⟨R,a7⟩
   . have H:N3 (.own t i::r) (.row q::cs)=q::N3 r cs:=rfl;rw[H]at s y⊢;have z:=sI.1 y;refine⟨q::a,mk _ (fun x j=>qM _ j) (fun b d=>⟨q,by simp,B4.of Q (by rw[<-W];exact d)⟩) (fun k b d=> ?_),fun x j=> ?_,z.2,fun x=>by grind⟩
     . rw[W]at d;exact c.disj f (s q (by simp)) k b (B4.of Q d)
     . intro J;rcases qS.1 J with rfl|J
       . exact z.1 j
       . exact s x (qM _ j) J
   . have H:N3 (.own t i::r) (D::cs)=N3 r cs:=by cases D<;>first|rfl|exact absurd rfl (a7 _)
     rw[H]at s y⊢;exact⟨a,mk _ (fun x j=>j) (fun b d=>by rw[R]at d;cases d) (fun k b d=>by rw[R]at d;cases d),s,y,fun x=>xS⟩
  obtain⟨h,X,a9,z,a5⟩:=ae;obtain⟨BX',N,Y,a0,O,P,a1⟩:=Qs l f X ac ad a9 z (fun n g k u=>by
   obtain⟨d,b⟩:=a4 n (qM _ g) k u;exact⟨uK d,(C5 _ _ _ _ (uC d)).trans b⟩)
  have a2:BX' st.nx=v:=by rw[O st.nx (rN _),C2]
  refine⟨BX',⟨N.rel,fun n b g=> ?_⟩,⟨v,ai,rfl,a2.symm,Y⟩,fun q o=> ?_,fun k u=> ?_,qY (uW _) P,a1⟩
  . obtain⟨q,F,G⟩:=N.own n b g;exact⟨q,(a5 q).2 F,G⟩
  . rcases qS.1 o with rfl|o
    . exact rD (rN _) P
    . exact a0 q o
  . rw[O k (uK u),C5 _ _ _ _ (uC u)]
end
section
variable {za:Zn} {w0 w:World} {Z:Nat->Prop} {B:Nat->Value} {st st0 st2:St} {E:H6}
def TG (E:H6):List (Nat×Bool×List Uv)->List Value->List Value->Prop
 | [],b,a=>b=a
 | (s,b,shs)::l,f,d=>∃a c,f=a++c/\a.length=shs.length/\(b=true->E s= .agg a.toArray)/\(b=false->a= [E s])/\TG E l c d
def eJ (za:Zn) (w0:World) (w:World) (Z:Nat->Prop) (B:Nat->Value) (st2:St):List (Nat×TypeId×List Uv)->List Value->Prop
 | [],a=>a= []
 | (k,T,shs)::l,d=>∃a c,d=a++c/\a.length=shs.length/\live (st2.L k)/\(∃b,B k= .pointer (some ⟨b,0,none⟩)/\up za w0 k b/\¬Z b/\LK w b a.toArray T)/\eJ za w0 w Z B st2 l c
def bL (f:C3 za w0 st2 E w Z B):∀ {l:List (Nat×Bool×List Uv)} {r cs:List C} {b:List Value},Co w Z B r b->fM st2 l r=some cs->∃vs,Co w Z B cs vs/\TG E l vs b
 | [],r,cs,b,a,h=>by cases h;exact⟨b,a,rfl⟩
 | (s,z,shs)::l,r,cs,b,x,h=>by
  simp only[fM]at h;split at h
  . rename_i n o y;obtain⟨c,h⟩:=E4 h;simp only[qL]at h;obtain⟨A,t,rfl⟩:=h;simp only[qC,g1c]at c;obtain⟨u,c⟩:=c;subst u;have j:=qD c;obtain⟨d,g,i⟩:=bL f x t;have a:=f.slots s;rw[y]at a;cases n with
    |true=>
     obtain⟨k,e,a⟩:=a;exact⟨k++d,a.append g,k,d,rfl,by rw[<-j,a.len],fun _=>e,fun v=>(by cases v),i⟩
    |false=>
     have a:Co w Z B o [E s]:=a;exact⟨[E s]++d,a.append g,[E s],d,rfl,by rw[<-j,a.len],fun k=>(by cases k),fun _=>rfl,i⟩
  . cases h
def bK (b:C3 za w0 st2 E w Z B):∀ {l:List (Nat×TypeId×List Uv)} {cs:List C},fL st2 l=some cs->∃vs,Co w Z B cs vs/\eJ za w0 w Z B st2 l vs
 | [],cs,h=>by cases h;exact⟨[],rfl,rfl⟩
 | (v,T,shs)::l,cs,h=>by
  simp only[fL]at h;split at h
  . rename_i T' x f;obtain⟨a,h⟩:=E4 h;simp only[qL]at h;obtain⟨y,j,rfl⟩:=h;simp only[qC]at a;have t:=qD a.1;subst t;have u:=qD a.2;obtain⟨g,k,n⟩:=bK b j;have d:=b.locs v;rw[f]at d;obtain⟨i,vs,e,o,r,s,c⟩:=d;exact⟨vs.toList++g,c.append k,vs.toList,g,rfl,by rw[<-u,c.len],by rw[f];trivial,⟨i,e,o,r,by simpa using s⟩,n⟩
  . cases h
def cV {k:Nat} {t:Ty} {e e':TypeId} {x:List t.den×List Nat} (a:A0s st2 t e e' k=some x):st2.L k= .nest t e e' x.1 [] x.2:=by
 unfold A0s at a;split at a
 . rename_i j f g i h d;split at a
   . rename_i c;subst c;obtain⟨b,a⟩:=E4 a;cases a;simp only[qC]at b;rw[d,qD b.1,qD b.2]
   . cases a
 . cases a
def VF {k q:Nat} {c f:Bool} {d g:Ty} {x:(LT.itM c d f g q).den} (a:A0n st2 k (.itM c d f g q)=some x):∃cur,st2.L k= .itM c d f g x.1 x.2 cur q/\q<k:=by
 simp only[A0n]at a;split at a
 . rename_i l n r s j left cur o i;obtain⟨b,a⟩:=E4 a;simp only[qC]at b;split at a
   . rename_i h;cases h;cases a;have:=qD b.1;subst this;exact⟨cur,i,qQ b.2⟩
   . cases a
 . cases a
def cH {k q:Nat} {t:LT} {x:t.den} (b:A0n st2 k t=some x) (a:t.need=some q):q<k:=by
 cases t with
 |itM c d g h f=>cases a;exact(VF b).choose_spec.2
 | _=>cases a
def IY (b:C3 za w0 st2 E w Z B) {k:Nat} {t:LT} {x:t.den} (a:A0n st2 k t=some x):live (st2.L k)/\RL (up za w0 k) w Z B k (t.lc x)/\t.wf x:=by
 cases t with
 |row t e=>
  have d:=Ih a;have c:=b.locs k;rw[d]at c;refine⟨by rw[d];trivial,c, ?_⟩;obtain⟨h,f,g,_⟩:=c;exact C7.wf (Bo (Z:=fun _=>True) f (g.mono fun _ _=>C7.mono (fun _ _=>trivial) (fun _ _=>rfl)) (fun _ _=>trivial))
 |map n o r s=>
  have d:=SP a;have c:=b.locs k;rw[d]at c;refine⟨by rw[d];trivial,c, ?_⟩;obtain⟨i,l,j,e,_,_,f,h,g⟩:=c;exact C7.wf (gL (Z:=fun _=>True) f h (g.mono (fun _ _=>trivial) (fun _ _=>rfl)) trivial)
 |rows t e o=>
  obtain⟨al,d⟩:=X6 a;have f:=b.locs k;have c:=f;rw[d]at c;have c:=c.rowsR;refine⟨by rw[d];trivial,c.rl fun j l=> ?_,c.wf⟩;have n:B4 w (B k) (st2.L k) j:=by rw[d];exact(U7 fun _ _=>rfl).1 l
  obtain⟨g,h,i⟩:=f.root n;exact⟨g,i,h⟩
 |iter J N P R=>
  simp only[A0n]at a;cases d:st2.L k with
  |iter M O Q T I H=>
   rw[d]at a;simp only at a;split at a
   . rename_i D;cases D;cases a;have l:=b.locs k;rw[d]at l;obtain⟨G,e,z,A,j⟩:=l;refine⟨trivial,⟨G,e,z,A,j.imp (fun h=>⟨h.1,h.2.1,rfl⟩) fun⟨m,seen,i,g,n,o,r,s,f,F⟩=>⟨m,seen,i,g,n,o,r,s,f,fun x c=>by cases c⟩⟩, ?_⟩;rcases j with⟨_,h,_⟩ | ⟨m,seen,i,g,n,o,r,s,f,F⟩
     . rw[h];intro x c;cases c
     . intro x c;obtain⟨m,_,u,v⟩:=S4.mem f c;exact⟨T3.wf' (fun _ _=>C7.wf) u,T3.wf' (fun _ _=>C7.wf) v⟩
   . cases a
  | _=>rw[d]at a;cases a
 |nest t e h=>
  have d:=cV a;have c:=b.locs k;rw[d]at c;refine⟨by rw[d];trivial,c, ?_⟩;obtain⟨l,g,_⟩:=c;rcases g.own.2 with⟨_,j⟩ | ⟨_,_,_,_,_,_,i,f,_⟩
  . show x.1.length<= _;omega
  . show x.1.length<= _;simp only[maxLen]at f;omega
 |itM D F G H q=>
  obtain⟨A,f,_⟩:=VF a;have d:=b.locs k;rw[f]at d;obtain⟨z,m,seen,j,g,h,i,c,o,r,s,u⟩:=d;refine⟨by rw[f];trivial,⟨z,m,seen,j,g,h,i,⟨c.it,c.mp,c.ok,c.all,c.rest,fun x v=>(by cases v)⟩,o,r,s,u⟩,fun y hy=> ?_⟩;obtain⟨m,_,l,n⟩:=S4.mem c.rest hy;exact⟨T3.wf' (fun _ _=>C7.wf) l,T3.wf' (fun _ _=>C7.wf) n⟩
def RL.setB {U:Nat->Prop} {B':Nat->Value} {k:Nat} {t:LT} {x:t.den} (h:RL U w Z B k (t.lc x)) (e:B' k=B k) (d:∀q,t.need=some q->B' q=B q):RL U w Z B' k (t.lc x):=by
 cases t with
 |nest t g i=>
  obtain⟨f,a,b⟩:=h;exact⟨f,⟨by rw[e];exact a.own,fun p c=>(by cases c),a.elt,a.dis,by rw[e];exact a.top⟩,by rw[e];exact b⟩
 |itM i j l n q=>
  obtain⟨r,m,seen,f,a,b,c,g⟩:=h;exact⟨r,m,seen,f,a,e.trans b,(d q rfl).trans c,g⟩
 |row t g=>obtain⟨f,a,b,c⟩:=h;exact⟨f,by rw[e];exact a,b,by rw[e];exact c⟩
 |map g i j l=>obtain⟨b,f,c,a,r⟩:=h;exact⟨b,f,c,e.trans a,r⟩
 |iter c f g i=>obtain⟨r,a,b⟩:=h;exact⟨r,e.trans a,b⟩
 |rows t l n=>
  obtain⟨j,a,⟨o,b,c⟩,f,g⟩:=h;exact⟨j,by rw[e];exact a,⟨fun p i=>(by cases i),b,c⟩,by rw[e];exact f,by rw[e];exact g⟩
def B5k (c:C3 za w0 st2 E w Z B) {k b:Nat} {t:LT} {x:t.den} (a:A0n st2 k t=some x) (h:B4 w (B k) (t.lc x) b):B4 w (B k) (st2.L k) b:=by
 cases t with
 |row t e=>exact B4.of (IY c a).1 h
 |map d f g i=>exact B4.of (IY c a).1 h
 |iter d f g i=>exact B4.of (IY c a).1 h
 |rows t e f=>
  obtain⟨al,d⟩:=X6 a;rw[d];exact(U7 fun _ _=>rfl).1 h
 |nest t e d=>rw[cV a];exact h
 |itM g i j l q=>obtain⟨f,d,_⟩:=VF a;rw[d];exact h
def WX (d:C3 za w0 st2 E w Z B) {BX:Nat->Value} {n0:Nat} (s:∀k,k<n0->BX k=B k):∀ {l:List (Nat×LT)} {x:nO l} {st:St} {c:List Nat},Hx za w0 st2 E w Z B c st BX->n0<=st.nx->A6x st2 l=some x->(∀y∈l,y.1<n0)->(∀y∈l,y.1∉c)->(l.map fun y=>y.1).Nodup->
 Hx za w0 st2 E w Z B ((l.map fun y=>y.1)++c) (putRows l x st) BX/\(putRows l x st).nx=st.nx
 | [],_,st,c,a,_,_,_,_,_=>⟨a,rfl⟩
 | (k,t)::Q,x,st,c,o,H,n,G,I,v=>by
  simp only[A6x,bind_some,qL]at n;obtain⟨l,i,R,O,rfl⟩:=n;have h:=G (k,t) (by simp);have F:=I (k,t) (by simp);simp only at h F;obtain⟨P,J,_⟩:=IY d i;have D:BX k=B k:=s k h;simp only[rV,sI]at v;have u:∀b,B4 w (BX k) (t.lc l) b->B4 w (B k) (st2.L k) b:=fun b f=>B5k d i (by rw[<-D];exact f)
  have c1:Hx za w0 st2 E w Z B (k::c) (st.setL k (t.lc l)) BX:=by
   refine⟨o.rel.addL (by omega) (J.setB D fun q N=>s q (Nat.lt_trans (cH i N) h)) (fun j b _ f a=> ?_) (by cases t<;>first|trivial|exact fun p n=>(by cases n) |exact rD (Nat.lt_trans (cH i rfl) h) H) (fun b hk f=>d.mrk.2 k b hk (u b f)),fun j b a=> ?_⟩
   . exact o.disj d F j b (u b f) a
   . rw[St.L_setL]at a;by_cases g:j=k
     . subst g;rw[qJ rfl]at a;exact⟨j,by simp,u b a⟩
     . rw[qH g]at a;obtain⟨q,A,r⟩:=o.own j b a;exact⟨q,qM _ A,r⟩
  obtain⟨z,M⟩:=WX d s c1 H O (fun y hy=>G y (qM _ hy)) (fun y hy=>by
   intro g;rcases qS.1 g with g|g
   . exact v.1 (g▸vS hy)
   . exact I y (qM _ hy) g) v.2
  refine⟨⟨z.rel,fun j b a=> ?_⟩,M⟩;obtain⟨q,A,r⟩:=z.own j b a;refine⟨q, ?_,r⟩;simp only[rV];grind
def A4b {BX:Nat->Value} :∀ {l:List (Nat×Bool×List Uv)} {cs:List C} {vs d:List Value} {st:St} {b:List Nat},Hx za w0 st2 E w Z B b st BX->Co w Z BX cs vs->TG E l vs d->(∀c∈cs,Cb st.nx c)->
 Hx za w0 st2 E w Z B b (putS l cs st).2 BX/\Co w Z BX (putS l cs st).1 d/\(∀c∈(putS l cs st).1,Cb st.nx c)/\(putS l cs st).2.nx=st.nx
 | [],cs,vs,d,st,b,c,a,g,f=>by rw[show vs=d from g]at a;exact⟨c,a,f,rfl⟩
 | (s,f,shs)::l,cs,vs,d,st,b,c,j,⟨t,u,e,h,n,o,r⟩,i=>by
  subst e;have a:=j.take shs.length;have g:=j.drop shs.length;rw[<-h,g2z]at a;rw[<-h,g2x]at g;rw[h]at a g;have k:RS w Z BX ⟨f,cs.take shs.length⟩ (E s):=by
   cases f with
   |true=>exact⟨t,n rfl,a⟩
   |false=>rw[o rfl]at a;exact a
  have c1:Hx za w0 st2 E w Z B b (st.setS s (.one ⟨f,cs.take shs.length⟩)) BX:=⟨c.rel.setSame s k (fun x hx=>i x (sC hx)),c.own⟩;have:=A4b (l:=l) (cs:=cs.drop shs.length) c1 g r (fun x hx=>i x (vM hx));exact this
def A4a (g:C3 za w0 st2 E w Z B) {BX:Nat->Value} {n0:Nat} (s:∀k,k<n0->BX k=B k):∀ {l:List (Nat×TypeId×List Uv)} {cs:List C} {vs:List Value} {st:St} {f:List Nat},Hx za w0 st2 E w Z B f st BX->n0<=st.nx->Co w Z BX cs vs->eJ za w0 w Z B st2 l vs->(∀c∈cs,Cb st.nx c)->(∀y∈l,y.1<n0)->(∀y∈l,y.1∉f)->(l.map fun y=>y.1).Nodup->
 C3 za w0 (putB l cs st) E w Z BX
 | [],_,_,st,f,c,_,_,_,_,_,_,_=>c.rel
 | (k,T,shs)::l,cs,vs,st,f,c,Q,F,⟨W,X,e,i,P,⟨H,I,M,R,N⟩,U⟩,u,D,G,n=>by
  subst e;have b:=F.take shs.length;have d:=F.drop shs.length;rw[<-i,g2z]at b;rw[<-i,g2x]at d;rw[i]at b d;have z:=D (k,T,shs) (by simp);have A:=G (k,T,shs) (by simp);simp only at z A;have t:BX k=B k:=s k z;simp only[rV,sI]at n;have h:∀q,B4 w (BX k) (.box T (cs.take shs.length)) q->B4 w (B k) (st2.L k) q:=fun q o=>B4.of P (by rw[<-t];exact o)
  have c1:Hx za w0 st2 E w Z B (k::f) (st.setL k (.box T (cs.take shs.length))) BX:=by
   refine⟨c.rel.addL (by omega) ⟨H,W.toArray,t.trans I,M,R,N,by simpa using b⟩ (fun j q _ o a=> ?_) (fun x r=>u x (sC r)) (fun q O J=>g.mrk.2 k q O (h q J)),fun j q a=> ?_⟩
   . exact c.disj g A j q (h q o) a
   . rw[St.L_setL]at a;by_cases v:j=k
     . subst v;rw[qJ rfl]at a;exact⟨j,by simp,h q a⟩
     . rw[qH v]at a;obtain⟨V,b,d⟩:=c.own j q a;exact⟨V,qM _ b,d⟩
  have:=A4a (l:=l) (cs:=cs.drop shs.length) g s c1 Q d U (fun x r=>u x (vM r)) (fun y hy=>D y (qM _ hy)) (fun y hy=>by
   intro a;rcases qS.1 a with a|a
   . exact n.1 (a▸vS hy)
   . exact G y (qM _ hy) a) n.2
  exact this
def Kd (a:C3 za w0 st2 E w Z B):∀ {shs:List Uv} {T:Type} {tl:T} {q:T->Prop} {cs:List C} {vs:List Value} {p:shD shs T},q tl->Co w Z B cs vs->X5 st2 shs tl cs=some p->shW shs q p
 | [],_,tl,q,[],vs,p,c,_,b=>by simp only[X5,rB]at b;subst b;exact c
 | [],_,_,_,_:: _,_,_,_,_,b=>by cases b
 | .val t::r,_,_,_,[],_,_,_,_,b=>by cases b
 | .own t e::r,_,_,_,[],_,_,_,_,b=>by cases b
 | .ownR t e c::r,_,_,_,[],_,_,_,_,b=>by cases b
 | .fix k::r,_,_,_,[],_,_,_,_,b=>by cases b
 | .fixB k::r,_,_,_,[],_,_,_,_,b=>by cases b
 | .fixB k::r,_,tl,q,f::cs,vs,p,d,⟨v,h,_,g,c⟩,b=>by
  simp only[X5]at b;exact Kd (shs:=r) a d c (E4 b).2
 | .fix k::r,_,tl,q,f::cs,vs,p,d,⟨v,h,_,g,c⟩,b=>by
  simp only[X5]at b;exact Kd (shs:=r) a d c (E4 b).2
 | .val t::r,_,tl,q,i::cs,vs,p,f,⟨v,j,e,c,d⟩,b=>by
  simp only[X5,bind_some,qL]at b;obtain⟨y,g,z,h,rfl⟩:=b;exact⟨C7.wf (fA c g),Kd a f d h⟩
 | .own t e::r,_,tl,q,k::cs,vs,p,g,⟨v,n,_,c,d⟩,b=>by
  simp only[X5,bind_some,qL]at b;obtain⟨l,f,z,h,rfl⟩:=b;obtain⟨o,i,j,_⟩:=NO a c f;exact⟨C7.wf (Bo (Z:=fun _=>True) i (j.mono fun _ _=>C7.mono (fun _ _=>trivial) (fun _ _=>rfl)) (fun _ _=>trivial)),Kd a g d h⟩
 | .ownR t e j::r,_,tl,q,i::cs,vs,p,g,⟨v,k,_,c,d⟩,b=>by
  simp only[X5,bind_some,qL]at b;obtain⟨l,f,z,h,rfl⟩:=b;exact⟨Bj.wf (nR a c f).1,Kd a g d h⟩
def A4i (a:C3 za w0 st2 E w Z B):∀ {l:List (Nat×LT)} {x:nO l},A6x st2 l=some x->C0i l x
 | [],_,_=>trivial
 | (k,t)::r,x,b=>by
  simp only[A6x,bind_some,qL]at b;obtain⟨l,c,z,d,rfl⟩:=b;exact⟨(IY a c).2.2,A4i a d⟩
def A3j {A:ER} {p:A.den} {o:St} (F:za.b0=0) (h:C3 za w0 st E w Z B) (g:gath A st=some (o,p)) (ab:B3y za.n st0) (a0:∀s∈A.keepS,o.eS s=st0.eS s) (X:∀k∈A.keepL,o.eL k=st0.eL k) (Y:∀y∈A.rowL,y.1<st0.nx) (W:o.fr=st0.fr):
 A.wf p/\∃Z' B',C3 za w0 (reflect A st0 p) E w Z' B':=by
 simp only[gath,qI,bind_some]at g;obtain⟨u,_,cs,j,tl,I,af,G,g⟩:=g;obtain⟨f,g⟩:=E4 g;cases g;simp only[qC,tU]at f;obtain⟨f,a5⟩:=f;obtain⟨Z0,V⟩:=h.plugL F (l:=A.rowL);obtain⟨Z1,d⟩:=C3.settleSh (shs:=A.shs) (cs:=u) V;generalize settleSh (plugL A.rowL st) A.shs u=st2 at*;have f:=Ic f;simp only[ER.cells,bind_some]at j;obtain⟨ac,a4,j⟩:=j;obtain⟨ag,a2,a3⟩:=bK d a4;obtain⟨ah,H,a6⟩:=bL d a2 j;refine⟨Kd d (A4i d I) H G, ?_⟩;have O:=B8p d ab a0 X W;have D:∀y∈A.rowL,y.1<A7m A.boxL st0.nx:=fun y b=>rD (Y y b) (Nm _ _)
 rw[tN]at f;obtain⟨ae,J,r⟩:=f;rw[tN]at J;obtain⟨a7,M,N⟩:=J;rw[tN]at M;obtain⟨a8,a9,aa⟩:=M;obtain⟨BX,P,Q,R,T,v,U⟩:=Qs F d O H G (fun q hq hk=>r q hk q (by simp[hq]) rfl) a7 (fun c hc k hk=>by
  have:=a5 _ hc;cases c with
  |fix ad=>
   cases hk;simp only[A9u,xU]at this;obtain⟨y,b,a1⟩:=this;have:=qD a1;subst this;exact⟨D y b,rfl⟩
  |fixB ad=>
   cases hk;simp only[A9u,xU]at this;obtain⟨y,b,a1⟩:=this;have:=qD a1;subst this;exact⟨XT y b,rfl⟩
  | _=>cases hk)
 have z:∀k,k<A7m A.boxL st0.nx->BX k=B k:=T;have t:=WX d z (x:=(placeSh A.shs p (kept A st0)).2.2) P v (by rw[U];exact I) D (fun y b a=>by
  rcases qZ.1 a with a|a
  . exact N y.1 a y.1 (by simp only[qZ,sW];exact .inl ⟨y,b,rfl⟩) rfl
  . exact r y.1 a y.1 (by simp only[qZ,sW];exact .inr (.inl ⟨y,b,rfl⟩)) rfl) a8
 have i:=A4b (l:=A.modS) t.1 Q a6 (by rw[t.2];exact R);refine⟨Z1,BX, ?_⟩;exact A4a d z i.1 (by rw[i.2.2.2,t.2];exact v) i.2.1 a3 (by rw[i.2.2.2];exact i.2.2.1) (fun y b=>XT y b) (fun y b a=>by
  rcases qZ.1 a with a|a
  . exact aa y.1 a y.1 (vS b) rfl
  . rcases qZ.1 a with a|a
    . exact N y.1 a y.1 (by simp only[qZ,sW];exact .inr ⟨y,b,rfl⟩) rfl
    . exact r y.1 a y.1 (by simp only[qZ,sW];exact .inr (.inr ⟨y,b,rfl⟩)) rfl) a9
end
def addA (a:St) (d:Tmp) (lc:LC) (mk:Nat->C):St:=(a.newL lc).setS d (one1 (mk a.nx))
def LO (cx:Cx) (a:St) (d:Tmp):Op->Option (Option Prop×LC×(Nat->C))
 | .alloc T=>do
  let ti<-cx.ti T
  some (none, .box T (AJ ti.ty),fun k=> .box k 0)
 | .makeSlice T c b=>do
  let ti<-cx.ti T
  let t<-slT ti.ty
  let l<-gB a c
  let c<-gB a b
  bif ti.nest.any (Nat.beq d)then do
   let a<-cx.ti ti.elem
   bif JO t then some (some (0<=l/\l<=c/\(ti.bytes:Int)*c<=281474976710656/\c<=9223372036854775807), .nest t ti.elem a.elem (List.replicate l.toNat t.dflt) [] (Ko t l.toNat), .row)else none
  else bif !ti.rows&&Qe t then some (some (0<=l/\l<=c/\(ti.bytes:Int)*c<=281474976710656/\c<=9223372036854775807), .row t ti.elem (List.replicate l.toNat t.dflt), .row)else none
 | _=>none
def A8h (lc:LC) (mk:Nat->C) (X:Obj) (f:Nat->Value):Prop:=
 ∀(d:Zn) (c w:World) (a:St) (E:H6) (Z:Nat->Prop) (B:Nat->Value) (h b:Nat),C3 d c a E w Z B->w.heap[b]? =some X->c.heap.size<=b->¬Z b->(∀k,¬B4 w (B k) (a.L k) b)->d.b0<=b->
  C3 d c (addA a h lc mk) (upd E h (f b)) w Z (upd B a.nx (f b))/\∀g,B4 w (f b) lc g->g=b
section
variable {za:Zn} {w0 w w':World} {st:St} {E:H6} {Z:Nat->Prop} {B:Nat->Value} {cx:Cx} {d:Tmp} {φ:Option Prop}
def C4.addA (st:St) (d:Tmp) (lc:LC) (mk:Nat->C):C4 st (addA st d lc mk):=(C4.newL _ _).trans (C4.setS _ _ _)
def B2c {a b e sz n c:Nat} {cs:Array Value} (h:w.heap[b]? =some (.cells cs e (0,0))) (g:a<=b) (d:cs.size=c*sz) (f:n<=c) (i:c<=maxLen):w.ownsRow a e sz (.slice (some ⟨b,0,none⟩) n c) n (cs.toList.take (n*sz)):=by
 refine⟨?_, .inr ⟨b,c,cs,rfl,g,h,f,i,d,rfl⟩⟩;rw[qU,sO,d];exact tD (rM _ f)
def A4w {op:Op} {lc:LC} {mk:Nat->C} (h:C3 za w0 st E w Z B) (U:G6 cx.P cx.tys=true) (a:LO cx st d op=some (φ,lc,mk)) (Y:JC φ):
 ∃(X:Obj) (f:Nat->Value),(∀ty w',Gw.E7 cx.P E ty op w' (f w'.heap.size) (w'.alloc X))/\A8h lc mk X f:=by
 unfold LO at a;split at a
 . simp only[qI,bind_some]at a;obtain⟨ti,I,a⟩:=a;cases a;obtain⟨z,J,k⟩:=Fe (L6 (C1 U I)).2.2;rename_i T;refine⟨.cells z.cells T,fun b=> .pointer (some ⟨b,0,none⟩),fun ty w'=>A4q J,fun za w0 w st E Z B d b h i o A y s=> ?_⟩;have F:=Bt (w:=w) (Z:=Z) (B:=B) (n:=st.nx) (Dc ti.ty);have G:∀c,B4 w (.pointer (some ⟨b,0,none⟩)) (.box T (AJ ti.ty)) c->c=b:=fun c g=>by
    simp only[B4,root,rB]at g;exact g.symm
   have a7:=h.new (v:= .pointer (some ⟨b,0,none⟩)) (lc:= .box T (AJ ti.ty)) ⟨b,z.cells,C2 _ _ _, .inl ⟨h.nms.2,o⟩,A,i,
    Co.mono (n:=st.nx) (fun _=>id) (fun _ _=>rfl) (fun a0 aa=>C5 _ _ _ _ (uC aa)) F.2 (by rw[k];exact F.1)⟩
    (fun a0 c g u=>y a0 (G c g▸u)) (fun c g=>(F.2 c g).le (uW _)) rfl (fun c _ g=>by rw[G c g];exact s)
   refine⟨a7.setS d (x:=one1 (.box st.nx 0)) ⟨_,[],rfl,⟨b,C2 _ _ _,rfl⟩,rfl⟩ (fun c g=> ?_),G⟩;simp at g;subst g;exact rN _
 . rename_i T ai a4;simp only[qI,bind_some]at a;obtain⟨ti,I,t,H,l,ab,c,g,a⟩:=a;have H:=Iq H;have a1:∀ {φ':Option Prop},JC (some (0<=l/\l<=c/\(ti.bytes:Int)*c<=281474976710656/\c<=9223372036854775807))->∃z:Value,z.cells.toList=Dc t/\z.cells.size=t.size/\l.toNat<=c.toNat/\c.toNat<=maxLen/\∀ty w',Gw.E7 cx.P E ty (.makeSlice T ai a4) w' (.slice (some ⟨w'.heap.size,0,none⟩) l.toNat c.toNat) (w'.alloc (.cells (madeCells z.cells (c.toNat*t.size)) ti.elem)):=by
    intro _ ⟨D,M,N,O⟩;obtain⟨a5,z,a2,Q,J,W,k,a3,i,a9⟩:=Fq (C1 U I) H;obtain⟨a6,j,_⟩:=h.int (F2 E) ab;obtain⟨a8,r,_⟩:=h.int (F2 E) g;refine⟨z,k,a3,by omega,by simp only[maxLen];omega,fun ty w'=> ?_⟩;have V:=run_make (P:=cx.P) w' T ti.elem a5 z a2 Q J a6 a8 l c D M (by rw[i];exact N) O;rw[<-W];exact fun _ _ _ _=>by simp[execOp,j,r,V]
   cases R:ti.nest.any (Nat.beq d)with
   |true=>
    simp only[R,qW,qI,bind_some]at a;obtain⟨aj,_,a⟩:=a;cases D:JO t with
    |false=>simp only[D,rJ]at a;cases a
    |true=>
     simp only[D,qW]at a;cases a;obtain⟨z,k,ah,ac,ad,W⟩:=a1 (φ':=none) Y;obtain⟨ag,N,V⟩:=dB D;rw[ag]at ah W;refine⟨_,fun b=> .slice (some ⟨b,0,none⟩) l.toNat c.toNat,W,fun za w0 w st E Z B d b h i o A y s=> ?_⟩;generalize Q:madeCells z.cells (c.toNat*1)=O at i;have a8:O.size=c.toNat*1:=by rw[<-Q];simp[madeCells]
     have af:=B2c (sz:=1) i o a8 ac ad;have ae:∀x∈O.toList.take (l.toNat*1),x=N:=fun x j=>by
      have j:=sC j;rw[<-Q]at j;simp only[madeCells,g1n,sW]at j;obtain⟨M,_,rfl⟩:=j;have r:z.cells.toList= [N]:=k.trans V;have a2:z.cells= #[N]:=by rw[<-tX (xs:=z.cells),r]
      rw[a2];simp[g4t]
     obtain⟨ak,am⟩:=dC D V.symm;obtain⟨a5,a6⟩:=h.newNestE d (t:=t) (e':=aj.elem) (dd:=Ko t l.toNat) af (fun M x j=>by
      have:=ae x (sX j);subst this;have a9:M<l.toNat:=by have:=(sP.1 j).1;rw[qU]at this;omega
      exact⟨ak,am _ _ _ M _ a9⟩) (fun a2 r=>by
      simp only[Value.ownBlock,rB]at r;subst r;exact⟨A,y⟩) (fun a2 _ r=>by simp only[Value.ownBlock,rB]at r;subst r;exact s)
     exact⟨a5,fun a3 u=>by have:=a6 a3 u;simp only[Value.ownBlock,rB]at this;exact this.symm⟩
   |false=>
    simp only[R,rJ]at a;cases r: !ti.rows&&Qe t with
    |false=>simp only[r,rJ]at a;cases a
    |true=>
     simp only[r,qW]at a;cases a;simp only[qC]at r;obtain⟨z,k,a5,M,W,a3⟩:=a1 (φ':=none) Y;refine⟨_,fun b=> .slice (some ⟨b,0,none⟩) l.toNat c.toNat,a3,fun za w0 w st E Z B d b h i o A y s=> ?_⟩;have D:G2 (C7 t w Z) ((madeCells z.cells (c.toNat*t.size)).toList.take (l.toNat*t.size)) (List.replicate l.toNat t.dflt):=MS k r.2 a5 _ _ M;generalize Q:madeCells z.cells (c.toNat*t.size)=O at i D;have V:O.size=c.toNat*t.size:=by rw[<-Q];simp[madeCells]
     have a2:=B2c i o V M W;refine⟨h.newRowE d (t:=t) (e:=ti.elem) (l:=List.replicate l.toNat t.dflt) (by rw[rK];exact a2) D (fun N j=>by
      simp only[Value.ownBlock,rB]at j;subst j;exact⟨A,y⟩) (fun N _ j=>by simp only[Value.ownBlock,rB]at j;subst j;exact s),fun a6 u=> ?_⟩
     have:=u;simp only[B4,root,rB]at this;exact this.symm
 . cases a
end
def EC (cx:Cx) (all:List Oper) (a:St):List Nat->(St->Prop)->St->Prop
 | [],k=>k
 |i::r,k=>fun b=>match all[i]? with
  |some o=>match LO cx a (Ff all i) o.op with
   |some (c,lc,mk)=>ZV c (EC cx all a r k (addA b (Ff all i) lc mk))
   |none=>False
  |none=>False
def A2g (all:List Oper) (f:Nat->Nat->Value) (bl:Nat->Nat):List Nat->H6->H6
 | [],E=>E
 |i::r,E=>A2g all f bl r (upd E (Ff all i) (f i (bl i)))
section
variable {za:Zn} {w0 w w':World} {Z:Nat->Prop} {cx:Cx} {all:List Oper} {st0:St} {k k':St->Prop} {f:Nat->Nat->Value} {X:Nat->Obj} {bl:Nat->Nat}
def dS:∀ {ls:List Nat} {c:St},EC cx all st0 ls k c->∀i∈ls,∃o φ lc mk,all[i]? =some o/\LO cx st0 (Ff all i) o.op=some (φ,lc,mk)/\JC φ
 | [],_,_,_,h=>by cases h
 |i::r,c,a,j,b=>by
  simp only[EC]at a;split at a
  . rename_i o h;split at a
    . rename_i φ lc mk g;obtain⟨d,f⟩:=E8.1 a;rcases qS.1 b with rfl|b
      . exact⟨o,φ,lc,mk,h,g,d⟩
      . exact dS f j b
    . exact a.elim
  . exact a.elim
def XJ:∀ {ls:List Nat} {a:St},EC cx all st0 ls k a->(∀b,C4 a b->k b->k' b)->EC cx all st0 ls k' a
 | [],a,h,c=>c a (C4.refl a) h
 |i::r,a,h,c=>by
  simp only[EC]at h⊢;split at h
  . split at h
    . exact E8.2 ⟨(E8.1 h).1,XJ (E8.1 h).2 fun b e a=>c b ((C4.addA _ _ _ _).trans e) a⟩
    . exact h
  . exact h
def GU {x:Nat} :∀ {l:List Nat} {E:H6},x∉Ak all l->A2g all f bl l E x=E x
 | [],_,_=>rfl
 |i::l,E,h=>by
  simp only[Ak,rV,qS,g4x]at h;simp only[A2g];rw[GU h.2,C5 _ _ _ _ h.1]
def oP {i:Nat} :∀ {l:List Nat} {E:H6},(Ak all l).Nodup->i∈l->A2g all f bl l E (Ff all i)=f i (bl i)
 | [],_,_,h=>by cases h
 |j::l,E,b,h=>by
  simp only[Ak,rV]at b;obtain⟨c,d⟩:=sI.1 b;simp only[A2g];by_cases a:i∈l
  . exact oP d a
  . rcases qS.1 h with rfl|h
    . rw[GU c,C2]
    . exact absurd h a
def nX:∀ {ls:List Nat} {a:St} {E:H6} {B:Nat->Value},C3 za w0 a E w Z B->(∀i∈ls,∀o φ lc mk,all[i]? =some o->LO cx st0 (Ff all i) o.op=some (φ,lc,mk)->A8h lc mk (X i) (f i))->
 (∀i∈ls,w.heap[bl i]? =some (X i)/\w0.heap.size<=bl i/\¬Z (bl i)/\za.b0<=bl i/\∀k,¬B4 w (B k) (a.L k) (bl i))->(∀i∈ls,∀j∈ls,i≠j->bl i≠bl j)->ls.Nodup->EC cx all st0 ls k a->∃s B',C3 za w0 s (A2g all f bl ls E) w Z B'/\k s
 | [],a,E,B,h,_,_,_,_,b=>⟨a,B,h,b⟩
 |i::T,a,E,B,M,r,g,n,O,b=>by
  simp only[EC]at b;obtain⟨Q,R⟩:=sI.1 O;split at b
  . rename_i o P;split at b
    . rename_i φ lc mk h;obtain⟨_,b⟩:=E8.1 b;obtain⟨v,x,y,z,A⟩:=g i (rI);obtain⟨I,J⟩:=r i rI o φ lc mk P h za w0 w a E Z B (Ff all i) (bl i) M v x y A z;refine nX (ls:=T) (E:=upd E (Ff all i) (f i (bl i))) I (fun j c=>r j (qM _ c)) (fun j c=> ?_) (fun t h u g=>n t (qM _ h) u (qM _ g)) R b;obtain⟨c1,D,F,G,H⟩:=g j (qM _ c);refine⟨c1,D,F,G,fun q d=> ?_⟩;have N:(addA a (Ff all i) lc mk).L q=(a.newL lc).L q:=rfl;rw[N,St.L_newL]at d;by_cases l:q=a.nx
      . subst l;rw[qJ rfl,C2]at d;exact n i rI j (qM _ c) (fun e=>Q (e▸c)) (J _ d).symm
      . rw[qH l,C5 _ _ _ _ l]at d;exact H q d
    . exact b.elim
  . exact b.elim
def dN:∀(l:List Nat) (E:H6) (w:World),l.Nodup->(Ak all l).Nodup->Q7 w (Fh all f X l E w).2/\∃bl:Nat->Nat,(∀i∈l,w.heap.size<=bl i/\(Fh all f X l E w).2.heap[bl i]? =some (X i)/\(Fh all f X l E w).1 (Ff all i)=f i (bl i))/\∀i∈l,∀j∈l,i≠j->bl i≠bl j
 | [],_,w,_,_=>⟨Q7.refl w,fun _=>0,by simp,by simp⟩
 |i::r,E,w,z,o=>by
  obtain⟨D,F⟩:=sI.1 z;simp only[Ak,rV]at o;obtain⟨s,t⟩:=sI.1 o;obtain⟨n,bl,h,x⟩:=dN r (upd E (Ff all i) (f i w.heap.size)) (w.alloc (X i)) F t;have B:Q7 w (w.alloc (X i)):=Q7.alloc w _;have A:(w.alloc (X i)).heap.size=w.heap.size+1:=Array.size_push ..;simp only[Fh];refine⟨B.trans n,fun j=>if j=i then w.heap.size else bl j,fun j d=> ?_,fun a ha b hb hab=> ?_⟩
  . rcases qS.1 d with rfl|d
    . have y:(if j=j then w.heap.size else bl j)=w.heap.size:=qJ rfl;show w.heap.size<=(if j=j then w.heap.size else bl j)/\(Fh all f X r _ _).2.heap[if j=j then w.heap.size else bl j]? = _ /\ _=f j (if j=j then w.heap.size else bl j);rw[y];refine⟨qT _, ?_,by rw[Hp _ _ _ s,C2]⟩;rw[n.block _ (by rw[A];exact rN _)];exact heap_alloc_new w _
    . have:j≠i:=fun e=>D (e▸d)
      simp only[qH this];obtain⟨G,u,v⟩:=h j d;exact⟨by omega,u,v⟩
  . simp only;have g:∀q,q∈i::r->q≠i->q∈r:=fun q hq hqi=>(qS.1 hq).resolve_left hqi
    by_cases c:a=i
    . rw[qJ c,qH (fun e=>hab (c.trans e.symm))];have:=(h b (g b hb (fun e=>hab (c.trans e.symm)))).1;omega
    . rw[qH c];by_cases k:b=i
      . rw[qJ k];have:=(h a (g a ha c)).1;omega
      . rw[qH k];exact x a (g a ha c) b (g b hb k) hab
end
structure K where
 n:St->Prop
 x:Nat->St->Prop
 r:St->Prop
def K.at (k:K):Exit->St->Prop
 | .normal=>k.n
 | .exit i=>k.x i
 | .ret=>k.r
 | _=>fun _=>False
structure An where
 join:List (Nat×ER):= []
 loop:List (Nat×ER):= []
 plan:List (Nat×List Nat×List Nat×Bool×Pl):= []
def lead:Code->Option Nat
 | .region id _ _=>some id
 | .seq a b=>match lead a with
  |some i=>some i
  |none=>lead b
 | .cond _ a b=>match lead a with
  |some i=>some i
  |none=>lead b
 | .block _ c=>lead c
 | .loop c=>lead c
 | _=>none
def B7r (l:List (Nat×ER)):Option Nat->Option ER
 |some i=>Fo i l
 |none=>none
def C4t (A:ER) (a:St) (b:(St->Prop)->Prop) (c:St->Prop):Prop:=
 ∃J:A.den->Prop,b (LY A a J)/\∀p,A.wf p->J p->c (reflect A a p)
def B8e (A:ER) (a:St) (d:(St->Prop)->St->Prop):Prop:=
 match gath A a with
 |some (a,f)=>bif(A.rowL.all fun x=>Nat.blt x.1 a.nx)&&(A.boxL.all fun x=>Nat.blt x.1 a.nx)then
  (∃(I:A.den->Prop) (c:A.den->Nat),I f/\∀p,A.wf p->I p->d (LY A a fun b=>I b/\c b<c p) (reflect A a p))else False
 |none=>False
def Nk (cx:Cx) (all:List Oper) (o:Oper) (k:St->Prop) (a:St):Prop:=
 match o.guard with
 |none=>match Ym cx a [] o.op with
  |some (b,v)=>match o.dst with
   |some d=>ZV b (k (a.setS d v))
   |none=>False
  |none=>match o.op with
   | .load T x=>match o.dst with
    |some d=>(match cM cx a d T x with
     |some b=>k b
     |none=>False)
    |none=>False
   | _=>False
 |some (j,b)=>match(all[j]?).bind (·.dst)with
  |some t=>bif Mw a 20 t then(match o.dst with
   |some d=>bif !(Nat.beq t d)then(match Ym cx a (gctx a 20 t b) o.op with
    |some (c, .one s)=>bif s.cs.all (B2o a.nx)then ZV (B5d (ctxP a (gctx a 20 t b)) c) (k (a.setS d (.cnd t b s)))else False
    |some _=>False
    |none=>match o.op with
     | .load T x=>(match cJ cx a (gctx a 20 t b) t b d T x with
      |some a=>k a
      |none=>False)
     | _=>False)else False
   |none=>False)else False
  |none=>False
def PC (cx:Cx) (all:List Oper):List Nat->(St->Prop)->St->Prop
 | [],k=>k
 |j::r,k=>fun a=>match all[j]? with
  |some o=>bif !(B1g o.op)&&B6t (cZ all j) (Ak all (j::r))then Nk cx all o (PC cx all r k) a else False
  |none=>False
def R1 (cx:Cx) (sp:G4) (all:List Oper) (tails:List Nat) (n0:Nat) (nw:Bool):Pl->Bool->Bool->(St->Prop)->St->Prop
 | .done,_,_,k=>k
 | .q i p,a,t,k=>fun b=>match all[i]? with
  |some o=>bif a|| !nw then Nk cx all o (R1 cx sp all tails n0 nw p a t k) b else False
  |none=>False
 | .p i p,a,t,k=>fun b=>match all[i]? with
  |some o=>bif !(B1g o.op)then Nk cx all o (R1 cx sp all tails n0 nw p a t k) b else False
  |none=>False
 | .e i p,_,t,k=>fun a=>match all[i]? with
  |some o=>bif((t||tails.contains i) || !(ZL sp a o) || (nw&&frO n0 a o.op))&&(!nw||gX sp n0 a o.op)then ED cx sp all o (R1 cx sp all tails n0 nw p false (t||tails.contains i) k) a else False
  |none=>False
 | .or i p q,b,t,k=>fun a=>
  (match all[i]? with
  |some o=>bif((t||tails.contains i) || !(ZL sp a o) || (nw&&frO n0 a o.op))&&(!nw||gX sp n0 a o.op)then ED cx sp all o (R1 cx sp all tails n0 nw p false (t||tails.contains i) k) a else False
  |none=>False)/\R1 cx sp all tails n0 nw q b t k a
 | .al a b p,_,t,k=>fun c=>bif A4v all a b then EC cx all c a (PC cx all b (R1 cx sp all tails n0 nw p false t k)) c else False
def Mo (cx:Cx) (sp:G4) (an:An):Code->K->St->Prop
 | .skip,k=>k.n
 | .label _,k=>k.n
 | .region id ops b,k=>fun a=>bif b then(match Fo id an.plan with
  |some (c,b,d,p)=>bif B7y ops.toList c b p&&cx.P.follows .mixedOrders then R1 cx sp ops.toList b a.nx d p true false k.n a else False
  |none=>False)else XL cx sp ops.toList ops.toList k.n a
 | .seq c b,k=>fun a=>match B7r an.join (lead b)with
  |some A=>C4t A a (fun j=>Mo cx sp an c {k with n:=j} a) (Mo cx sp an b k)
  |none=>Mo cx sp an c {k with n:=Mo cx sp an b k} a
 | .cond d b c,k=>fun a=>match(a.ev [] d).bind OG with
  |some e=>(e=true->Mo cx sp an b k a)/\(e=false->Mo cx sp an c k a)
  |none=>False
 | .block id c,k=>Mo cx sp an c {k with x:=fun i a=>bif Nat.beq i id then k.n a else k.x i a}
 | .loop c,k=>fun a=>match B7r an.loop (lead c)with
  |some A=>B8e A a fun j=>Mo cx sp an c {k with n:=j}
  |none=>False
 | .exit i,k=>k.x i
 | .ret,k=>k.r
 | _,_=>fun _=>False
section
variable {za:Zn} {w0:World} {cx:Cx} {sp:G4} {an:An} {all:List Oper}
def Ub {o:Oper} {k k':St->Prop} {b:St} (h:Nk cx all o k b) (a:∀c,C4 b c->k c->k' c):Nk cx all o k' b:=by
 unfold Nk at h⊢;split at h
 . split at h
   . split at h
     . exact E8.2 ⟨(E8.1 h).1,a _ (C4.setS _ _ _) (E8.1 h).2⟩
     . exact h
   . split at h
     . split at h
       . split at h
         . rename_i b;exact a _ (cO b) h
         . exact h
       . exact h
     . exact h
 . split at h
   . obtain⟨c,h⟩:=B9 h;simp only[c,qW];split at h
     . obtain⟨c,h⟩:=B9 h;simp only[c,qW];split at h
       . obtain⟨c,h⟩:=B9 h;simp only[c,qW];exact E8.2 ⟨(E8.1 h).1,a _ (C4.setS _ _ _) (E8.1 h).2⟩
       . exact h
       . split at h
         . split at h
           . rename_i b;exact a _ (cK b) h
           . exact h
         . exact h
     . exact h
   . exact h
def XM:∀ {ls:List Nat} {k k':St->Prop} {a:St},PC cx all ls k a->(∀b,C4 a b->k b->k' b)->PC cx all ls k' a
 | [],_,_,a,h,b=>b a (C4.refl a) h
 |j::r,_,_,a,h,f=>by
  simp only[PC]at h⊢;split at h
  . obtain⟨a,h⟩:=B9 h;simp only[a,qW];exact Ub h fun b a c=>XM c fun g b d=>f g (a.trans b) d
  . exact h
def Ai {tails:List Nat} {n0:Nat} {nw:Bool} :∀ {p:Pl} {pre t:Bool} {k k':St->Prop} {a:St},R1 cx sp all tails n0 nw p pre t k a->(∀b,C4 a b->k b->k' b)->R1 cx sp all tails n0 nw p pre t k' a
 | .done,_,_,_,_,a,h,b=>b a (C4.refl a) h
 | .q i p,pre,t,_,_,a,h,g=>by
  simp only[R1]at h⊢;split at h
  . obtain⟨b,h⟩:=B9 h;simp only[b,qW]at h⊢;exact Ub h fun c b d=>Ai d fun i c f=>g i (b.trans c) f
  . exact h
 | .p i p,pre,t,_,_,a,h,g=>by
  simp only[R1]at h⊢;split at h
  . obtain⟨b,h⟩:=B9 h;simp only[b,qW];exact Ub h fun c b d=>Ai d fun i c f=>g i (b.trans c) f
  . exact h
 | .e i p,pre,t,_,_,a,h,g=>by
  simp only[R1]at h⊢;split at h
  . obtain⟨b,h⟩:=B9 h;simp only[b,qW];exact GO h fun c b d=>Ai d fun i c f=>g i (b.trans c) f
  . exact h
 | .or i p q,pre,t,_,_,a,h,b=>by
  simp only[R1]at h⊢;refine⟨?_,Ai h.2 b⟩;have h:=h.1;split at h
  . obtain⟨c,h⟩:=B9 h;simp only[c,qW];exact GO h fun d c f=>Ai f fun i d g=>b i (c.trans d) g
  . exact h
 | .al b c p,pre,t,_,_,a,h,g=>by
  simp only[R1]at h⊢;obtain⟨a,h⟩:=B9 h;simp only[a,qW];exact XJ h fun b a c=>XM c fun f b d=>Ai d fun h c f=>g h (a.trans (b.trans c)) f
def C4.told (A:ER) (a:St) (p:A.den):C4 a (Vc.reflect A a p):=
 ⟨qY (uW _) (C4.reflect A a p).ct,fun _ b c=>nN b c,fun _ b c=>iI b c,(C4.reflect A a p).f.le (uW _)⟩
def C4.gath {A:ER} {a b:St} {p:A.den} (h:gath A a=some (b,p)):C4 a b:=by
 simp only[Vc.gath,qI,bind_some]at h;obtain⟨d,_,c,_,tl,_,f,_,h⟩:=h;obtain⟨_,h⟩:=E4 h;cases h;exact(C4.plugL _ _).trans (C4.settleSh _ _ _)
def NQ:∀ {c:Code} {k k':K} {a:St},Mo cx sp an c k a->(∀e b,C4 a b->k.at e b->k'.at e b)->Mo cx sp an c k' a:=by
 intro c
 induction c with
 |skip=>intro k k' a h d;exact d .normal a (C4.refl a) h
 |label l=>intro k k' a h d;exact d .normal a (C4.refl a) h
 |region id ops f=>
  intro k k' a h d;simp only[Mo]at h⊢;cases f with
  |true=>
   simp only[qW]at h⊢;split at h
   . obtain⟨g,h⟩:=B9 h;simp only[g,qW];exact Ai h fun b e=>d .normal b e
   . exact h
  |false=>
   simp only[rJ]at h⊢;exact OZ h fun b e=>d .normal b e
 |seq v w j l=>
  intro k k' a h f;simp only[Mo]at h⊢;split at h
  . rename_i A _;obtain⟨J,r,i⟩:=h;refine⟨J,j r fun e b ev d=> ?_,fun p t s=>l (i p t s) fun e b ev d=> ?_⟩
    . cases e with
      |normal=>exact d
      |exit o=>exact f (.exit o) b ev d
      |ret=>exact f .ret b ev d
      | _=>exact d
    . exact f e b ((C4.told A a p).trans ev) d
  . refine j h fun e n g d=> ?_
    cases e with
    |normal=>exact l d fun e u o i=>f e u (g.trans o) i
    |exit o=>exact f (.exit o) n g d
    |ret=>exact f .ret n g d
    | _=>exact d
 |cond c i j f g=>
  intro k k' a h d;simp only[Mo]at h⊢;split at h
  . exact⟨fun e=>f (h.1 e) d,fun e=>g (h.2 e) d⟩
  . exact h
 |block id c j=>
  intro k k' a h f;simp only[Mo]at h⊢;refine j h fun e b ev d=> ?_
  cases e with
  |exit i=>
   simp only[K.at]at d⊢;cases g:Nat.beq i id with
   |true=>simp only[g,qW]at d⊢;exact f .normal b ev d
   |false=>simp only[g,rJ]at d⊢;exact f (.exit i) b ev d
  |normal=>exact f .normal b ev d
  |ret=>exact f .ret b ev d
  | _=>exact d
 |loop c t=>
  intro k k' a h g;simp only[Mo]at h⊢;split at h
  . rename_i A _;unfold B8e at h⊢;split at h
    . rename_i i v f;obtain⟨o,h⟩:=B9 h;simp only[o,qW];obtain⟨I,u,j,l⟩:=h;refine⟨I,u,j,fun p r n=>t (l p r n) fun e b ev d=> ?_⟩;cases e with
      |normal=>exact d
      |exit s=>exact g (.exit s) b ((C4.gath f).trans ((C4.told A i p).trans ev)) d
      |ret=>exact g .ret b ((C4.gath f).trans ((C4.told A i p).trans ev)) d
      | _=>exact d
    . exact h
  . exact h
 |exit i=>intro k k' a h d;exact d (.exit i) a (C4.refl a) h
 |ret=>intro k k' a h d;exact d .ret a (C4.refl a) h
 | _=>intro k k' a h d;exact h
def bF {A:ER} (k:za.b0=0) {b c:St} {J:A.den->Prop} {E:H6} {w:World} {Z:Nat->Prop} {B:Nat->Value} (h:C3 za w0 c E w Z B) (a:LY A b J c) (v:B3y za.n b) (ev:C4 b c):∃p,A.wf p/\J p/\∃Z' B',C3 za w0 (reflect A b p) E w Z' B':=by
 unfold LY at a;split at a
 . rename_i b p d;obtain⟨b,a⟩:=B9 a;simp only[B0s,qC,tU]at b;obtain⟨⟨⟨i,j⟩,t⟩,u⟩:=b;have c:=ev.trans (C4.gath d);have b:∀ {n g:Nat},fY n g=true->g≠0/\g<=n:=fun hh=>by
    simp only[fY,qC]at hh;have o:=qQ hh.1;have o:=qQ hh.2;omega
   obtain⟨r,Z',B',o⟩:=A3j k h d v (fun s hs=>c.s s (b (i s hs)).1 (b (i s hs)).2) (fun q hq=>c.l q (b (j q hq)).1 (b (j q hq)).2) (fun y hy=>Xi (t y hy)) (c.f.old u);exact⟨p,r,a,Z',B',o⟩
 . exact a.elim
variable (hty:G6 cx.P cx.tys=true) (hsp:Sl cx.P sp)
include hty in
theorem GP {S:World->Prop} {o:Oper} {k:St->Prop} {I:St} {E:H6} {w:World} {Z:Nat->Prop} {B:Nat->Value} (j:∀w',S w'->(B1g o.op=true->Q7 w w')) (h:C3 za w0 I E w Z B) (a:Nk cx all o k I):GL cx.P S all o (Nx za w0 k) E w:=by
 obtain⟨a1,X,ty,G,A,a2⟩:=o;unfold Nk at a;simp only at a j;split at a
 . split at a
   . rename_i Y a6 y;split at a
     . rename_i d;replace a:=E8.1 a;obtain⟨u,c,f,r⟩:=BJ (ty:=ty) h hty (F2 E) y a.1;exact .inl ⟨rfl,u,fun w' g=>c w' (j w' g) _ _ _ _,_,_,_,h.setS d (f _) r,a.2⟩
     . exact a.elim
   . split at a
     . rename_i T x _;split at a
       . rename_i d;split at a
         . rename_i a4 s;obtain⟨u,B',c,f⟩:=mQ (ty:=ty) h hty s;exact .inl ⟨rfl,u,fun w' g=>c w' (j w' g rfl) _ _ _ _,_,_,_,f,a⟩
         . exact a.elim
       . exact a.elim
     . exact a.elim
 . rename_i F i;split at a
   . rename_i t l;have a3:=(B9 a).1;replace a:=(B9 a).2;split at a
     . rename_i d;have U:=(B9 a).1;replace a:=(B9 a).2;have z:t≠d:=vF (by simpa using U);split at a
       . rename_i Y H y;obtain⟨R,a⟩:=B9 a;replace a:=E8.1 a;rw[mE]at a;by_cases b:E t= .bool i
         . have D:=h.gctx (n:=20) b;obtain⟨u,c,f,r⟩:=BJ (ty:=ty) h hty D y (a.1 (h.ctxP D));refine .inl ⟨JL l b,u,fun w' g=>c w' (j w' g) _ _ _ _,_,_,_,h.setS d (x:= .cnd t i H) (.inl ⟨?_,f E⟩) r,a.2⟩;rw[C5 _ _ _ _ z];exact b
         . have v:D9 all ⟨some d,X,ty,G,A,some (F,i)⟩ E=false:=by
            unfold D9 Z7;simp only[l];cases N:E t with
            |bool a0=>simp only[vK,g4i,rB];intro Q;exact b (by rw[N,Q])
            | _=>rfl
           refine .inr ⟨v,_,_,_,h.setS d (x:= .cnd t i H) (.inr ⟨?_,rfl⟩) (fun J O=>iH (tU.1 R J O)),a.2⟩;rw[C5 _ _ _ _ z];exact b
       . exact a.elim
       . split at a
         . rename_i T x _;split at a
           . rename_i a5 s;obtain⟨V,W⟩:=mP (ty:=ty) h hty z s;by_cases b:E t= .bool i
             . obtain⟨u,B',c,f⟩:=V b (h.gctx (n:=20) b);exact .inl ⟨JL l b,u,fun w' g=>c w' (j w' g rfl) _ _ _ _,_,_,_,f,a⟩
             . have v:D9 all ⟨some d, .load T x,ty,G,A,some (F,i)⟩ E=false:=by
                unfold D9 Z7;simp only[l];cases N:E t with
                |bool a0=>simp only[vK,g4i,rB];intro Q;exact b (by rw[N,Q])
                | _=>rfl
               obtain⟨B',M⟩:=W b;exact .inr ⟨v,_,_,_,M,a⟩
           . exact a.elim
         . exact a.elim
     . exact a.elim
   . exact a.elim
theorem XB {P:Program} {S:World->Prop} {o:Oper} {n a:H6->World->Prop} {E:H6} {w:World} (h:GL P S all o n E w) (c:∀E',n E' w->a E' w):GL P S all o a E w:=by
 rcases h with⟨a,v,b,d⟩ | ⟨a,b⟩
 . exact .inl ⟨a,v,b,c _ d⟩
 . exact .inr ⟨a,c _ b⟩
def RW (nw:Bool) (b0:Nat) (w w':World):Prop:=bif nw then(Below b0 w w'/\True)else Q7 w w'
theorem RW.of {nw:Bool} {b0:Nat} {w w':World} (a:b0<=w.heap.size) (h:Q7 w w'):RW nw b0 w w':=by
 cases nw with
 |true=>exact⟨⟨h.os,h.tape,h.output,h.size,fun k b=>h.block k (rD b a)⟩,h.drw⟩
 |false=>exact h
theorem RW.refl (nw:Bool) (b0:Nat) (w:World):RW nw b0 w w:=by
 cases nw with
 |true=>exact⟨Below.refl _ _,trivial⟩
 |false=>exact Q7.refl _
theorem RW.trans {nw:Bool} {b0:Nat} {a b c:World} (h:RW nw b0 a b) (d:RW nw b0 b c):RW nw b0 a c:=by
 cases nw with
 |true=>exact⟨Below.trans h.1 d.1,trivial⟩
 |false=>exact Q7.trans h d
include hty hsp in
theorem A4l {nw tl:Bool} {n0:Nat} {k:St->Prop} {o:Oper} {d:St} {E:H6} {w:World} {Z:Nat->Prop} {B:Nat->Value} (i:nw=true->za.k0=n0) (s:nw=false->za.b0=0) (h:C3 za w0 d E w Z B)
 (b:((tl|| !(ZL sp d o) || (nw&&frO n0 d o.op))&&(!nw||gX sp n0 d o.op))=true) (a:ED cx sp all o k d):M9 cx.P all o (fun E' w'=>(tl=true\/RW nw za.b0 w w')/\Nx za w0 k E' w') E w:=by
 simp only[qC,vA,rQ]at b;obtain⟨b,c⟩:=b;have j:za.b0=0\/gX sp za.k0 d o.op=true:=by
  cases f:nw with
  |false=>exact .inl (s f)
  |true=>rw[f]at c;exact .inr (by rw[i f];simpa using c)
 rcases b with(b|b) |b
 . refine N7 ?_ (XK h j hty hsp a);rintro E' w' ⟨_,n⟩;exact⟨.inl b,n⟩
 . refine N7 ?_ (XK h j hty hsp a);rintro E' w' ⟨y,n⟩;exact⟨.inr (RW.of h.mrk.1 (y b)),n⟩
 . obtain⟨v,b⟩:=b;subst v;obtain⟨l,D,H,F,A,r⟩:=o;have t:=b;unfold frO at b;split at b
   . rename_i T p z g;simp only at g;subst g;unfold ED at a;simp only at a;cases r with
     |none=>
      simp only[Ym]at a;cases l with
      |none=>
       simp only at a;have u:FU d (.store T p z)=false:=by
        rcases c with c|c
        . cases c
        . simp only[gX,qC,rQ]at c;exact c.2
       rw[mZ u]at a;simp only at a;split at a
       . rename_i I G x;refine N7 ?_ (dZ h hty x (E8.1 a).1 (E8.1 a).2 rfl);rintro E' w' ⟨f,n⟩;exact⟨.inr (f (by rw[i rfl];exact t)),n⟩
       . exact a.elim
      |some f=>exact a.elim
     |some f=>
      obtain⟨x,u⟩:=f;simp only[Ym]at a;split at a
      . obtain⟨_,a⟩:=B9 a;split at a
        . obtain⟨_,a⟩:=B9 a;exact a.elim
        . exact a.elim
      . exact a.elim
   . cases b
include hty in
theorem nY {k:St->Prop} :∀ {d:List Nat},(∀j∈d,iE all j=true)->(Ak all d).Nodup->∀ {f:St} {E:H6} {w:World} {Z:Nat->Prop} {B:Nat->Value},C3 za w0 f E w Z B->PC cx all d k f->∃F,(∀x,x∉Ak all d->F x=E x)/\AlV cx.P all d F/\Nx za w0 k F w
 | [],_,_,f,E,w,Z,B,h,b=>⟨E,fun _ _=>rfl,fun _ a=>(by cases a),f,Z,B,h,b⟩
 |j::W,r,o,f,E,w,Z,B,A,b=>by
  simp only[PC]at b;simp only[Ak,rV]at o;obtain⟨T,U⟩:=sI.1 o;split at b
  . rename_i t i;obtain⟨g,b⟩:=B9 b;simp only[qC,rQ]at g;obtain⟨G,H,I⟩:=Yl (r j rI) i;have N:=NT g.2;have J:=GP (S:=fun _=>True) (all:=all) hty (fun v _ hh=>by rw[hh]at g;cases g.1) A b;have R:D9 all t E=true:=by simp[D9,H]
    rcases J with⟨_,V,Q,X,Z1,B1,n,M⟩ | ⟨s,_⟩
    . rw[G]at n;obtain⟨F,h,y,z⟩:=nY (fun l c=>r l (qM _ c)) U n M;have D:F (Ff all j)=V:=by rw[h _ T];exact C2 _ _ _
      refine⟨F,fun x a=> ?_,fun l c=> ?_,z⟩
      . simp only[Ak,rV,qS,g4x]at a;rw[h x a.2];exact C5 _ _ _ _ a.1
      . rcases qS.1 c with rfl|c
        . refine⟨t,i,fun v=> ?_⟩;rw[D,MG (E:=F) (E':=E) i I fun u O=> ?_]
          . exact Q v trivial
          . have a:=N u O;simp only[Ak,rV,qS,g4x]at a;rw[h u a.2];exact C5 _ _ _ _ a.1
        . exact y l c
    . rw[R]at s;cases s
  . exact b.elim
theorem RW.size {nw:Bool} {b0:Nat} {a b:World} (h:RW nw b0 a b):a.heap.size<=b.heap.size:=by
 cases nw with
 |true=>exact h.1.size
 |false=>exact(show Q7 a b from h).size
include hty in
theorem A7c {nw:Bool} {b s:List Nat} {k:St->Prop} {v:St} {E:H6} {w:World} {Z:Nat->Prop} {B:Nat->Value} (N:A4v all b s=true) (h:C3 za w0 v E w Z B) (M:EC cx all v b (PC cx all s k) v):∃f X,A8b cx.P (RW nw za.b0) all b s f X (Nx za w0 k) E w:=by
 simp only[A4v,qC,tU]at N;obtain⟨⟨⟨a6,u⟩,r⟩,ah⟩:=N;have u:=(tN.1 (Kp u)).1;have r:=Kp r;have r:(Ak all b++Ak all s).Nodup:=by simpa[Ak]using r
 obtain⟨F,T,a9⟩:=tN.1 r;have I:=dS M;have a1:∀i,∃x:Obj×(Nat->Value),i∈b->∀o n lc mk,all[i]? =some o->LO cx v (Ff all i) o.op=some (n,lc,mk)->(∀d,(execOp (ev E) o).run cx.P d= .ok (.value (x.2 d.heap.size)) (d.alloc x.1))/\A8h lc mk x.1 x.2:=fun i=>by
  by_cases a:i∈b
  . obtain⟨o,n,lc,mk,l,j,Q⟩:=I i a;obtain⟨X,f,U,V⟩:=A4w h hty j Q;refine⟨(X,f),fun _ ae aj ac ad J z=> ?_⟩;rw[l]at J;cases J;rw[j]at z;cases z;obtain⟨aa,af,a7,ag,a8,ab⟩:=o;exact⟨fun d=>U a7 d _ _ _ _,V⟩
  . exact⟨(.cells #[] 0 (0,0),fun _=>undef),fun a2=>absurd a2 a⟩
 obtain⟨g,H⟩:=g1o a1;refine⟨fun i=>(g i).2,fun i=>(g i).1,⟨fun i a=> ?_,fun i a d a5=>RW.of (qY h.mrk.1 a5.size) (Q7.alloc d _),fun t c=> ?_⟩⟩
 . obtain⟨o,n,lc,mk,l,j,Q⟩:=I i a;exact⟨o,l,(H i a o n lc mk l j).1⟩
 . have a4:t.Nodup:=c.nodup_iff.2 u;have a3:(Ak all t).Nodup:=(c.map _).nodup_iff.2 F;obtain⟨O,bl,D,R⟩:=dN (f:=fun i=>(g i).2) (X:=fun i=>(g i).1) t E w a4 a3;have W:=h.more (Z':=Z) O (fun _=>id) (fun _=> .inl);obtain⟨ai,B1,G,Y⟩:=nX (f:=fun i=>(g i).2) (X:=fun i=>(g i).1) (bl:=bl) W (fun i a o n lc mk l j=>(H i a o n lc mk l j).2) (fun i a=>by
    obtain⟨c1,z,a2⟩:=D i (c.symm.subset a);refine⟨z,qY h.ext.size c1,fun V=> ?_,qY h.mrk.1 c1,fun q U=> ?_⟩
    . have:=h.zlt _ V;omega
    . have:=((h.locs q).root (h.ft O U)).2.1;omega) (fun i a A y J=>R i (c.symm.subset a) A (c.symm.subset y) J) u M
   have a0:A2g all (fun i=>(g i).2) bl b E=(Fh all (fun i=>(g i).2) (fun i=>(g i).1) t E w).1:=funext fun x=>by
    by_cases z:x∈Ak all b
    . obtain⟨i,a,e⟩:=J6.1 z;subst e;rw[oP F a,(D i (c.symm.subset a)).2.2]
    . rw[GU z,Hp _ _ _ fun J=>z ((c.map _).subset J)]
   rw[a0]at G;exact nY hty (fun A y=>a6 A (tJ _ y)) T G Y
include hty hsp in
theorem Cn {za0:Zn} {tails:List Nat} {n0:Nat} {nw:Bool} {k:St->Prop} (d:nw=true->za.k0=n0) (c:nw=false->za.b0=0) (f:∀ {a:St} {E:H6} {w:World} {Z:Nat->Prop} {B:Nat->Value},C3 za w0 a E w Z B->C3 za0 w0 a E w Z B):∀ {p:Pl} {pre t:Bool} {a:St} {E:H6} {w:World} {Z:Nat->Prop} {B:Nat->Value},(nw=true->pre=true->za.b0=w.heap.size)->C3 za w0 a E w Z B->R1 cx sp all tails n0 nw p pre t k a->UM cx.P (RW nw za.b0) all tails (Nx za0 w0 k) p t E w
 | .done,_,_,_,_,_,_,_,_,h,b=>⟨_,_,_,f h,b⟩
 | .q u p,pre,t,a,E,w,Z,B,h,i,b=>by
  simp only[R1]at b;split at b
  . rename_i r n;obtain⟨o,b⟩:=B9 b;refine⟨r,n,XB (GP hty (fun s g _=> ?_) i b) ?_⟩
    . cases nw with
      |false=>exact g
      |true=>
       have g:Below za.b0 w s/\True:=g;rw[h rfl (by simpa using o)]at g;exact⟨g.1,g.2⟩
    . rintro E' ⟨v,Z',B',j,l⟩;exact Cn d c f h j l
  . exact b.elim
 | .p s p,pre,t,a,E,w,Z,B,o,h,b=>by
  simp only[R1]at b;split at b
  . rename_i r n;obtain⟨g,b⟩:=B9 b;refine⟨r,n,XB (GP hty (fun v _ j=>by rw[j]at g;cases g) h b) ?_⟩;rintro E' ⟨u,Z',B',i,l⟩;exact Cn d c f o i l
  . exact b.elim
 | .e r p,pre,t,a,E,w,Z,B,u,h,b=>by
  simp only[R1]at b;split at b
  . rename_i s n;obtain⟨l,b⟩:=B9 b;refine⟨s,n,N7 ?_ (A4l hty hsp d c (tl:=t||tails.contains r) h l b)⟩;rintro E' x ⟨o,v,Z',B',g,j⟩;exact⟨o,Cn d c f (fun _ i=>by cases i) g j⟩
  . exact b.elim
 | .or s p q,pre,t,a,E,w,Z,B,o,h,b=>by
  simp only[R1]at b;refine⟨?_,Cn d c f o h b.2⟩;have b:=b.1;split at b
  . rename_i u n;obtain⟨l,b⟩:=B9 b;refine⟨u,n,N7 ?_ (A4l hty hsp d c (tl:=t||tails.contains s) h l b)⟩;rintro E' x ⟨r,v,Z',B',g,j⟩;exact⟨r,Cn d c f (fun _ i=>by cases i) g j⟩
  . exact b.elim
 | .al y z p,pre,t,a,E,w,Z,B,x,l,b=>by
  simp only[R1]at b;obtain⟨u,b⟩:=B9 b;obtain⟨h,X,g⟩:=A7c (nw:=nw) hty u l b;refine⟨h,X,g.one,g.rel,fun v s=> ?_⟩;obtain⟨F,i,j,A,Z',B',n,r⟩:=g.fin v s;exact⟨F,i,j,Cn d c f (fun _ o=>by cases o) n r⟩
theorem C3.marked {a:St} {E:H6} {w:World} {Z:Nat->Prop} {B:Nat->Value} (h:C3 za w0 a E w Z B):C3 {za with k0:=a.nx,b0:=w.heap.size} w0 a E w Z B:=
 ⟨h.ext,h.zlt,h.slots,h.locs,h.disj,h.refs,h.refl,h.fresh,h.bone,h.zin,h.nms,h.bfix,⟨qT _,fun k d c b=>by
  have:a.L k= .none:=h.fresh k c;rw[this]at b;exact b.elim⟩,h.frs,h.frf⟩
theorem C3.unmark {k0 b0:Nat} (a:za.b0=0) {b:St} {E:H6} {w:World} {Z:Nat->Prop} {B:Nat->Value} (h:C3 {za with k0:=k0,b0:=b0} w0 b E w Z B):C3 za w0 b E w Z B:=
 ⟨h.ext,h.zlt,h.slots,h.locs,h.disj,h.refs,h.refl,h.fresh,h.bone,h.zin,h.nms,h.bfix,⟨by rw[a];exact rL _,fun k b _ _=>by rw[a];exact rL _⟩,h.frs,h.frf⟩
end
section
variable {za:Zn} {w0:World} {cx:Cx} {sp:G4} {an:An}
def B0a {A:ER} {b c:St} {p:A.den} {E:H6} {w:World} {Z:Nat->Prop} {B:Nat->Value} (f:za.b0=0) (h:C3 za w0 b E w Z B) (a:gath A b=some (c,p)):∃Z',C3 za w0 c E w Z' B:=by
 simp only[Vc.gath,qI,bind_some]at a;obtain⟨i,_,g,_,tl,_,j,_,a⟩:=a;obtain⟨_,a⟩:=E4 a;cases a;obtain⟨Z0,d⟩:=h.plugL f (l:=A.rowL);exact C3.settleSh d
def post (za:Zn) (w0:World) (k:K):Exit->H6->World->Prop:=fun e E w=>Nx za w0 (k.at e) E w
variable (hty:G6 cx.P cx.tys=true) (hsp:Sl cx.P sp)
include hty hsp in
theorem A4k (g:za.b0=0) {n:Nat} :∀ {c:Code} {k:K} {a:St} {E:H6} {w:World} {Z:Nat->Prop} {B:Nat->Value},C3 za w0 a E w Z B->Mo cx sp an c k a->Gw.Wp cx.P n c (post za w0 k) E w:=by
 intro c
 induction c with
 |skip=>intro k a E w Z B h d _ f b;exact wp_skip ⟨E,b,a,Z,B,h,d⟩
 |label l=>intro k a E w Z B h d _ f b;exact wp_label ⟨E,b,a,Z,B,h,d⟩
 |exit i=>intro k a E w Z B h d _ f b;exact wp_exit ⟨E,b,a,Z,B,h,d⟩
 |ret=>intro k a E w Z B h d _ f b;exact wp_ret ⟨E,b,a,Z,B,h,d⟩
 |region id ops z=>
  intro k a E w Z B h b j f u;simp only[Bg]at j;simp only[Mo]at b;have s:ops=ops.toList.toArray:=by simp
  cases z with
  |false=>
   simp only[rJ]at b;rw[s];refine wp_region ?_;have:=WR (P:=cx.P) (Q:=post za w0 k) j ops.toList 0 (by simp) f E w u (dU g hty hsp h b);simpa[g2y]using this
  |true=>
   simp only[qW]at b;split at b
   . rename_i F tails nw p _;obtain⟨d,b⟩:=B9 b;simp only[qC]at d;obtain⟨d,D⟩:=d;simp only[B7y,qC]at d;rw[s];refine wp_region_any D (ZK (S:=fun _=>True) (tails:=tails) _ _ _ _ ?_);have o:G8 tails (Array.replicate ops.toList.length false)=false:=by
      unfold G8;rw[zS];intro x _;simp only[yJ,yZ];split<;>simp
     have l:=h.more (Z':=Z) (w':=w.drew) (Q7.refl w).drew (fun _ h=>h) (fun _=> .inl);have fin:∀b0,UM cx.P (RW nw b0) ops.toList tails (Nx za w0 k.n) p false E w.drew->X0 cx.P ops.toList.toArray (FR n (post za w0 k)) (RW nw b0 w.drew) tails ops.toList.length (Array.replicate ops.toList.length false) f w.drew:=fun b0 hd=>
      A9j (P:=cx.P) (R:=RW nw b0) (RW.refl nw _) (fun f y=>f.trans y) (Q:=post za w0 k) j d.1.1 d.1.2 (fun c E w i=>by obtain⟨_,_,_,_,i⟩:=i;exact i) p ops.toList.length _ none d.2 ⟨kM _ _,fun v=>by rw[o]at v;cases v⟩ false o.symm f E w.drew u (fun _ i=>by cases i) hd
     cases nw with
     |true=>
      have:=fin _ (Cn (za0:=za) (nw:=true) hty hsp (n0:=a.nx) (fun _=>rfl) (fun i=>by cases i) (fun h=>h.unmark g) (fun _ _=>rfl) l.marked b);simpa using Iy (S':=fun _=>True) (fun _ _=>trivial) _ _ _ _ this
     |false=>
      have:=fin _ (Cn (za0:=za) (nw:=false) hty hsp (n0:=a.nx) (fun i=>by cases i) (fun _=>g) (fun h=>h) (fun i=>by cases i) l b);simpa using Iy (S':=fun _=>True) (fun _ _=>trivial) _ _ _ _ this
   . exact b.elim
 |seq O T y z=>
  intro k a E w Z B s l i u v;simp only[Bg,qC]at i;simp only[Mo]at l;split at l
  . rename_i A _;obtain⟨J,D,G⟩:=l;have F:=NQ (k':= {n:=fun d=>C4 a d/\LY A a J d,x:=k.x,r:=k.r}) D (fun e d ev j=>by
     cases e with
     |normal=>exact⟨ev,j⟩
     |exit H=>exact j
     |ret=>exact j
     | _=>exact j)
    refine wp_seq (wp_mono (y s F i.1 u v) ?_);rintro e o w' ⟨E',h,d,Z',B',f,b⟩;cases e with
    |normal=>
     obtain⟨p,N,M,Z2,B2,H⟩:=bF g f b.2 s.pure b.1;exact z H (G p N M) i.2 o h
    |exit H=>exact⟨E',h,d,Z',B',f,b⟩
    |ret=>exact⟨E',h,d,Z',B',f,b⟩
    | _=>exact b.elim
  . refine wp_seq (wp_mono (y s l i.1 u v) ?_);rintro e o w' ⟨E',h,d,Z',B',f,b⟩;cases e with
    |normal=>exact z f b i.2 o h
    |exit H=>exact⟨E',h,d,Z',B',f,b⟩
    |ret=>exact⟨E',h,d,Z',B',f,b⟩
    | _=>exact b.elim
 |cond c x z u v=>
  intro k a E w Z B h b d i f;simp only[Bg,qC]at d;simp only[Mo]at b;split at b
  . rename_i e j;obtain⟨y,l,o⟩:=bind_some.1 j;have s:=Ps (h.ev (F2 E) l).1 o;refine wp_cond (t:=e) (by rw[f.ev];exact s) ?_;cases e with
    |true=>exact u h (b.1 rfl) d.1 i f
    |false=>exact v h (b.2 rfl) d.2 i f
  . exact b.elim
 |block id c v=>
  intro k a E w Z B l u o j s;refine wp_block (wp_mono (v l u o j s) ?_);rintro e z w' ⟨E',f,h,Z',B',d,b⟩;cases e with
  |normal=>exact⟨E',f,h,Z',B',d,b⟩
  |ret=>exact⟨E',f,h,Z',B',d,b⟩
  |exit y=>
   simp only[Exit.inBlock];simp only[K.at]at b;by_cases i:y=id
   . subst i;simp only[wF];simp at b;exact⟨E',f,h,Z',B',d,b⟩
   . simp only[i,yR];rw[E6 i]at b;exact⟨E',f,h,Z',B',d,b⟩
  | _=>exact b.elim
 |loop c a3=>
  intro k a E w Z B v b F a6 X;simp only[Bg]at F;simp only[Mo]at b;split at b
  . rename_i A _;unfold B8e at b;split at b
    . rename_i l H D;obtain⟨z,b⟩:=B9 b;simp only[qC,tU]at z;obtain⟨I,i,M,N⟩:=b;obtain⟨Z1,G⟩:=B0a g v D;obtain⟨a2,Z2,B2,O⟩:=A3j g v D G.pure (fun _ _=>rfl) (fun _ _=>rfl) (fun a4 hy=>Xi (z.1 a4 hy)) rfl;refine wp_loop_ghost (fun m o w=>∃p E',i p=m/\Gw.C7 n o E'/\A.wf p/\I p/\∃Z B,C3 za w0 (reflect A l p) E' w Z B) (i H) ⟨H,E,rfl,X,a2,M,Z2,B2,O⟩ ?_;rintro m o w ⟨p,E',a7,Y,a0,W,Z3,B3,T⟩;have U:=NQ (k':= {n:=fun d=>C4 (reflect A l p) d/\LY A l (fun h=>I h/\i h<i p) d,x:=k.x,r:=k.r}) (N p a0 W) (fun e d ev j=>by
       cases e with
       |normal=>exact⟨ev,j⟩
       |exit y=>exact j
       |ret=>exact j
       | _=>exact j)
      refine wp_mono (a3 T U F o Y) ?_;rintro e a5 w' ⟨E'',u,d,Z',B',s,f⟩;cases e with
      |normal=>
       obtain⟨h,a1,y,Z5,B5,V⟩:=bF g s f.2 G.pure ((C4.told A l p).trans f.1);exact⟨i h,by have:=y.2;omega,h,E'',rfl,u,a1,y.1,Z5,B5,V⟩
      |exit y=>exact⟨E'',u,d,Z',B',s,f⟩
      |ret=>exact⟨E'',u,d,Z',B',s,f⟩
      | _=>exact f.elim
    . exact b.elim
  . exact b.elim
 | _=>intro k a E w Z B h b;exact b.elim
end
abbrev Er (α:Type):List α:= []
def Yn (cx:Cx) (a:St):List ResultVar->Option (List SV)
 | []=>some []
 | .tmp t::r=>match a.S t with
  | .one s=>(Yn cx a r).map (s:: ·)
  | _=>none
 | .cell b T::r=>do
  let ti<-cx.ti T
  match a.S b with
  | .one ⟨false,[.box k 0]⟩=>match a.L k with
   | .box _ b=>bif Nat.beq b.length ti.ty.size then(Yn cx a r).map (⟨ti.agg,b⟩:: ·)else none
   | _=>none
  | _=>none
def settleR:St->List RT->List SV->St
 |c, .val _ _::a,s::b=>settleR (settle c s.cs) a b
 |c, .own _ _::a,_::b=>settleR c a b
 |a, .obox _ _::c,s::d=>settleR (match c1 s with
  |some (.box k 0)=>(match a.L k with
   | .box _ b=>settle a b
   | _=>a)
  | _=>a) c d
 |c, .rows _ _ _::a,_::b=>settleR c a b
 |a,_,_=>a
def DZ (a:St):(rs:List RT)->List SV->Option (Aq rs)
 | [],[]=>some ()
 | .val b t::rs,s::c=>(Qq b t s).bind fun x=>(DZ a rs c).map fun y=>(x,y)
 | .own t e::rs,s::b=>((c1 s).bind (NN a t e)).bind fun x=>(DZ a rs b).map fun y=>(x,y)
 | .obox T t::rs,s::b=>((bH s).bind fun k=>bif Nat.ble a.nm k then kJ a T t k else none).bind fun x=>(DZ a rs b).map fun y=>(x,y)
 | .rows t e b::rs,s::c=>((Qt s).bind fun k=>bif Nat.ble a.nm k then rowsAt a t e b k else none).bind fun x=>(DZ a rs c).map fun y=>(x,y)
 | _,_=>none
def Bh:List RT->List SV->List Nat
 | .own _ _::a,⟨false,[.row k]⟩::b=>k::Bh a b
 | .obox _ _::a,⟨false,[.box k 0]⟩::b=>k::Bh a b
 | .rows _ _ _::a,⟨false,[.row k]⟩::b=>k::Bh a b
 | _::a,_::b=>Bh a b
 | _,_=> []
def settleM:St->List AM->Nat->St
 |a, .box _ _::r,j=>settleM (match a.L j with| .box _ cs=>settle a cs| _=>a) r (j+1)
 |a, .row _ _::r,j=>settleM a r (j+1)
 |a, .val _ _::r,j=>settleM a r j
 |a, .fn _ _ _::r,j=>settleM a r j
 |a, .rows _ _ _::r,j=>settleM a r (j+1)
 |a,[],_=>a
def ZX (a:St):(as:List AM)->Nat->Option (Mn as)
 | [],_=>some ()
 | .row t e::r,j=>(Uz a t e j).bind fun x=>(ZX a r (j+1)).map fun y=>(x,y)
 | .box T t::r,j=>(kJ a T t j).bind fun x=>(ZX a r (j+1)).map fun y=>(x,y)
 | .val _ _::r,j=>ZX a r j
 | .fn _ _ _::r,j=>ZX a r j
 | .rows t e b::r,j=>(rowsAt a t e b j).bind fun x=>(ZX a r (j+1)).map fun y=>(x,y)
def B7v:AM->Bool
 | .row t _=>Km t
 | .rows t _ _=>Km t
 | .box _ t=>Km t
 | _=>true
def C1y (s:A9) (x:A4 s.args) (r:Aq s.res) (o:Mn s.args):Prop:=bif P7 s.args then s.post x r/\s.mpost x r o else s.post x r
def fin (cx:Cx) (s:A9) (c:List ResultVar) (x:A4 s.args) (a:St):Prop:=
 match Yn cx a c with
 |some b=>match Yn cx (settleM (settleR a s.res b) s.args 0) c with
  |some c=>match DZ (settleM (settleR a s.res b) s.args 0) s.res c,ZX (settleM (settleR a s.res b) s.args 0) s.args 0 with
   |some r,some o=>bif(FX (Bh s.res c)&&Lb s.res)&&(s.shared|| (s.res.all A3g&&s.args.all B7v))then C1y s x r o else False
   | _,_=>False
  |none=>False
 |none=>False
def Gu (P:Program):(as:List AM)->A4 as->Nat->Nat->List (Nat×Nat×DV)
 | [],_,_,_=> []
 | .val a t::r,x,i,j=>(i,1, .one ⟨a,explode t x.1⟩)::Gu P r x.2 (i+1) j
 | .row _ _::r,x,i,j=>(i,1, .one ⟨false,[.row j]⟩)::Gu P r x.2 (i+1) (j+1)
 | .box _ _::r,x,i,j=>(i,1, .one ⟨false,[.box j 0]⟩)::Gu P r x.2 (i+1) (j+1)
 | .rows _ _ _::r,x,i,j=>(i,1, .one ⟨false,[.row j]⟩)::Gu P r x.2 (i+1) (j+1)
 | .fn a c b::r,x,i,j=>(i,1, .one ⟨false,[.fv P a c b x.1.1 x.1.2]⟩)::Gu P r x.2 (i+1) j
def Db:(as:List AM)->A4 as->Nat->List (Nat×Nat×LC)
 | [],_,_=> []
 | .val _ _::r,x,j=>Db r x.2 j
 | .fn _ _ _::r,x,j=>Db r x.2 j
 | .row t e::r,x,j=>(j,1, .row t e x.1)::Db r x.2 (j+1)
 | .box T t::r,x,j=>(j,1, .box T (explode t x.1))::Db r x.2 (j+1)
 | .rows t e a::r,x,j=>(j,1, .rows t e a x.1 [] none)::Db r x.2 (j+1)
def Jy:List AM->Nat
 | []=>0
 | .row _ _::r=>Jy r+1
 | .box _ _::r=>Jy r+1
 | .rows _ _ _::r=>Jy r+1
 | .val _ _::r=>Jy r
 | .fn _ _ _::r=>Jy r
def A0i (P:Program) (as:List AM) (x:A4 as):St:=⟨Gu P as x 0 0,Db as x 0,Jy as,1,Jy as,[]⟩
def C0k (cx:Cx) (sp:G4) (an:An) (s:A9) (a:List ResultVar) (c:Code) (x:A4 s.args):Prop:=
 Mo cx sp an c ⟨fin cx s a x,fun _ _=>False,fin cx s a x⟩ (A0i cx.P s.args x)
section
variable {za:Zn} {w0 w:World} {Z:Nat->Prop} {B:Nat->Value} {st:St} {E:H6} {cx:Cx} {sp:G4} {an:An}
def mA (tmps:Array Value):ResultVar->Sem Value
 | .tmp t=>pure (tmps.getD t undef)
 | .cell a t=>do loadVar t (<-asAddr (tmps.getD a undef))
def JU (j:G6 cx.P cx.tys=true) (h:C3 za w0 st E w Z B) {tmps:Array Value} (b:∀t,tmps.getD t undef=E t):∀ {A:List ResultVar} {ss:List SV},Yn cx st A=some ss->∃vs,(A.mapM (mA tmps)).run cx.P w= .ok vs w/\Pm w Z B ss vs
 | [],ss,a=>by cases a;exact⟨[],rfl,rfl⟩
 | .tmp t::r,ss,a=>by
  simp only[Yn]at a;split at a
  . rename_i s g;simp only[qL]at a;obtain⟨k,i,rfl⟩:=a;obtain⟨vs,d,f⟩:=JU j h b i;have c:=h.slots t;rw[g]at c;refine⟨E t::vs, ?_,E t,vs,rfl,c,f⟩;rw[wU];simp only[mA,b,Sem.run_bind,Sem.run_pure,Result.andThen_ok,d]
  . cases a
 | .cell D T::a1,ss,a=>by
  simp only[Yn,qI,bind_some]at a;obtain⟨ti,W,a⟩:=a;split at a
  . rename_i X N;split at a
    . rename_i T' a0 O;obtain⟨J,a⟩:=E4 a;simp only[qL]at a;obtain⟨a2,R,rfl⟩:=a;obtain⟨vs,r,s⟩:=JU j h b R;have Q:=qD J;have y:=h.slots D;rw[N]at y;obtain⟨_,_,F,⟨l,G,n⟩,_⟩:=y;cases F;have v:=h.locs X;rw[O]at v;obtain⟨Y,c,o,_,_,x,d⟩:=v;rw[G]at o;cases o;have k:c.toList.length=ti.ty.size:=by rw[<-Q,d.len]
      rcases(L6 (C1 j W)).2.1 with⟨i,I⟩ | ⟨i,V,U⟩
      . refine⟨.agg c.toList.toArray::vs, ?_,_,vs,rfl,by rw[i];exact⟨c.toList,rfl,d⟩,s⟩;obtain⟨f,H⟩:=Ou (P:=cx.P) (w:=w) I;have g:=run_loadCells_list (P:=cx.P) (w:=w) ⟨l,0,none⟩ c.toList x.cellsAt;rw[k]at g;unfold loadCells at g;rw[wU];simp[mA,b,n,asAddr,loadVar,f,H,g,r,go_sem]
      . rw[U]at k
        match z:c.toList,k with
        | [u],_=>
         rw[z]at d;have M:w.cell? ⟨l,0,none⟩=some u:=by
          have:=x.cellsAt 0 u (by rw[z];rfl);rwa[K6]at this
         refine⟨u::vs, ?_,u,vs,rfl,by rw[i];exact d,s⟩;have f:=Hq (P:=cx.P) (w:=w) V;rw[wU];simp[mA,b,n,asAddr,loadVar,f,M,r,go_sem]
    . cases a
  . cases a
def C3.settleR:∀ {rs:List RT} {ss:List SV} {st:St} {Z:Nat->Prop},C3 za w0 st E w Z B->∃Z',C3 za w0 (settleR st rs ss) E w Z' B
 | .val _ _::rs,s::ss,st,Z,h=>by
  obtain⟨Z1,a⟩:=h.settle s.cs;exact C3.settleR (rs:=rs) (ss:=ss) a
 | .own _ _::rs,_::ss,st,Z,h=>C3.settleR (rs:=rs) (ss:=ss) h
 | .obox _ _::rs,s::ss,st,Z,h=>by
  simp only[Vc.settleR];split
  . split
    . obtain⟨Z1,a⟩:=h.settle _;exact C3.settleR (rs:=rs) (ss:=ss) a
    . exact C3.settleR (rs:=rs) (ss:=ss) h
  . exact C3.settleR (rs:=rs) (ss:=ss) h
 | [],_,st,Z,h=>⟨Z,h⟩
 | .val _ _:: _,[],st,Z,h=>⟨Z,h⟩
 | .own _ _:: _,[],st,Z,h=>⟨Z,h⟩
 | .obox _ _:: _,[],st,Z,h=>⟨Z,h⟩
 | .rows _ _ _::rs,_::ss,st,Z,h=>C3.settleR (rs:=rs) (ss:=ss) h
 | .rows _ _ _:: _,[],st,Z,h=>⟨Z,h⟩
def Qp (h:C3 za w0 st E w Z B) {Zn:Nat->Prop} (f:∀b,Zn b->Z b):∀ {rs:List RT} {ss:List SV} {vs:List Value} {r:Aq rs},((∀b,Z b->Zn b)\/rs.all A3g=true)->Pm w Z B ss vs->DZ st rs ss=some r->(Bh rs ss).Nodup->Lb rs=true->
 Mu w0.heap.size w Zn rs vs r/\∀u∈V8 rs vs,∀b,root u=some b->∃k∈Bh rs ss,B4 w (B k) (st.L k) b
 | [],[],vs,_,_,a,_,_,_=>⟨a,fun u c=>by simp[V8]at c⟩
 | [],_:: _,_,_,_,_,a,_,_=>by cases a
 | .val _ _:: _,[],_,_,_,_,a,_,_=>by cases a
 | .own _ _:: _,[],_,_,_,_,a,_,_=>by cases a
 | .obox _ _:: _,[],_,_,_,_,a,_,_=>by cases a
 | .rows _ _ _:: _,[],_,_,_,_,a,_,_=>by cases a
 | .rows v n o::rs,ac::ss,_,r,c,⟨ad,ae,e,Q,R⟩,A,z,F=>by
  simp only[DZ,bind_some,qL]at A;obtain⟨G,⟨q,l,s⟩,ai,g,rfl⟩:=A;subst e;obtain⟨a2,s⟩:=E4 s;have ah:=qQ a2;have X:ac=⟨false,[.row q]⟩:=by
   unfold Qt at l;split at l
   . cases l;rfl
   . cases l
  subst X;obtain⟨_,_,N,t,_⟩:=Q;cases N;have t:ad=B q:=t;subst t;obtain⟨al,D⟩:=X6 s;have x:=h.locs q;rw[D]at x;have U:=x.rowsR;have y:∀b,B4 w (B q) (.rows v n o G [] none) b->B4 w (B q) (st.L q) b:=fun b a=>by rw[D];exact(U7 fun _ _=>rfl).1 a
  simp only[Lb,Al,Oj,qC,zB,wP,rQ]at F;obtain⟨⟨aa,H⟩,ab⟩:=F;have Y:Bh (.rows v n o::rs) (⟨false,[.row q]⟩::ss)=q::Bh rs ss:=rfl;rw[Y]at z⊢;have a1:=sI.1 z;obtain⟨O,P⟩:=Qp h f (c.imp id fun j=>by simp only[tI,qC]at j;exact j.2) R g a1.2 ab;have V:Bj w Zn v n o (B q) G:=by
   obtain⟨ag,a6,a7,a8,a9⟩:=U;refine⟨ag,a6,fun a5 I af W a3=>(a7 a5 I af W a3).imp fun aj g=>⟨g.1, ?_⟩,a8,a9⟩;rcases c with c|c
   . exact g.2.mono fun _ _=>C7.mono c (fun _ _=>rfl)
   . simp only[tI,qC]at c;exact g.2.mono fun _ _ j=>C7.flat c.1 j
  refine⟨⟨B q,ae,rfl,⟨V,fun b a=> ?_⟩,fun _=>⟨⟨aa,fun _=>H⟩,fun b a u d=>by rw[Tu H]at d;cases d⟩,O⟩,fun u d b a=> ?_⟩
  . obtain⟨i,J,M⟩:=(h.locs q).root (y b a);refine⟨?_,fun a4=>M (f b a4),J⟩;rcases i with i|i
    . exact i.2
    . have:=h.nms.1;omega
  . simp only[V8,qS]at d;rcases d with rfl|d
    . exact⟨q,by simp,y b (.inl a)⟩
    . obtain⟨k,a0,r⟩:=P u d b a;exact⟨k,qM _ a0,r⟩
 | .val g F::rs,s::ss,_,r,a,⟨v,G,e,t,x⟩,j,i,l=>by
  simp only[Lb,qC]at l;obtain⟨H,z⟩:=l;simp only[DZ,bind_some,qL]at j;obtain⟨M,A,N,D,rfl⟩:=j;have y:Bh (.val g F::rs) (s::ss)=Bh rs ss:=by
   obtain⟨I,J⟩:=s;simp only[Bh]
  rw[y]at i⊢;obtain⟨n,o⟩:=Qp h f (a.imp id fun d=>by simp only[tI,qC]at d;exact d.2) x D i z;subst e;refine⟨⟨v,G,rfl, ?_,fun d=>(by cases d),n⟩,o⟩;have c:=Dl t A;rcases a with a|a
  . exact c.mono a (fun _ _=>rfl)
  . simp only[tI,qC]at a;cases g with
    |true=>obtain⟨cs,e,c⟩:=c;exact⟨cs,e,C7.flat a.1 c⟩
    |false=>exact C7.flat (cs:= [v]) a.1 c
 | .own y D::rs,ab::ss,_,r,g,⟨z,V,e,X,F⟩,M,l,P=>by
  simp only[Lb,Al,Oj,qC,zB,wP,g0u,g0q,g3p,rQ]at P;obtain⟨N,O⟩:=P;simp only[DZ,bind_some,qL]at M;obtain⟨a8,⟨n,j,a0⟩,ac,R,rfl⟩:=M;subst e;have Y:ab=⟨false,[n]⟩:=by
   unfold c1 at j;split at j
   . cases j;rfl
   . cases j
  subst Y;obtain⟨_,_,W,a4,_⟩:=X;cases W;obtain⟨A,x,U,a9,aa⟩:=NO h a4 a0;have a6:=E5 x;have G:G2 (C7 y w Zn) A a8:=by
   rcases g with g|g
   . exact U.mono fun _ _=>C7.mono g (fun _ _=>rfl)
   . simp only[tI,qC]at g;exact U.mono fun _ _ d=>C7.flat g.1 d
  have H:(∀b,Z b->Zn b)\/rs.all A3g=true:=g.imp id fun d=>by simp only[tI,qC]at d;exact d.2
  rcases aa with⟨q,rfl,I,Q⟩ | ⟨a2,a1⟩
  . have s:Bh (.own y D::rs) (⟨false,[.row q]⟩::ss)=q::Bh rs ss:=rfl;rw[s]at l⊢;have J:=sI.1 l;obtain⟨o,i⟩:=Qp h f H F R J.2 O;refine⟨⟨z,V,rfl,⟨A,x,G,fun b a a7=>a9 b a (f b a7)⟩,fun _=>⟨⟨N,fun d=>(by cases d)⟩,fun b a u c hub=> ?_⟩,o⟩,fun u c b a=> ?_⟩
    . obtain⟨k,t,a5⟩:=i u c b hub;have a3:root (B q)=some b:=by rw[<-Q];exact a
      exact h.disj q k b (fun d=>J.1 (d▸t)) (B4.of I a3) a5
    . simp only[V8,qS]at c;rcases c with rfl|c
      . exact⟨q,by simp,B4.of I (by rw[<-Q];exact a)⟩
      . obtain⟨k,t,r⟩:=i u c b a;exact⟨k,qM _ t,r⟩
  . have s:Bh (.own y D::rs) (⟨false,[n]⟩::ss)=Bh rs ss:=by cases n<;>first|rfl|exact absurd rfl (a1 _)
    rw[s]at l⊢;obtain⟨o,i⟩:=Qp h f H F R l O;have v:∀b,root z≠some b:=fun b a=>by rw[a2]at a;cases a
    refine⟨⟨z,V,rfl,⟨A,x,G,fun b a=>absurd (a6.trans a) (v b)⟩,fun _=>⟨⟨N,fun d=>(by cases d)⟩,fun b a=>absurd a (v b)⟩,o⟩,fun u c b a=> ?_⟩;simp only[V8,qS]at c;rcases c with rfl|c
    . exact absurd a (v b)
    . exact i u c b a
 | .obox T M::rs,ab::ss,_,r,a,⟨ac,ad,e,V,W⟩,G,D,J=>by
  simp only[Lb,Al,Oj,qC,zB,wP,g0u,g0q,g3p,rQ]at J;obtain⟨a5,a6⟩:=J;simp only[DZ,bind_some,qL]at G;obtain⟨ae,⟨q,l,t⟩,ag,a9,rfl⟩:=G;subst e;obtain⟨a3,t⟩:=E4 t;have a0:ab=⟨false,[.box q 0]⟩:=by
   unfold bH at l;split at l
   . cases l;rfl
   . cases l
  subst a0;obtain⟨_,_,R,⟨i,x,o⟩,_⟩:=V;cases R;obtain⟨cs,H,a4⟩:=Xj t;have z:=h.locs q;rw[H]at z;obtain⟨af,N,v,j,O,P,Q⟩:=z;rw[v]at x;cases x;have I:=Fy Q a4;have a7:C7 M w Zn N.toList ae:=by
   rcases a with a|a
   . exact C7.mono a (fun _ _=>rfl) I
   . simp only[tI,qC]at a;exact C7.flat a.1 I
  have a1:(∀b,Z b->Zn b)\/rs.all A3g=true:=a.imp id fun d=>by simp only[tI,qC]at d;exact d.2
  have a2:Bh (.obox T M::rs) (⟨false,[.box q 0]⟩::ss)=q::Bh rs ss:=rfl;rw[a2]at D⊢;have F:=sI.1 D;obtain⟨U,y⟩:=Qp h f a1 W a9 F.2 a6;have X:w0.heap.size<=i:=by
   rcases j with j|j
   . exact j.2
   . have:=h.nms.1;have:=qQ a3;omega
  have A:∀n,root (Value.pointer (some ⟨i,0,none⟩))=some n->B4 w (B q) (st.L q) n:=fun n Y=>by rw[H,v];exact Y
  refine⟨⟨ac,ad,rfl,⟨i,N,o,X,fun aa=>O (f i aa),P,a7⟩,fun _=>⟨⟨a5,fun d=>(by cases d)⟩,fun b c u g hub=> ?_⟩,U⟩,fun u g b c=> ?_⟩
  . obtain⟨k,s,a8⟩:=y u g b hub;rw[o]at c;exact h.disj q k b (fun d=>F.1 (d▸s)) (A b c) a8
  . simp only[V8,qS]at g;rcases g with rfl|g
    . rw[o]at c;exact⟨q,by simp,A b c⟩
    . obtain⟨k,s,r⟩:=y u g b c;exact⟨k,qM _ s,r⟩
def C3.settleM:∀ {as:List AM} {st:St} {j:Nat} {Z:Nat->Prop},C3 za w0 st E w Z B->∃Z',C3 za w0 (settleM st as j) E w Z' B
 | [],st,_,Z,h=>⟨Z,h⟩
 | .row _ _::r,st,j,Z,h=>C3.settleM (as:=r) h
 | .val _ _::r,st,j,Z,h=>C3.settleM (as:=r) h
 | .fn _ _ _::r,st,j,Z,h=>C3.settleM (as:=r) h
 | .rows _ _ _::r,st,j,Z,h=>C3.settleM (as:=r) h
 | .box _ _::r,st,j,Z,h=>by
  simp only[Vc.settleM];split
  . obtain⟨Z1,a⟩:=h.settle _;exact C3.settleM (as:=r) a
  . exact C3.settleM (as:=r) h
def AX (h:C3 za w0 st E w Z B) {Zn:Nat->Prop} :∀ {as:List AM} {vs:List Value} {o:Mn as} {j:Nat},((∀b,Z b->Zn b)\/as.all B7v=true)->(∀m u,(D8 as vs)[m]? =some u->B (j+m)=u)->(∀m p,(P8 as vs)[m]? =some p->∀b,up za w0 (j+m) b->B4 w0 p.2 (lcA p.1) b)->vs.length=as.length->ZX st as j=some o->Vu w0 w Zn as vs o
 | [],_,_,_,_,_,_,_,_=>trivial
 |a::r,[],_,_,_,_,_,c,_=>by simp at c
 | .val _ _::r,v::vs,o,j,g,d,f,i,k=>AX (as:=r) h (g.imp id fun c=>by simp only[tI,qC]at c;exact c.2) d f (by simpa using i) k
 | .fn _ _ _::r,v::vs,o,j,g,d,f,i,k=>AX (as:=r) h (g.imp id fun c=>by simp only[tI,qC]at c;exact c.2) d f (by simpa using i) k
 | .row D e::z,v::vs,o,j,c,k,s,t,n=>by
  simp only[ZX,bind_some,qL]at n;obtain⟨F,x,G,y,rfl⟩:=n;have r:B j=v:=k 0 v (by simp[D8,K8]);have l:=h.locs j;rw[Ih x]at l;obtain⟨A,g,i,_⟩:=l;rw[r]at g;refine⟨⟨A,g, ?_⟩,AX (as:=z) h (c.imp id fun d=>by simp only[tI,qC]at d;exact d.2) (fun m u f=>by rw[show j+1+m=j+(m+1)from by omega];exact k (m+1) u (by simpa[D8,K8]using f)) (fun m p f=>by rw[show j+1+m=j+(m+1)from by omega];exact s (m+1) p (by simpa[P8,K8]using f)) (by simpa using t) y⟩;rcases c with c|c
  . exact i.mono fun _ _=>C7.mono c (fun _ _=>rfl)
  . simp only[tI,qC]at c;exact i.mono fun _ _ d=>C7.flat c.1 d
 | .box T I::F,v::vs,o,j,c,g,t,y,l=>by
  simp only[ZX,bind_some,qL]at l;obtain⟨J,A,M,D,rfl⟩:=l;have s:B j=v:=g 0 v (by simp[D8,K8]);obtain⟨H,x,z⟩:=Xj A;have i:=h.locs j;rw[x]at i;obtain⟨b,G,f,_,_,n,r⟩:=i;rw[s]at f;refine⟨⟨b,G,f,n, ?_⟩,AX (as:=F) h (c.imp id fun k=>by simp only[tI,qC]at k;exact k.2) (fun m u d=>by rw[show j+1+m=j+(m+1)from by omega];exact g (m+1) u (by simpa[D8,K8]using d)) (fun m p d=>by rw[show j+1+m=j+(m+1)from by omega];exact t (m+1) p (by simpa[P8,K8]using d)) (by simpa using y) D⟩;have:=Fy r z;rcases c with c|c
  . exact C7.mono c (fun _ _=>rfl) this
  . simp only[tI,qC]at c;exact C7.flat c.1 this
 | .rows P e A::O,v::vs,o,j,c,n,t,i,y=>by
  simp only[ZX,bind_some,qL]at y;obtain⟨z,l,R,f,rfl⟩:=y;have r:B j=v:=n 0 v (by simp[D8,K8]);have s:=h.locs j;obtain⟨al,x⟩:=X6 l;rw[x]at s;have g:=s.rowsR;rw[r]at g;refine⟨⟨?_,fun b I=> ?_⟩,AX (as:=O) h (c.imp id fun d=>by simp only[tI,qC]at d;exact d.2) (fun m u k=>by rw[show j+1+m=j+(m+1)from by omega];exact n (m+1) u (by simpa[D8,K8]using k)) (fun m p k=>by rw[show j+1+m=j+(m+1)from by omega];exact t (m+1) p (by simpa[P8,K8]using k)) (by simpa using i) f⟩
  . rcases c with c|c
    . exact g.mono c
    . simp only[tI,qC]at c;obtain⟨Q,D,F,G,H⟩:=g;exact⟨Q,D,fun M N z i l=>(F M N z i l).imp fun U f=>⟨f.1,f.2.mono fun _ _ d=>C7.flat c.1 d⟩,G,H⟩
  . have J:B4 w (B j) (st.L j) b:=by rw[x,r];exact(U7 fun _ _=>rfl).1 I
    exact t 0 (.rows P e A,v) (by simp[P8,K8]) b ((h.locs j).root J).1
variable {P:Program}
def Hj {n:Nat} :∀ {as:List AM} {vs:List Value} {x:A4 as} {i j s:Nat},Z9 P w Z as vs x->i<=s->(∀m u,(D8 as vs)[m]? =some u->B (j+m)=u)->j+Jy as<=n->RD w Z B E (find (0, .dead) s (Gu P as x i j)).2 ((vs[s-i]?).getD undef)/\JS n (find (0, .dead) s (Gu P as x i j)).2
 | [],_,_,_,_,_,_,_,_,_=>⟨trivial,trivial⟩
 |a::z,_,x,i,j,s,⟨v,F,e,g,f⟩,y,b,c=>by
  subst e;by_cases d:i=s
  . subst d;cases a with
    |val a t=>
     simp only[Gu,find,yB,qW,xO];exact⟨Bf.explode g,E9⟩
    |row t e=>
     simp only[Gu,find,yB,qW,xO];have k:B j=v:=b 0 v (by simp[D8,K8]);exact⟨⟨v,[],rfl,k.symm,rfl⟩,fun l h=>by simp at h;subst h;simp only[Jy]at c;show j<n;omega⟩
    |box T A=>
     simp only[Gu,find,yB,qW,xO];have o:B j=v:=b 0 v (by simp[D8,K8]);obtain⟨l,D,h,_⟩:=g;exact⟨⟨v,[],rfl,⟨l,o.trans h,h⟩,rfl⟩,fun t k=>by simp at k;subst k;simp only[Jy]at c;show j<n;omega⟩
    |rows t e o=>
     simp only[Gu,find,yB,qW,xO];have k:B j=v:=b 0 v (by simp[D8,K8]);exact⟨⟨v,[],rfl,k.symm,rfl⟩,fun l h=>by simp at h;subst h;simp only[Jy]at c;show j<n;omega⟩
    |fn k o=>
     simp only[Gu,find,yB,qW,xO];exact⟨⟨v,[],rfl,g,rfl⟩,fun l h=>by simp at h;subst h;trivial⟩
  . have r:s-i=(s-(i+1))+1:=by omega
    rw[r];cases a with
    |val a t=>
     simp only[Gu,find,E6 d,rJ,uQ];exact Hj (i:=i+1) (s:=s) f (by omega) b c
    |fn h k=>
     simp only[Gu,find,E6 d,rJ,uQ];exact Hj (i:=i+1) (s:=s) f (by omega) b c
    |row t e=>
     simp only[Gu,find,E6 d,rJ,uQ];exact Hj (i:=i+1) (s:=s) f (by omega) (fun m u h=>by rw[show j+1+m=j+(m+1)from by omega];exact b (m+1) u (by simpa[D8,K8]using h)) (by simp only[Jy]at c;omega)
    |box t e=>
     simp only[Gu,find,E6 d,rJ,uQ];exact Hj (i:=i+1) (s:=s) f (by omega) (fun m u h=>by rw[show j+1+m=j+(m+1)from by omega];exact b (m+1) u (by simpa[D8,K8]using h)) (by simp only[Jy]at c;omega)
    |rows t e k=>
     simp only[Gu,find,E6 d,rJ,uQ];exact Hj (i:=i+1) (s:=s) f (by omega) (fun m u h=>by rw[show j+1+m=j+(m+1)from by omega];exact b (m+1) u (by simpa[D8,K8]using h)) (by simp only[Jy]at c;omega)
def A0j {n:Nat} {U:Nat->Nat->Prop} :∀ {as:List AM} {vs:List Value} {x:A4 as} {j k:Nat},Z9 P w Z as vs x->(∀m p,(P8 as vs)[m]? =some p->B (j+m)=p.2/\∀b,B4 w p.2 (lcA p.1) b->U (j+m) b)->
 RL (U k) w Z B k (find (0, .none) k (Db as x j)).2/\CU n (find (0, .none) k (Db as x j)).2/\(live (find (0, .none) k (Db as x j)).2->j<=k/\∃p,(P8 as vs)[k-j]? =some p/\∀b,B4 w (B k) (find (0, .none) k (Db as x j)).2 b->B4 w p.2 (lcA p.1) b):=by
 intro as
 induction as with
 |nil=>intro _ _ _ _ _ _;exact⟨trivial,trivial,fun h=>h.elim⟩
 |cons f r o=>
  intro vs x j k D c;obtain⟨v,y,e,h,i⟩:=D;subst e;have l:K8 f=true->j≠k->RL (U k) w Z B k (find (0, .none) k (Db r x.2 (j+1))).2/\CU n (find (0, .none) k (Db r x.2 (j+1))).2/\(live (find (0, .none) k (Db r x.2 (j+1))).2->j<=k/\∃p,(P8 (f::r) (v::y))[k-j]? =some p/\∀b,B4 w (B k) (find (0, .none) k (Db r x.2 (j+1))).2 b->B4 w p.2 (lcA p.1) b):=fun hm a=>by
   obtain⟨t,u,g⟩:=o (vs:=y) (x:=x.2) (j:=j+1) (k:=k) i (fun m p s=>by rw[show j+1+m=j+(m+1)from by omega];exact c (m+1) p (by simpa[P8,hm]using s));refine⟨t,u,fun d=>⟨by have:=(g d).1;omega, ?_⟩⟩;obtain⟨E,p,z,A⟩:=g d;refine⟨p, ?_,A⟩;rw[show k-j=(k-(j+1))+1 from by omega];simpa[P8,hm]using z
  cases f with
  |val f t=>exact o (x:=x.2) i c
  |fn f t=>exact o (x:=x.2) i c
  |row u s=>
   simp only[Db,find];by_cases a:j=k
   . subst a;simp only[yB,qW];obtain⟨g,E⟩:=c 0 (.row u s,v) (by simp[P8,K8]);obtain⟨F,t,z,A⟩:=h;have g:B j=v:=g;refine⟨⟨F,by rw[g];exact t,z,fun b d=> ?_⟩,trivial,fun _=>⟨qT _,(.row u s,v),by simp[P8,K8],fun b d=>by rw[g]at d;exact d⟩⟩;rw[g]at d;exact⟨E b ((E5 t).trans d),A b d⟩
   . simp only[E6 a,rJ];exact l rfl a
  |box T t=>
   simp only[Db,find];by_cases a:j=k
   . subst a;simp only[yB,qW];obtain⟨d,E⟩:=c 0 (.box T t,v) (by simp[P8,K8]);obtain⟨b,F,g,u,z,A⟩:=h;have d:B j=v:=d;exact⟨⟨b,F,d.trans g,E b (by rw[g];rfl),u,z,T5 A⟩,E9,fun _=>⟨qT _,(.box T t,v),by simp[P8,K8],fun b s=>by rw[d]at s;exact s⟩⟩
   . simp only[E6 a,rJ];exact l rfl a
  |rows u s t=>
   simp only[Db,find];by_cases a:j=k
   . subst a;simp only[yB,qW];obtain⟨g,E⟩:=c 0 (.rows u s t,v) (by simp[P8,K8]);obtain⟨z,A⟩:=h;have g:B j=v:=g;refine⟨Bj.rl (by rw[g];exact z) fun b d=> ?_,fun p F=>(by cases F),fun _=>⟨qT _,(.rows u s t,v),by simp[P8,K8],fun b d=>by rw[g]at d;exact(U7 fun _ _=>rfl).1 d⟩⟩;rw[g]at d;exact⟨E b ((U7 fun _ _=>rfl).1 d),A b d⟩
   . simp only[E6 a,rJ];exact l rfl a
def Z9.len:∀ {as:List AM} {vs:List Value} {x:A4 as},Z9 P w Z as vs x->vs.length=as.length
 | [],_,_,h=>by rw[show _= _ from h];rfl
 | _:: _,_,_,⟨v,b,e,_,a⟩=>by rw[e,rF,rF,Z9.len a]
def Aa:∀ {as:List AM} {vs:List Value},vs.length=as.length->(D8 as vs).length=Jy as
 | [],vs,_=>by cases vs<;>rfl
 |a::r,[],h=>by simp at h
 | .val _ _::r,v::vs,h=>Aa (as:=r) (by simpa using h)
 | .fn _ _ _::r,v::vs,h=>Aa (as:=r) (by simpa using h)
 | .row _ _::r,v::vs,h=>by simp only[D8,K8,qW,rF,Jy];rw[Aa (as:=r) (by simpa using h)]
 | .box _ _::r,v::vs,h=>by simp only[D8,K8,qW,rF,Jy];rw[Aa (as:=r) (by simpa using h)]
 | .rows _ _ _::r,v::vs,h=>by simp only[D8,K8,qW,rF,Jy];rw[Aa (as:=r) (by simpa using h)]
def Ti:∀(as:List AM) (vs:List Value),D8 as vs=(P8 as vs).map (·.2)
 | [],vs=>by cases vs<;>rfl
 | _:: _,[]=>rfl
 |a::r,v::vs=>by
  simp only[D8,P8];cases K8 a
  . exact Ti r vs
  . simp only[qW,rV,Ti r vs]
def Dis.get:∀ {l:List (AM×Value)} {m c b:Nat} {u a:AM×Value},Dis w l->m<c->l[m]? =some u->l[c]? =some a->B4 w u.2 (lcA u.1) b->¬B4 w a.2 (lcA a.1) b
 | [],_,_,_,_,_,_,_,h,_,_=>by simp at h
 |v::l,0,c+1,b,u,a,g,i,h,d,f=>by
  simp at h d;subst h;exact g.1 b f a (sX d)
 |v::l,m+1,c+1,b,u,a,g,i,h,d,f=>by
  simp at h d;exact Dis.get g.2 (by omega) h d f
 |v::l,_,0,_,_,_,_,d,_,_,_=>by omega
def gO (as:List AM) (vs:List Value):Nat->Value:=fun j=>((D8 as vs)[j]?).getD (.bool false)
def BE:∀ {as:List AM} {vs:List Value} {x:A4 as},Z9 P w Z as vs x->∀u∈D8 as vs,u.oneCell'=true
 | [],vs,_,_,u,a=>by cases vs<;>cases a
 | .val _ _::r,_,_,⟨v,c,e,_,a⟩,u,b=>by subst e;exact BE (as:=r) a u b
 | .fn _ _ _::r,_,_,⟨v,c,e,_,a⟩,u,b=>by subst e;exact BE (as:=r) a u b
 | .row t d::r,_,_,⟨v,f,e,⟨h,g,_⟩,c⟩,u,a=>by
  subst e;simp only[D8,K8,qW,qS]at a;rcases a with rfl|a
  . rcases g.2 with⟨b,_⟩ | ⟨_,_,_,b,_⟩<;>rw[b]<;>rfl
  . exact BE (as:=r) c u a
 | .rows t d f::r,_,_,⟨v,h,e,⟨⟨i,g,_⟩,_⟩,c⟩,u,a=>by
  subst e;simp only[D8,K8,qW,qS]at a;rcases a with rfl|a
  . rcases g.2 with⟨b,_⟩ | ⟨_,_,_,b,_⟩<;>rw[b]<;>rfl
  . exact BE (as:=r) c u a
 | .box t d::r,_,_,⟨v,h,e,⟨c,f,g,_⟩,b⟩,u,a=>by
  subst e;simp only[D8,K8,qW,qS]at a;rcases a with rfl|a
  . rw[g];rfl
  . exact BE (as:=r) b u a
def Hk:∀ {as:List AM} {x:A4 as} {j k:Nat},¬live (find (0, .none) k (Db as x j)).2->(find (0, .none) k (Db as x j)).2= .none
 | [],_,_,_,_=>rfl
 | .val _ _::r,x,j,k,h=>Hk (as:=r) (x:=x.2) (j:=j) h
 | .fn _ _ _::r,x,j,k,h=>Hk (as:=r) (x:=x.2) (j:=j) h
 | .row t b::r,x,j,k,h=>by
  simp only[Db,find]at h⊢;cases a:Nat.beq j k with
  |true=>rw[a]at h;exact absurd trivial h
  |false=>rw[a]at h;exact Hk (as:=r) h
 | .rows t b c::r,x,j,k,h=>by
  simp only[Db,find]at h⊢;cases a:Nat.beq j k with
  |true=>rw[a]at h;exact absurd trivial h
  |false=>rw[a]at h;exact Hk (as:=r) h
 | .box T t::r,x,j,k,h=>by
  simp only[Db,find]at h⊢;cases a:Nat.beq j k with
  |true=>rw[a]at h;exact absurd trivial h
  |false=>rw[a]at h;exact Hk (as:=r) h
def C2b (w:World) (as:List AM) (vs:List Value):Nat->Nat->Prop:=fun k b=>∃p:AM×Value,(P8 as vs)[k]? =some p/\B4 w p.2 (lcA p.1) b
def zn0 (w:World) (Z:Nat->Prop) (as:List AM) (vs:List Value):Zn:=⟨Z,mW w as vs,Jy as,gO as vs,0,0,C2b w as vs,fun _ _ ⟨p,hp,hb⟩=>⟨p,sX hp,hb⟩,[]⟩
def B5f {as:List AM} {vs:List Value} {x:A4 as} (J:∀b,Z b->b<w.heap.size) (h:Z9 P w Z as vs x) (D:Dis w (P8 as vs)):C3 (zn0 w Z as vs) w (A0i P as x) (OO vs) w Z (gO as vs):=by
 have O:=Aa (Z9.len h);have z:∀m u,(D8 as vs)[m]? =some u->gO as vs (0+m)=u:=fun m u a=>by simp only[gO,sB,a,vJ]
 have g:∀(m:Nat) (p:AM×Value),(P8 as vs)[m]? =some p->(D8 as vs)[m]? =some p.2:=fun m p a=>by rw[Ti,uV,a];rfl
 have d:=fun k=>A0j (P:=P) (w:=w) (Z:=Z) (B:=gO as vs) (n:=Jy as) (U:=fun k b=>up (zn0 w Z as vs) w k b) (j:=0) (k:=k) h (fun m p a=>⟨z m p.2 (g m p a),fun b l=> .inr ⟨by have:=OL (g m p a);simp only[sB];show m<Jy as;omega,p,by simpa using a,l⟩⟩)
 have A:=fun s=>Hj (P:=P) (w:=w) (Z:=Z) (B:=gO as vs) (E:=OO vs) (n:=Jy as) (i:=0) (j:=0) (s:=s) h (rL _) z (by omega)
 refine⟨Hg.of (Q7.refl w),J,fun s=>(A s).1,fun k=>(d k).1,fun k o b Q r t=> ?_,fun s=>(A s).2,fun k=>(d k).2.1,fun k F=> ?_,fun k=> ?_,fun b l=> .inl l,⟨rfl,qT _⟩,fun _ _=>rfl,⟨rL _,fun _ _ _ _=>rL _⟩,trivial,fun M H=>(by cases H)⟩
 . obtain⟨_,p,c,v⟩:=(d k).2.2 r.live;obtain⟨_,R,f,y⟩:=(d o).2.2 t.live;simp only[g2f]at c f;rcases sD k o with I|N
   . exact D.get I c f (v b r) (y b t)
   . exact D.get (by omega:o<k) f c (y b t) (v b r)
 . by_cases G:live ((A0i P as x).L k)
   . obtain⟨_,p,c,_⟩:=(d k).2.2 G;simp only[g2f]at c;have:=OL (g k p c);have F:Jy as<=k:=F;omega
   . exact Hk G
 . simp only[gO];cases a:(D8 as vs)[k]? with
   |none=>rfl
   |some u=>exact BE h u (sX a)
def B1d {f:FuncId} {fn:Func} {c:Code} {s:A9} (a0:cx.P.funcs[f]? =some fn) (a:fn.body=some c) (a1:s.args.length<=fn.ntmps) (a3:Bg fn.ntmps c=true) (Q:G6 cx.P cx.tys=true) (a9:Sl cx.P sp)
 (ac:∀x,awf s.args x->s.pre x->C0k cx sp an s fn.results.toList c x):B7 cx.P f s:=by
 intro w Z i x ad H Y a5;have v:i.length=s.args.length:=H.len;have a8:=ac x H.awf a5;generalize k:zn0 w Z s.args i=za;have M:=B5f ad H Y;rw[k]at M;refine OI a0 a (by rw[v];exact a1) a3 (fun E l=>Nx za w (fin cx s fn.results.toList x) E l) ?_ ⟨fun a4 U G=> ?_⟩
 . rintro E l A ab ⟨st,Z',B',D,h⟩;unfold fin at h;split at h
   . rename_i ss af;split at h
     . rename_i ah aa;split at h
       . rename_i z R G a2;obtain⟨g,r⟩:=B9 h;simp only[qC]at g;obtain⟨Z0,X⟩:=C3.settleR (rs:=s.res) (ss:=ss) D;obtain⟨Z1,n⟩:=C3.settleM (as:=s.args) (j:=0) X;obtain⟨B,V,W⟩:=JU Q n ab aa;have a7:(results fn A).run cx.P l= .ok (Yy B) l:=by
          have d:(fn.results.mapM (mA A)).run cx.P l= .ok B.toArray l:=by
           rw[yT];simp[V]
          have e:results fn A=(do let i<-fn.results.mapM (mA A);pure (if D:i.size=1 then i[0]else .tuple i)):=by
           unfold results;congr 1
          rw[e];simp only[Sem.run_bind,d,Result.andThen_ok,Sem.run_pure]
          match B with
          | []=>rfl
          | [u]=>rfl
          |u::ai::z=>rfl
         have O:s.post x z/\(P7 s.args=true->s.mpost x z R):=by
          unfold C1y at r;cases d:P7 s.args with
          |true=>simp only[d,qW]at r;exact⟨r.1,fun _=>r.2⟩
          |false=>simp only[d,rJ]at r;exact⟨r,fun o=>by cases o⟩
         refine⟨_,a7, ?_,z,R,B,(fun b=>s.shared=true/\Z1 b),O.1,O.2,rfl,fun b a=> ?_, ?_, ?_⟩
         . have:=D.ext;rw[<-k]at this;exact this
         . rcases n.zin b a.2 with o|o
           . rw[<-k]at o;exact .inr ⟨a.1,o⟩
           . exact .inl ⟨o,n.zlt b a.2⟩
         . refine(Qp n (Zn:=fun b=>s.shared=true/\Z1 b) (fun b a=>a.2) ?_ W G (Ic g.1.1) g.1.2).1;cases I:s.shared with
           |true=>exact .inl fun b a=>⟨rfl,a⟩
           |false=>rw[I]at g;simp only[wP,qC]at g;exact .inr g.2.1
         . refine AX (Zn:=fun b=>s.shared=true/\Z1 b) n (j:=0) ?_ (fun m u d=> ?_) (fun m p d b t=> ?_) v a2
           . cases I:s.shared with
             |true=>exact .inl fun b a=>⟨rfl,a⟩
             |false=>rw[I]at g;simp only[wP,qC]at g;exact .inr g.2.2
           . have y:=OL d;rw[Aa v]at y;have:=n.bfix m (by rw[<-k];exact y);rw[sB,this, <-k];show gO s.args i m=u;simp only[gO,d,vJ]
           . rw[<-k,sB]at t;rcases t with⟨t,_⟩ | ⟨_,ag,N,a⟩
             . have y:=OL (show(D8 s.args i)[m]? =some p.2 by rw[Ti,uV,d];rfl);rw[Aa v]at y;have t:Jy s.args<=m:=t;omega
             . rw[d]at N;cases N;exact a
       . exact h.elim
     . exact h.elim
   . exact h.elim
 . refine wp_mono (A4k Q a9 (by rw[<-k];rfl) M a8 a4 U G) ?_;rintro e ae l ⟨E',a6,T,Z',B',J,F⟩;refine⟨E',a6, ?_⟩;cases e with
   |normal=>exact⟨T,Z',B',J,F⟩
   |ret=>exact⟨T,Z',B',J,F⟩
   | _=>exact F.elim
def B1e {f:FuncId} {fn:Func} {c:Code} {s:A9} {a:A4 s.args->Prop} (g:cx.P.funcs[f]? =some fn) (b:fn.body=some c) (h:s.args.length<=fn.ntmps) (i:Bg fn.ntmps c=true) (k:G6 cx.P cx.tys=true) (j:Sl cx.P sp)
 (d:∀x,C0k cx sp an s fn.results.toList c x=a x) (l:∀x,awf s.args x->s.pre x->a x):B7 cx.P f s:=
 B1d g b h i k j fun x n a=>by rw[d];exact l x n a
def C0l (P:Program) (tys:List (Nat×TI)) (sp:G4) (an:An) (s:A9) (fn:Func) (x:A4 s.args):Prop:=C0k ⟨P,tys⟩ sp an s fn.results.toList (fn.body.getD .skip) x
def B1f {P:Program} {tys:List (Nat×TI)} {sp:G4} {an:An} {f:FuncId} {fn:Func} {s:A9} {g:A4 s.args->Prop} (i:P.funcs[f]? =some fn) (b:fn.body.isSome=true) (j:Nat.ble s.args.length fn.ntmps=true) (k:Bg fn.ntmps (fn.body.getD .skip)=true) (n:G6 P tys=true) (l:Sl P sp)
 (h:∀x,C0l P tys sp an s fn x=g x) (o:∀x,awf s.args x->s.pre x->g x):B7 P f s:=by
 cases a:fn.body with
 |none=>rw[a]at b;cases b
 |some c=>
  have d:fn.body.getD .skip=c:=by rw[a];rfl
  refine B1e (cx:=⟨P,tys⟩) (an:=an) (c:=c) i a (qQ j) (by rw[<-d];exact k) n l (fun x=> ?_) o;rw[<-h x, <-d];rfl
def BK (a:Nat):Nat->List SV->List (Nat×Nat×DV)
 | _,[]=> []
 |i,s::b=>(i,a, .one s)::BK a (i+1) b
def iF (st:St) (ss:List SV):St:=⟨BK (st.ct+1) 0 ss,st.lc,st.nx,st.ct+1,st.nm,st.sl::st.fr⟩
def A1k (cx:Cx) (b:List ResultVar) (k:St->List SV->Prop) (st:St):Prop:=
 match st.fr with
 |f::a=>(match Yn cx st b with
  |some b=>k ⟨f,st.lc,st.nx,st.ct,st.nm,a⟩ b
  |none=>False)
 | []=>False
def MQ (cx:Cx) (b:List (Nat×G4×An)) (a:List ResultVar) (c:Code) (n d:Nat) (st:St) (ss:List SV) (k:St->List SV->Prop):Prop:=
 match Fo d b with
 |some (sp,an)=>bif Nat.ble ss.length n then Mo cx sp an c ⟨A1k cx a k,fun _ _=>False,A1k cx a k⟩ (iF st ss)else False
 |none=>False
def dF {g:List ResultVar} {k k':St->List SV->Prop} {ss:List SV} {a:St} (ev:C4 (iF st ss) a) (h:A1k cx g k a) (n:∀a f,C4 st a->k a f->k' a f):A1k cx g k' a:=by
 unfold A1k at h⊢;cases c:a.fr with
 |nil=>rw[c]at h;exact h
 |cons i j=>
  rw[c]at h;simp only at h⊢;split at h
  . have e:=ev.f;rw[c]at e;have e:O3 (st.ct+1) st.sl i/\Z8 (st.ct+1) st.fr j:=e;refine n _ _ ⟨qY (uW _) ev.ct,fun s d b=> ?_,fun q d b=>ev.l q d (xM b),e.2.le (uW _)⟩ h;exact O3.find s e.1 (xM b)
  . exact h
def B0m (f:List (Nat×G4×An)) (j:List ResultVar) (c:Code) (n:Nat) {st:St} {d:Nat} {ss:List SV} {k k':St->List SV->Prop} (h:MQ cx f j c n d st ss k) (g:∀a i,C4 st a->k a i->k' a i):MQ cx f j c n d st ss k':=by
 unfold MQ at h⊢;split at h
 . obtain⟨l,h⟩:=B9 h;simp only[l,qW];refine NQ h fun e a ev b=> ?_
   cases e with
   |normal=>exact dF ev b g
   |ret=>exact dF ev b g
   | _=>exact b
 . exact h
def Jf (cx:Cx) (a:List (Nat×G4×An)) (b:List ResultVar) (c:Code) (n:Nat):Inl:= {run:=MQ cx a b c n,step:=B0m a b c n}
def JX {c s:Nat} :∀ {ss:List SV} {i:Nat},(find (0, .dead) s (BK c i ss)).2=if i<=s then(match ss[s-i]? with|some v=> .one v|none=> .dead)else .dead
 | [],i=>by simp[BK,find]
 |v::ss,i=>by
  simp only[BK,find];cases b:Nat.beq i s with
  |true=>
   have:=qD b;subst this;simp
  |false=>
   have d:i≠s:=vF b;simp only[rJ,JX (ss:=ss) (i:=i+1)];by_cases a:i+1<=s
   . rw[qJ a,qJ (by omega),show s-i=(s-(i+1))+1 from by omega,uQ]
   . rw[qH a,qH (by omega)]
def Pm.len {w:World} {Z:Nat->Prop} {B:Nat->Value} :∀ {ss:List SV} {vs:List Value},Pm w Z B ss vs->vs.length=ss.length
 | [],_,h=>by rw[show _= _ from h];rfl
 | _:: _,_,⟨v,b,e,_,a⟩=>by rw[e,rF,rF,Pm.len a]
def NM (h:C3 za w0 st E w Z B):∀ {f:List ResultVar} {ss:List SV},Yn cx st f=some ss->∀s∈ss,La st.nx s
 | [],_,a=>by cases a;intro s a;cases a
 | .tmp t::r,ss,a=>by
  simp only[Yn]at a;split at a
  . rename_i g d;simp only[qL]at a;obtain⟨i,c,rfl⟩:=a;intro s b;rcases qS.1 b with rfl|b
    . have:=h.refs t;rw[d]at this;exact this
    . exact NM h c s b
  . cases a
 | .cell g t::r,ss,a=>by
  simp only[Yn,qI,bind_some]at a;obtain⟨ti,_,a⟩:=a;split at a
  . rename_i k _;split at a
    . rename_i T i c;obtain⟨_,a⟩:=E4 a;simp only[qL]at a;obtain⟨j,d,rfl⟩:=a;intro s b;rcases qS.1 b with rfl|b
      . have:=h.refl k;rw[c]at this;exact this
      . exact NM h d s b
    . cases a
  . cases a
def A2k (P:Program) (a:List (Nat×G4×An)):Prop:=∀x∈a,Sl P x.2.1
def bR {α:Type} {d:Nat} {x:α} :∀ {l:List (Nat×α)},Fo d l=some x->(d,x)∈l
 | [],h=>by cases h
 | (t,y)::l,h=>by
  simp only[Fo]at h;cases a:Nat.beq t d with
  |true=>
   rw[a]at h;have:=qD a;subst this;cases h;simp
  |false=>rw[a]at h;exact qM _ (bR h)
def Eo {f:FuncId} {fn:Func} {c:Code} {r:List (Nat×G4×An)} (X:cx.P.funcs[f]? =some fn) (V:fn.body=some c) (a5:Bg fn.ntmps c=true) (I:G6 cx.P cx.tys=true) (l:A2k cx.P r):jI cx.P f (Jf cx r fn.results.toList c fn.ntmps):=by
 refine {go:= ?_};intro za w0 st E w Z B N i k J W h G a9 d;have d:MQ cx r fn.results.toList c fn.ntmps N st i J:=d;unfold MQ at d;split at d
 . rename_i sp an a1;have l:=l _ (bR a1);simp only at l;obtain⟨x,d⟩:=B9 d;have x:=qQ x;have a3:=G.len;have A:∀s,(iF st i).S s=match i[s]? with|some v=> .one v|none=> .dead:=fun s=>by
    show(find (0, .dead) s (BK (st.ct+1) 0 i)).2= _;rw[JX,qJ (rL _)];rfl
   have U:C3 {za with es:=E::za.es} w0 (iF st i) (OO k) w Z B:=by
    refine⟨h.ext,h.zlt,fun s=> ?_,h.locs,h.disj,fun s=> ?_,h.refl,h.fresh,h.bone,h.zin,h.nms,h.bfix,h.mrk,⟨h.slots,h.frs⟩,fun H o s=> ?_⟩
    . rw[A];cases z:i[s]? with
      |none=>trivial
      |some v=>
       obtain⟨u,O,Q⟩:=G.get z;show RS w Z B v (OO k s);simp only[OO,O,vJ];exact Q
    . rw[A];cases z:i[s]? with
      |none=>trivial
      |some v=>exact a9 v (sX z)
    . rcases qS.1 o with rfl|o
      . exact h.refs s
      . exact h.frf H o s
   refine OI X V (by rw[a3];exact x) a5 (fun E' j=>Nx {za with es:=E::za.es} w0 (A1k cx fn.results.toList J) E' j) ?_ ⟨fun a6 M a7=> ?_⟩
   . rintro E' j n ab ⟨g,Z',B',a,b⟩;unfold A1k at b;have F:=a.frs;have t:=a.frf;cases D:g.fr with
     |nil=>rw[D]at b;exact b.elim
     |cons z O=>
      rw[D]at b F t;simp only at b;obtain⟨Y,a0⟩:=F;split at b
      . rename_i ac H;obtain⟨o,R,T⟩:=JU I a ab H;have aa:(results fn n).run cx.P j= .ok (Yy o) j:=by
         have a4:(fn.results.mapM (mA n)).run cx.P j= .ok o.toArray j:=by
          rw[yT];simp[R]
         have e:results fn n=(do let k<-fn.results.mapM (mA n);pure (if h:k.size=1 then k[0]else .tuple k)):=by
          unfold results;congr 1
         rw[e];simp only[Sem.run_bind,a4,Result.andThen_ok,Sem.run_pure]
         match o with
         | []=>rfl
         | [u]=>rfl
         |u::af::ae=>rfl
        exact⟨_,aa,⟨z,g.lc,g.nx,g.ct,g.nm,O⟩,Z',B',ac,o,⟨a.ext,a.zlt,Y,a.locs,a.disj,fun s=>t z (by simp) s,a.refl,a.fresh,a.bone,a.zin,a.nms,a.bfix,a.mrk,a0,fun Q a2 s=>t Q (by simp[a2]) s⟩,rfl,T,NM a H,b⟩
      . exact b.elim
   . refine wp_mono (A4k I l (by exact W) U d a6 M a7) ?_;rintro e ad j ⟨E',a8,g,Z',B',a,y⟩;refine⟨E',a8, ?_⟩;cases e with
     |normal=>exact⟨g,Z',B',a,y⟩
     |ret=>exact⟨g,Z',B',a,y⟩
     | _=>exact y.elim
 . exact d.elim
def V4 (run:Inl):A9:= {args:= [],res:= [],pre:=fun _=>False,post:=fun _ _=>True,inl:=some run}
end
end Go.Vc
namespace Go.Proofs.YtljgpjhcieidbaaGreat
open Go.IntKind (i64 u64 u32)
abbrev Wf:=List Int
def nv:Wf->Nat
 | []=>0
 |a::l=>a.toNat+4294967296*nv l
def nc (n:Nat):Wf:=if h:n=0 then []else((n%4294967296:Nat):Int)::nc (n/4294967296)
termination_by n
decreasing_by omega
def gI (x:Int):Prop:=0<=x/\x<=4294967295
def A8 (l:Wf):Prop:=∀x∈l,gI x
def P3:nc 0= []:=by rw[nc];rfl
def NC {n:Nat} (h:n≠0):nc n=((n%4294967296:Nat):Int)::nc (n/4294967296):=by rw[nc];simp[h]
def F4 (n:Nat):nv (nc n)=n:=by
 induction n using Nat.strongRecOn with
 | _ n a=>
  by_cases h:n=0
  . subst h;rw[P3];rfl
  . rw[NC h];simp only[nv,a (n/4294967296) (by omega)];omega
def J7 (n:Nat):A8 (nc n):=by
 induction n using Nat.strongRecOn with
 | _ n b=>
  by_cases h:n=0
  . subst h;rw[P3];intro x a;cases a
  . rw[NC h];intro x a;rcases qS.1 a with rfl|a
    . unfold gI;omega
    . exact b (n/4294967296) (by omega) x a
def Yd {n:Nat} :nc n= []↔n=0:=by
 constructor
 . intro h;by_cases a:n=0
   . exact a
   . rw[NC a]at h;cases h
 . rintro rfl;exact P3
def A3v (a:Int) (m:Nat) (b:gI a) (h:a≠0\/m≠0):nc (a.toNat+4294967296*m)=a::nc m:=by
 unfold gI at b;rw[NC (by omega)];congr 1
 . omega
 . congr 1;omega
def Qg (a b:Wf):nv (a++b)=nv a+4294967296^a.length*nv b:=by
 induction a with
 |nil=>simp[nv]
 |cons x a c=>
  simp only[xV,nv,c,rF,sA];rw[tC, <-uG, <-sR,sL 4294967296 (4294967296^a.length)]
def Qh (n:Nat):nv (List.replicate n 0)=0:=by
 induction n with
 |zero=>rfl
 |succ n a=>simp[List.replicate_succ,nv,a]
def VI {a:Int} {l:Wf} :A8 (a::l)↔gI a/\A8 l:=by simp[A8]
def Ft {l:Wf} (h:A8 l):nv l<4294967296^l.length:=by
 induction l with
 |nil=>simp[nv]
 |cons b l a=>
  rw[VI]at h;have:=a h.2;have a:=h.1;unfold gI at a;simp only[nv,rF,sA];omega
def C2l {l:Wf} (h:A8 l) (c:∀x,l.getLast? =some x->x≠0):nc (nv l)=l:=by
 induction l with
 |nil=>exact P3
 |cons b l a=>
  rw[VI]at h;simp only[nv];cases l with
  |nil=>
   have:=c b rfl;rw[A3v b _ h.1 (.inl this)];simp only[nv,P3]
  |cons d l=>
   have a:=a h.2 (fun x hx=>c x (by rw[List.getLast?_cons_cons];exact hx));have g:nv (d::l)≠0:=by
    intro f;rw[f,P3]at a;cases a
   rw[A3v b _ h.1 (.inr g),a]
def A3w {l:Wf} (h:A8 l) {n:Nat} (f:n<=l.length) (k:∀i x,n<=i->l[i]? =some x->x=0) (d:n=0\/∃x,l[n-1]? =some x/\x≠0):l.take n=nc (nv l):=by
 have e:nv l=nv (l.take n):=by
  conv=>lhs;rw[<-uN n l]
  rw[Qg];have:l.drop n=List.replicate (l.length-n) 0:=by
   apply xL;intro i;rw[wM];by_cases c:n+i<l.length
   . rw[qP c,uB,qJ (by omega)];rw[k (n+i) l[n+i] (by omega) (qP c)]
   . rw[rT (by omega),rT (by simp;omega)]
  rw[this,Qh];simp
 rw[e]
 symm
 apply C2l
 . intro x a;exact h x (sC a)
 . intro x a;rw[List.getLast?_eq_getElem?,qU,tD f]at a;rcases d with b| ⟨y,g,j⟩
   . subst b;simp at a
   . rw[rY (by
      rcases vE n with b|b
      . subst b;simp at a
      . omega),g]at a
     cases a;exact j
def Ep {n k:Nat} (h:n<4294967296^k):(nc n).length<=k:=by
 induction k generalizing n with
 |zero=>have:n=0:=by simpa using h
        subst this;rw[P3];exact qT _
 |succ k b=>
  by_cases a:n=0
  . subst a;rw[P3];exact rL _
  . rw[NC a,rF];have:n/4294967296<4294967296^k:=by
     rw[tS (by decide)];rw[sA]at h;exact h
    have:=b this;omega
def D4 {l:Wf} (h:A8 l):(nc (nv l)).length<=l.length:=Ep (Ft h)
def B1o {n k:Nat} (h:k<(nc n).length):4294967296^k<=n:=by
 rcases sD n (4294967296^k)with a|a
 . have:=Ep a;omega
 . exact a
def J4 {m n:Nat} (h:m<=n):(nc m).length<=(nc n).length:=by
 apply Ep;have:=Ft (J7 n);rw[F4]at this;omega
def Hl (n:Nat):n<4294967296^(nc n).length:=by
 have:=Ft (J7 n);rwa[F4]at this
def Oo (m n:Nat):(nc (m*n)).length<=(nc m).length+(nc n).length:=by
 apply Ep;rw[uX];have a:=Hl m;have b:=Hl n;exact Nat.mul_lt_mul'' a b
def NA (m n:Nat):(nc (m+n)).length<=max (nc m).length (nc n).length+1:=by
 apply Ep;have a:=Hl m;have a:=Hl n;have a:4294967296^(nc m).length<=4294967296^(max (nc m).length (nc n).length):=rZ (by decide) (Nat.le_max_left ..);have a:4294967296^(nc n).length<=4294967296^(max (nc m).length (nc n).length):=rZ (by decide) (g4q ..);rw[sA];omega
abbrev Jq:=Bool×Wf
abbrev C6:=Jq×Wf
def Bv (a b:Nat):Int:=if a<b then -1 else if b<a then 1 else 0
def O6 (a b:Int):Int:=if a<b then -1 else if b<a then 1 else 0
def iv (x:Jq):Int:=if x.1=true then -(nv x.2:Int)else(nv x.2:Int)
def ic (v:Int):Jq:=(decide (v<0),nc v.natAbs)
def C0j (x:C6):Int:=if nv x.2=0 then 0 else(iv x.1).sign
def rv (x:C6):Rat:=mkRat (iv x.1) (nv x.2)
def rc (q:Rat):C6:=(ic q.num,nc q.den)
def J5 (x:C6):Prop:=nv x.1.2<2147483648/\nv x.2<2147483648
instance (x:C6):Decidable (J5 x):=by unfold J5;infer_instance
def Qf (x:C6):Int:=if nv x.2=0 then 0 else iv x.1
def Mm (x:C6):Int:=if nv x.2=0 then 1 else(nv x.2:Int)
def zi:Jq:=(false,[])
def zr:C6:=((false,[]),[])
def ri (k:Int):C6:=(ic k,[1])
abbrev Gq (l:Wf):Prop:=l.length<=35184372088832
abbrev K5 (l:Wf):Prop:=l.length<=17592186044416
abbrev En (l:Wf):Prop:=l.length<=8796093022208
def G3 (x:C6):Prop:=x.1.2.length<=2199023255552/\x.2.length<=2199023255552
def Js (a b:Jq):Rat:=Rat.divInt (iv a) (iv b)
def K3 (n:Nat):Nat:=if n=0 then 0 else Nat.log2 n+1
def B9r (A B u0 u1 v0 v1:Int) (ev:Bool):Prop:=v0=0\/∃A' B':Int,A'=(if ev then u0*A-v0*B else v0*B-u0*A)/\B'=(if ev then v1*B-u1*A else u1*A-v1*B)/\0<=B'/\B'<=A'/\A=v1*A'+v0*B'/\B=u1*A'+u0*B'/\1<=v0/\1<=v1/\0<=u0/\0<=u1
def Lv (l:Wf):Prop:=l.getD (l.length-1) 0≠0
open Go.Vc Go.Gw
def J1 (a b:Bool):I5 a true b=(a||b):=by cases a<;>rfl
def H0 (a b:Bool):I5 a b false=(a&&b):=by cases a<;>rfl
def wr {a:Int} (b: -9223372036854775808<=a) (c:a<=9223372036854775807):i64.wrap a=a:=IntWalk.i64_in _ ⟨b,c⟩
def wv {a:Int} (h: -9223372036854775808<=a/\a<=9223372036854775807):i64.wrap a=a:=wr h.1 h.2
def G5 {α:Type} {d:α} {l:List α} {i:Int} (a:0<=i) (b:i<(l.length:Int)):gx d l i∈l:=sX (H5 a b)
def V2 {α:Type} {d:α} {l:List α} {i:Int} (a:0<=i) (b:i<(l.length:Int)):gx d l i=l.getD i.toNat d:=by
 have:=H5 (d:=d) a b;rw[qE,this];rfl
def Mv {α:Type} {d:α} {l:List α} {q:α->Prop} {i:Int} (b:0<=i) (c:i<(l.length:Int)) (f:∀x∈l.take i.toNat,q x) (g:q (gx d l i)):∀x∈l.take (i+1).toNat,q x:=by
 intro x a;rw[show(i+1).toNat=i.toNat+1 from by omega,rS,H5 (d:=d) b c]at a;simp at a;rcases a with a|rfl
 . exact f x a
 . exact g
def H1 {α:Type} {l:List α} {i:Int} (h:(l.length:Int)<=i):l.take i.toNat=l:=qR (by omega)
def TB:u32.max=4294967295:=by decide
def TC:u32.min=0:=by decide
def BU:u64.max=18446744073709551615:=by decide
def iT:u64.min=0:=by decide
def BA:i64.max=9223372036854775807:=by decide
def Tc:i64.min= -9223372036854775808:=by decide
def A5 {l:Wf} (h:∀x∈l,u32.min<=x/\x<=u32.max):A8 l:=fun x a=>by
 have:=h x a;rw[TC,TB]at this;exact this
def W8 {a:Int} (b:0<=a) (c:a<=18446744073709551615):u64.wrap a=a:=IntWalk.u64_in _ ⟨b,c⟩
def w32 {a:Int} (b:0<=a) (c:a<=4294967295):u32.wrap a=a:=IntWalk.u32_in _ ⟨b,c⟩
def Bp (a:Int):u32.wrap a=a%4294967296:=IntKind.wrap_u32 a
def Bq (a:Int):u64.wrap a=a%18446744073709551616:=IntKind.wrap_u64 a
def Tf {l:Wf} (h:A8 l) {i:Int} (a:0<=i) (b:i<(l.length:Int)):0<=gx 0 l i/\gx 0 l i<=4294967295:=h _ (G5 a b)
def OT {v:Int} (a:0<=v) (b:v<18446744073709551616):(BitVec.ofInt 64 v).toNat=v.toNat:=by
 rw[xZ];congr 1;omega
def WS {v b:Int} {k:Nat} (v0:0<=v) (v1:v<2^k) (b0:0<=b) (c:b*2^k<18446744073709551616) (d:v<18446744073709551616):(((BitVec.ofInt 64 v|||BitVec.ofInt 64 (b*2^k)).toNat:Nat):Int)=v+b*2^k:=by
 have a:0<=b*2^k:=tL b0 (Int.pow_nonneg (by decide));rw[BitVec.toNat_or,OT v0 d,OT a c];have e:(b*2^k).toNat=b.toNat<<<k:=by
  rw[g4r,g3q b0 (Int.pow_nonneg (by decide)),Int.toNat_pow_of_nonneg (by decide)];rfl
 have c:v.toNat<2^k:=by
  have:(v.toNat:Int)<((2^k:Nat):Int):=by rw[uF v0,xJ];exact v1
  exact uA.1 this
 rw[e,Nat.or_comm, <-g0f c, <-e,vW,uF v0,uF a,Int.add_comm]
def JB {l:Wf} {i:Int} (a:0<=i) (b:i<(l.length:Int)):nv (l.take (i+1).toNat)=nv (l.take i.toNat)+4294967296^i.toNat*(gx 0 l i).toNat:=by
 rw[show(i+1).toNat=i.toNat+1 from by omega,rS,H5 (d:=(0:Int)) a b,zP,Qg,qU,tD (by omega)];simp[nv]
def V5 {l:Wf} {i:Int} (a:0<=i) (b:i<(l.length:Int)):l.drop i.toNat=gx 0 l i::l.drop (i+1).toNat:=by
 have h:=H5 (d:=(0:Int)) a b;have a:i.toNat<l.length:=by omega
 rw[qP a]at h;rw[wJ a,show(i+1).toNat=i.toNat+1 from by omega];congr 1;exact yE h
def gV {a b:Wf} (f:A8 a) (_:A8 b) (r:a.length=b.length) {i:Int} (c:0<=i) (d:i<(a.length:Int)) (j:a.drop (i+1).toNat=b.drop (i+1).toNat) (t:gx 0 a i<gx 0 b i):nv a<nv b:=by
 have k:nv a=nv (a.take i.toNat)+4294967296^i.toNat*nv (a.drop i.toNat):=by
  conv=>lhs;rw[<-uN i.toNat a,Qg,qU,tD (by omega)]
 have n:nv b=nv (b.take i.toNat)+4294967296^i.toNat*nv (b.drop i.toNat):=by
  conv=>lhs;rw[<-uN i.toNat b,Qg,qU,tD (by omega)]
 have s:=Tf f c d;have g:nv (a.drop i.toNat)+1<=nv (b.drop i.toNat):=by
  rw[V5 c d,V5 c (by omega),j];simp only[nv];omega
 have o:nv (a.take i.toNat)<4294967296^i.toNat:=by
  have:=Ft (l:=a.take i.toNat) fun x hx=>f x (sC hx)
  rwa[qU,tD (by omega)]at this
 have h:=rW (4294967296^i.toNat) g;rw[tC,xC]at h;omega
def BF {m n:Nat} (h:(nc m).length<(nc n).length):m<n:=by
 rcases sD m n with a|a
 . exact a
 . have:=J4 a;omega
def Tj:nc 1= [1]:=by rw[NC (by decide)];simp[P3]
def B9z:nv [1]=1:=rfl
def gU:nv []=0:=rfl
def cT (n:Nat):Bv n n=0:=by simp[Bv]
def Nb {m n:Nat} (h:m<n):Bv m n= -1:=by simp[Bv,h]
def SR {m n:Nat} (h:n<m):Bv m n=1:=by
 unfold Bv;rw[qH (by omega),qJ h]
def VV {m n:Nat} :Bv m n=0↔m=n:=by
 unfold Bv;split
 . omega
 . split<;>omega
def J9 (v:Int):iv (ic v)=v:=by
 unfold iv ic;simp only[rP,F4];split<;>omega
def B0h {neg:Bool} {m:Nat} :ic (iv (neg,nc m))=(neg&&decide (m≠0),nc m):=by
 unfold ic iv;simp only[F4];cases neg
 . simp
 . simp only[wQ,wF,Prod.mk.injEq,wC];constructor
   . omega
   . congr 1;omega
def C2c {x:Jq} :ic (iv x)=(x.1&&decide (nv x.2≠0),nc (nv x.2)):=by
 have:iv x=iv (x.1,nc (nv x.2)):=by unfold iv;simp only[F4]
 rw[this,B0h]
def C0h (k:Int):nv (ri k).2=1:=rfl
def XC (k:Int):rc (k:Rat)=ri k:=by
 unfold rc ri;rw[g2o,g2n,Tj]
def dO (k:Int):rv (ri k)=(k:Rat):=by
 unfold rv;rw[C0h];show mkRat (iv (ic k)) 1= _;rw[J9];exact Rat.mkRat_one k
def H8 (q:Rat):rv (rc q)=q:=by
 unfold rv rc;simp only[J9,F4];exact g1b q
def B6j (x:C6):C0j x=(rv x).num.sign:=by
 unfold C0j rv;split
 . rename_i h;rw[h,yQ];rfl
 . rename_i h;rw[Rat.num_mkRat,qH h];have b:(0:Int)<(((nv x.2).gcd (iv x.1).natAbs:Nat):Int):=by
    have:=g1s (iv x.1).natAbs (sZ h);omega
   have c:(((nv x.2).gcd (iv x.1).natAbs:Nat):Int)∣iv x.1:=yA.2 (yN ..);obtain⟨d,a⟩:=c;generalize (((nv x.2).gcd (iv x.1).natAbs:Nat):Int)=g at b a;rw[a,xQ _ (by omega),g4e,uU b,Int.one_mul]
def Na {x:Int} {d:Nat} (a:d≠0):(mkRat x d).num=x/((d.gcd x.natAbs:Nat):Int)/\(mkRat x d).den=d/d.gcd x.natAbs:=by
 rw[Rat.num_mkRat,Rat.den_mkRat,qH a,qH a];exact⟨rfl,rfl⟩
def dg (l:Wf) (i:Nat):Nat:=(l.getD i 0).toNat
def J0 (l:Wf) (i:Nat):nv (l.take (i+1))=nv (l.take i)+4294967296^i*dg l i:=by
 unfold dg;by_cases h:i<l.length
 . have:=JB (l:=l) (i:=(i:Int)) (by omega) (by omega);rw[show((i:Int)+1).toNat=i+1 from by omega,qV]at this;rw[this,V2 (by omega) (by omega),qV]
 . rw[qR (by omega),qR (by omega),qE,rT (by omega)];simp
def N1 {l:Wf} (h:A8 l) (i:Nat):dg l i<=4294967295:=by
 unfold dg;by_cases a:i<l.length
 . rw[qE,qP a];have:=h l[i] (vN a);unfold gI at this;simp only[vJ];omega
 . rw[qE,rT (by omega)];simp
def Ex {l:Wf} (h:A8 l) {i:Int} (a:0<=i) (b:i<(l.length:Int)):gx 0 l i=(dg l i.toNat:Int):=by
 have:=Tf h a b;unfold dg;rw[<-V2 (d:=(0:Int)) a b];omega
def X1 {l:Wf} (h:A8 l) {i:Nat} :l.getD i 0=(dg l i:Int):=by
 unfold dg;by_cases a:i<l.length
 . have:=h l[i] (vN a);unfold gI at this;rw[qE,qP a];simp only[vJ];omega
 . rw[qE,rT (by omega)];rfl
def Oi {l:Wf} {i:Nat} (h:l.length<=i):dg l i=0:=by
 unfold dg;rw[qE,rT h];rfl
def S6 {l:Wf} {i:Nat} {v:Int} (h:i<l.length):nv ((l.set i v).take (i+1))=nv (l.take i)+4294967296^i*v.toNat:=by
 rw[J0,yX (qT _)];unfold dg;rw[qE,sH h];rfl
def Jb:∀ {l:Wf} {k:Nat} {v:Int},k<l.length->nv (l.set k v)+4294967296^k*dg l k=nv l+4294967296^k*v.toNat
 | [],_,_,h=>by simp at h
 |a::l,0,v,_=>by simp[nv,dg];omega
 |a::l,k+1,v,h=>by
  have d:=Jb (l:=l) (k:=k) (v:=v) (by simpa using h);have e:dg (a::l) (k+1)=dg l k:=by simp[dg]
  rw[e];simp only[g3w,nv,sA];generalize nv (l.set k v)=A at*;have b:4294967296^k*4294967296*dg l k=4294967296*(4294967296^k*dg l k):=by rw[sL (4294967296^k) 4294967296,sR]
  have c:4294967296^k*4294967296*v.toNat=4294967296*(4294967296^k*v.toNat):=by rw[sL (4294967296^k) 4294967296,sR]
  rw[b,c,uG,uG, <-tC, <-tC,d]
def cI {l:Wf} {k:Nat} {v:Int} (h:A8 l) (b:gI v):A8 (l.set k v):=fun x a=>by
 rcases List.mem_or_eq_of_mem_set a with a|a
 . exact h x a
 . rw[a];exact b
def Xr {l:Wf} {k i:Nat} {v:Int} (a:k<l.length):dg (l.set k v) i=if i=k then v.toNat else dg l i:=by
 unfold dg;rw[qE,yL];by_cases h:k=i
 . subst h;rw[qJ rfl,qJ a,qJ rfl];rfl
 . rw[qH h,qH (fun e=>h e.symm),qE]
def IP (n i:Nat):dg (List.replicate n 0) i=0:=by
 unfold dg;rw[qE,uB];split<;>rfl
def OR {l:Wf} {i:Nat} (h:∀j,i<=j->dg l j=0):nv (l.take i)=nv l:=by
 have b:∀k,nv (l.take (i+k))=nv (l.take i):=by
  intro k
  induction k with
  |zero=>rfl
  |succ k a=>rw[<-uG,J0,a,h (i+k) (by omega),wR,sU]
 rw[<-b l.length,qR (by omega)]
def cY {P A B o c a b s d:Nat} (h:o+P*c=A+B) (f:s+4294967296*d=c+a+b):(o+P*s)+(P*4294967296)*d=(A+P*a)+(B+P*b):=by
 have:=tA (P* ·) f;simp only[tC, <-sR]at this;omega
def VW {P A B o c a b s d:Nat} (h:A+P*c=o+B) (f:a+4294967296*d=s+b+c):(A+P*a)+(P*4294967296)*d=(o+P*s)+(B+P*b):=by
 have:=tA (P* ·) f;simp only[tC, <-sR]at this;omega
def A6n {a b:Wf} (c:A8 a) (d:A8 b):nv a+nv b<4294967296^(max a.length b.length+1):=by
 have f:=Ft c;have h:=Ft d;have g:4294967296^a.length<=4294967296^(max a.length b.length):=rZ (by decide) (Nat.le_max_left ..);have i:4294967296^b.length<=4294967296^(max a.length b.length):=rZ (by decide) (g4q ..);rw[sA];generalize 4294967296^(max a.length b.length)=P at*;omega
def FJ {P c x:Nat} (h:P*c<=x) (a:x<P):c=0:=by
 rcases vE c with a|a
 . exact a
 . have:=rW P a;omega
def Iz (l:Wf):iv (false,l)=(nv l:Int):=rfl
def VG (l:Wf):iv (true,l)= -(nv l:Int):=rfl
def B0r (b:Bool) (l:Wf):iv (!b,l)= -iv (b,l):=by
 cases b
 . rfl
 . show(nv l:Int)= - -(nv l:Int);omega
def X3 (v:Int):(ic v).2.length=(nc v.natAbs).length:=rfl
def A0g:ic 1=(false,[1]):=by unfold ic;rw[show(1:Int).natAbs=1 from rfl,Tj];rfl
def fX:ic 0=(false,[]):=by unfold ic;rw[show(0:Int).natAbs=0 from rfl,P3];rfl
def A4c:rc 0=((false,[]),[1]):=by
 unfold rc;rw[Rat.zero_num,Rat.zero_den,fX,Tj]
def kV {a:Jq} {b:Jq} (h:iv b=1):Js a b=((iv a:Int):Rat):=by
 unfold Js;rw[h];have:=g0b (iv a) 1;rw[show((1:Nat):Int)=1 from rfl]at this;rw[this];exact Rat.mkRat_one _
def A5o {a:Jq} {b:Jq} (h:iv b=0):Js a b=0:=by
 unfold Js;rw[h,Rat.divInt_zero]
def B6k (x:C6):Js x.1 (false,x.2)=rv x:=by
 unfold Js rv;rw[Iz,g0b]
structure ZM (U V v1 v2 t u2 P:Nat):Prop where
 pos:0<P
 v1p:0<v1
 v1b:v1<4294967296
 v2b:v2<4294967296
 u2b:u2<4294967296
 vlo:(v1*4294967296+v2)*P<=V
 vhi:V<(v1*4294967296+v2+1)*P
 ulo:(t*4294967296+u2)*P<=U
 uhi:U<(t*4294967296+u2+1)*P
 lt:U<V*4294967296
variable {U V v1 v2 t u2 P:Nat}
def ZM.vpos (h:ZM U V v1 v2 t u2 P):0<V:=by
 have a:=h.vlo;have a:0<(v1*4294967296+v2)*P:=g3e (by have:=h.v1p;omega) h.pos;omega
def ZM.quo (h:ZM U V v1 v2 t u2 P):U/V<4294967296:=by
 rw[tS h.vpos,sL];exact h.lt
def A3o {a b c P Q:Nat} (f:0<P) (h:a*P<=Q) (g:Q<(b+1)*P) (d:c<=a):c<=b:=by
 have f:c*P<=a*P:=rM _ d;have d:c*P<(b+1)*P:=by omega
 have:=xE d;omega
def ZM.top (h:ZM U V v1 v2 t u2 P):t*4294967296+u2<(v1*4294967296+v2+1)*4294967296:=by
 have a:=h.ulo;have a:=h.lt;have a:=rM 4294967296 (vQ h.vhi);have a:(t*4294967296+u2)*P<((v1*4294967296+v2+1)*4294967296)*P:=by
  have b:V*4294967296<(v1*4294967296+v2+1)*P*4294967296:=xA h.vhi (by decide);rw[zO];omega
 exact xE a
def ZM.t_le (h:ZM U V v1 v2 t u2 P):t<=v1*4294967296+v2:=by
 have:=h.top;omega
def ZM.est (h:ZM U V v1 v2 t u2 P):U/V*v1<=t:=by
 have a:U/V*V<=U:=yY U V;have b:U/V*(v1*4294967296+v2)*P<=U:=by
  rw[sR];exact qY (rW _ h.vlo) a
 have a:U/V*(v1*4294967296+v2)<=t*4294967296+u2:=A3o h.pos b h.uhi (qT _);rw[tC, <-sR]at a;have:=h.u2b;omega
def ZM.dec (h:ZM U V v1 v2 t u2 P) {d r:Nat} (f:t=d*v1+r) (a:U/V<=d) (b:4294967296<=d\/r*4294967296+u2<d*v2):U/V+1<=d:=by
 rcases sD (U/V) d with a|a
 . omega
 . exfalso;have c:U/V=d:=by omega
   rcases b with b|b
   . have:=h.quo;omega
   . have a:d*V<=U:=by rw[<-c];exact yY U V
     have b:d*(v1*4294967296+v2)*P<=U:=by
      rw[sR];exact qY (rW _ h.vlo) a
     have a:d*(v1*4294967296+v2)<=t*4294967296+u2:=A3o h.pos b h.uhi (qT _);rw[tC, <-sR,f,uZ]at a;omega
def ZM.near (h:ZM U V v1 v2 t u2 P) {d r:Nat} (c:t=d*v1+r) (g:d<4294967296) (a:d*v2<=r*4294967296+u2):d<=U/V+1:=by
 have a:=h.ulo;have b:d*(v1*4294967296+v2)<=t*4294967296+u2:=by
  rw[c,uZ,tC, <-sR];omega
 have c:d*(v1*4294967296+v2)*P<=U:=qY (rM _ b) a;have a:d*V<=d*((v1*4294967296+v2+1)*P):=rW _ (vQ h.vhi);have b:d*((v1*4294967296+v2+1)*P)=d*(v1*4294967296+v2)*P+d*P:=by
  rw[<-sR,tC d,xC,uZ]
 have f:d*P<V:=by
  have i:d*P<4294967296*P:=xA g h.pos;have g:4294967296*P<=(v1*4294967296+v2)*P:=rM _ (by have:=h.v1p;omega);have:=h.vlo;omega
 have g:d*V<U+V:=yC (qY a (Nat.le_of_eq b)) (Nat.add_lt_add_of_le_of_lt c f);rcases vE d with a|a
 . rw[a];exact rL _
 . have a:(d-1)*V<U:=by
    have:d*V=(d-1)*V+V:=by
     conv=>lhs;rw[show d=d-1+1 from by omega,uZ,xN]
    omega
   have:=(vL h.vpos).2 (vQ a);omega
def ZM.out (h:ZM U V v1 v2 t u2 P) {d r:Nat} (c:t=d*v1+r) (b:4294967296<=r) (a:U/V<=d):d<4294967296/\d*v2<=r*4294967296+u2:=by
 have a:=h.t_le;have a:=h.v2b;have b:d<4294967296:=by
  rcases sD d 4294967296 with a|a
  . exact a
  . have:=rM v1 a;rw[sL 4294967296]at this;omega
 refine⟨b, ?_⟩;have a:d*v2<=4294967295*4294967295:=vB (by omega) (by omega);omega
def AO:K3 0=0:=rfl
def fB (n:Nat):n<2^K3 n:=by
 unfold K3;split
 . rename_i h;subst h;decide
 . exact Nat.lt_log2_self
def AN {n:Nat} (h:n≠0):2^(K3 n-1)<=n/\1<=K3 n:=by
 unfold K3;rw[qH h,Nat.add_sub_cancel];exact⟨Nat.log2_self_le h,by omega⟩
def B4g {n k:Nat} (a:2^k<=n) (b:n<2^(k+1)):K3 n=k+1:=by
 have c:0<2^k:=tP (by decide);unfold K3;rw[qH (by omega)];congr 1;exact(Nat.log2_eq_iff (by omega)).2 ⟨a,b⟩
def IK {n k:Nat} (h:2^k<=n):K3 n=K3 (n/2^k)+k:=by
 have a:0<2^k:=tP (by decide);have c:n/2^k≠0:=by
  have:1<=n/2^k:=(vL a).2 (by omega);omega
 obtain⟨b,d⟩:=AN c;have c:=fB (n/2^k);have e:K3 (n/2^k)+k=(K3 (n/2^k)-1+k)+1:=by omega
 rw[e];apply B4g
 . rw[uX];have:=(vL a).1 b;exact this
 . rw[show K3 (n/2^k)-1+k+1=K3 (n/2^k)+k from by omega,uX];exact(tS a).1 c
def UG (p q:Rat):Int:=if p<q then -1 else if q<p then 1 else 0
def UH {a b:Int} {c d:Nat} (f:c≠0) (g:d≠0):UG (mkRat a c) (mkRat b d)=O6 (a*d) (b*c):=by
 have h:∀ {a b:Int} {c d:Nat},c≠0->d≠0->(mkRat a c<mkRat b d↔a*d<b*c):=fun {a b c d} f g=>by
  have i:(0:Rat)<(c:Rat):=Rat.natCast_pos.2 (sZ f);have j:(0:Rat)<(d:Rat):=Rat.natCast_pos.2 (sZ g);rw[yS,yS,Rat.div_lt_iff i,uE,uH,xB _ (c:Rat), <-uH, <-uE,Rat.lt_div_iff j];have:(a:Rat)*(d:Rat)=((a*(d:Int):Int):Rat):=by rw[g0j];rfl
  have i:(b:Rat)*(c:Rat)=((b*(c:Int):Int):Rat):=by rw[g0j];rfl
  rw[this,i,Rat.intCast_lt_intCast]
 unfold UG O6;simp only[h f g,h g f]
def A5f {p q:Rat} (h:p.num.sign≠q.num.sign):UG p q=O6 p.num.sign q.num.sign:=by
 have l:=g3h p;have n:=g3h q;have e:UG p q=O6 (p.num*q.den) (q.num*p.den):=by
  have:=UH (a:=p.num) (b:=q.num) p.den_nz q.den_nz;rwa[g1b,g1b]at this
 rw[e];have j:(p.num*(q.den:Int)).sign=p.num.sign:=by rw[g4e,uU (show(0:Int)<q.den by omega),Int.mul_one]
 have k:(q.num*(p.den:Int)).sign=q.num.sign:=by rw[g4e,uU (show(0:Int)<p.den by omega),Int.mul_one]
 rw[<-j, <-k]at h⊢;generalize p.num*(q.den:Int)=x at*;generalize q.num*(p.den:Int)=y at*;have i:∀z:Int,(z<0/\z.sign= -1)\/(z=0/\z.sign=0)\/(0<z/\z.sign=1):=fun z=>by
  rcases g1f z 0 with h|h|h
  . exact .inl ⟨h,xD h⟩
  . exact .inr (.inl ⟨h,by rw[h];rfl⟩)
  . exact .inr (.inr ⟨h,uU h⟩)
 unfold O6;rcases i x with⟨f,c⟩ | ⟨f,c⟩ | ⟨f,c⟩<;>rcases i y with⟨g,d⟩ | ⟨g,d⟩ | ⟨g,d⟩<;>rw[c,d]at h⊢ <;>first|exact absurd rfl h| (split<;>(try split)<;>(try split)<;>(try split)<;>omega)
structure Leh (X Y w x y u0 u1 u2 v0 v1 v2:Int) (ev:Bool):Prop where
 yx:y<=x
 y0:0<=y
 x0:0<x
 u10:0<=u1
 u20:0<=u2
 v10:0<=v1
 v20:1<=v2
 uv2:u2<=v2
 ex:x=if ev then v1*Y-u1*X else u1*X-v1*Y
 ey:y=if ev then u2*X-v2*Y else v2*Y-u2*X
 idX:x*v2+y*v1=X
 idY:x*u2+y*u1=Y
 det:u1*v2-u2*v1=if ev then -1 else 1
 /--At the start,or with what the cofactors before need. -/
 back:(u0=0/\u1=1/\v0=0/\v1=0/\ev=false/\u2=0/\v2=1)\/(0<=u0/\0<=v0/\u1<=v1/\v1<=x/\u0<=w/\v0<=w/\w-x>=v0+v1/\(v0=0\/u0<=v0)/\1<=v1/\
  w=(if ev then u0*X-v0*Y else v0*Y-u0*X)/\(u0*v1-u1*v0=if ev then 1 else -1))
def Leh.start {X Y:Int} (b:0<=Y) (h:Y<=X) (a:0<X):Leh X Y 0 X Y 0 1 0 0 0 1 false where
 yx:=h
 y0:=b
 x0:=a
 u10:=by decide
 u20:=by decide
 v10:=by decide
 v20:=by decide
 uv2:=by decide
 ex:=by simp
 ey:=by simp
 idX:=by omega
 idY:=by omega
 det:=by simp
 back:= .inl ⟨rfl,rfl,rfl,rfl,rfl,rfl,rfl⟩
def Leh.step {X Y w x y u0 u1 a v0 v1 v2:Int} {ev:Bool} (h:Leh X Y w x y u0 u1 a v0 v1 v2 ev) (c1:v2<=y) (G:v1+v2<=x-y):Leh X Y x y (x%y) u1 a (u1+x/y*a) v1 v2 (v1+x/y*v2) (!ev):=by
 have E:=h.v20;have j:0<y:=by omega
 have z:1<=x/y:=by
  rw[g2c j];have:=h.yx;omega
 have B:=g2i x (b:=y) (by omega);have D:=zJ x j;have H:x=y*(x/y)+x%y:=(yG x y).symm;have i:x%y=x-x/y*y:=by rw[g2d (x/y)];omega
 have u:=h.idX;have v:=h.idY;have k:=h.det;have d:=h.ex;have f:=h.ey;have n:=h.u20;have l:=h.u10;have F:=h.v10;have o:=h.uv2;generalize x/y=q at*;have A:0<=q*a:=tL (by omega) n;have J:1*v2<=q*v2:=sK z (by omega);have I:q*a<=q*v2:=tY o (by omega);refine⟨wY D,B,j,n,Int.add_nonneg l A,by omega,by omega, ?_, ?_, ?_, ?_, ?_, ?_, .inr ⟨l,F,o,c1, ?_,by omega,by omega, ?_,E, ?_, ?_⟩⟩
 . rcases h.back with⟨_,c,_,g,_,r,s⟩ | ⟨_,_,c,_⟩
   . subst r s;omega
   . omega
 . cases ev<;>simpa using f
 . rw[i];cases ev
   . simp only[g0u,wF,vZ,yR]at d f⊢;rw[d,f];grind
   . simp only[zB,wF,vZ,yR]at d f⊢;rw[d,f];grind
 . rw[i, <-u];grind
 . rw[i, <-v];grind
 . have t:a*(v1+q*v2)-(u1+q*a)*v2= -(u1*v2-a*v1):=by
    grind
   rw[t,k];cases ev<;>simp
 . rcases h.back with⟨_,c,_,g,_⟩ | ⟨_,_,c,_⟩<;>omega
 . rcases h.back with⟨_,c,_,g,_⟩ | ⟨_,_,c,_⟩
   . exact .inl g
   . exact .inr c
 . cases ev<;>simpa using d
 . rw[k];cases ev<;>simp
def Leh.apply {X Y w x y u0 u1 D v0 v1 v2:Int} {ev:Bool} (h:Leh X Y w x y u0 u1 D v0 v1 v2 ev) (l:v0≠0) {P α a A B:Int} (I:0<P) (j:0<=α) (J:α<P) (k:0<=a) (M:a<P) (d:A=X*P+α) (f:B=Y*P+a):
 ∃A' B':Int,A'=(if ev then u0*A-v0*B else v0*B-u0*A)/\B'=(if ev then v1*B-u1*A else u1*A-v1*B)/\0<=B'/\B'<=A'/\A=v1*A'+v0*B'/\B=u1*A'+u0*B'/\1<=v0/\1<=v1/\0<=u0/\0<=u1:=by
 rcases h.back with⟨_,_,o,_⟩ | ⟨n,G,E,R,O,Q,H,z,F,c,det⟩
 . exact absurd o l
 have N:u0<=v0:=z.resolve_left l;have i:=h.u10;refine⟨_,_,rfl,rfl, ?_, ?_, ?_, ?_,by omega,F,n,i⟩
 . --the second combination is not negative
   have b:=h.ex;have g:0<=(x-v1)*P:=tL (by omega) (by omega);have r:0<=u1*α:=tL i j;have s:v1*a<=v1*P:=tY (by omega) (by omega);have t:0<=v1*a:=tL (by omega) k;have u:u1*α<=u1*P:=tY (by omega) i;have v:u1*P<=v1*P:=sK E (by omega);rw[Int.sub_mul]at g;cases ev
   . simp only[vZ,yR]at b⊢;have:u1*A-v1*B=x*P+u1*α-v1*a:=by
      rw[d,f,b];grind
     omega
   . simp only[wF]at b⊢;have:v1*B-u1*A=x*P+v1*a-u1*α:=by
      rw[d,f,b];grind
     omega
 . have b:=h.ex;have g:0<=(w-x-(v0+v1))*P:=tL (by omega) (by omega);have r:0<=(u0+u1)*α:=tL (by omega) j;have s:(v0+v1)*a<=(v0+v1)*P:=tY (by omega) (by omega);have t:0<=(v0+v1)*a:=tL (by omega) k;have u:(u0+u1)*α<=(u0+u1)*P:=tY (by omega) (by omega);have v:(u0+u1)*P<=(v0+v1)*P:=sK (by omega) (by omega);rw[Int.sub_mul]at g;cases ev
   . simp only[vZ,yR]at b c⊢;have:v0*B-u0*A-(u1*A-v1*B)=(w-x)*P+(v0+v1)*a-(u0+u1)*α:=by
      rw[d,f,b,c];grind
     omega
   . simp only[wF]at b c⊢;have:u0*A-v0*B-(v1*B-u1*A)=(w-x)*P+(u0+u1)*α-(v0+v1)*a:=by
      rw[d,f,b,c];grind
     omega
 . cases ev
   . simp only[vZ,yR]at det⊢;have:v1*(v0*B-u0*A)+v0*(u1*A-v1*B)= -(u0*v1-u1*v0)*A:=by
      grind
     rw[this,det];omega
   . simp only[wF]at det⊢;have:v1*(u0*A-v0*B)+v0*(v1*B-u1*A)=(u0*v1-u1*v0)*A:=by
      grind
     rw[this,det];omega
 . cases ev
   . simp only[vZ,yR]at det⊢;have:u1*(v0*B-u0*A)+u0*(u1*A-v1*B)= -(u0*v1-u1*v0)*B:=by
      grind
     rw[this,det];omega
   . simp only[wF]at det⊢;have:u1*(u0*A-v0*B)+u0*(v1*B-u1*A)=(u0*v1-u1*v0)*B:=by
      grind
     rw[this,det];omega
def B0b {A B A' B' u0 u1 v0 v1 s t p q:Int} (a:A=v1*A'+v0*B') (b:B=u1*A'+u0*B') (c:A'=s*A+t*B) (d:B'=p*A+q*B):Int.gcd A B=Int.gcd A' B':=by
 apply Nat.dvd_antisymm
 . apply Int.dvd_gcd
   . rw[c];exact g2v (uY (zZ ..)) (uY (zQ ..))
   . rw[d];exact g2v (uY (zZ ..)) (uY (zQ ..))
 . apply Int.dvd_gcd
   . rw[a];exact g2v (uY (zZ ..)) (uY (zQ ..))
   . rw[b];exact g2v (uY (zZ ..)) (uY (zQ ..))
def BO {s:Nat} (a:s<=32):4294967296=2^s*2^(32-s):=by
 rw[<-uX,show s+(32-s)=32 from by omega]
def Kj (n:Nat):4294967296^n=2^(32*n):=by
 rw[show(4294967296:Nat)=2^32 from rfl, <-g1i]
def B7l {a low lo H P s:Nat} (b:0<P) (f:a=low+lo*P+H*(P*4294967296)) (g:low<P) (c:s<=31):a*2^s/(P*4294967296)=H*2^s+lo/2^(32-s):=by
 have c:0<P*4294967296:=g3e b (by decide);have d:0<2^s:=tP (by decide);have e:a*2^s=(low+lo*P)*2^s+H*2^s*(P*4294967296):=by
  rw[f,uZ,zO H]
 rw[e,yI _ _ c,vY];congr 1;have c:P*4294967296=P*2^(32-s)*2^s:=by rw[sR,sL (2^(32-s)), <-BO (by omega)]
 rw[c,zY _ _ d, <-vP,yI _ _ b,uI g,sB]
def A7d {a s m:Nat} (h:s<=m):a*2^s/2^m=a/2^(m-s):=by
 have b:0<2^s:=tP (by decide)
 conv=>lhs;rw[show m=m-s+s from by omega,uX,zY _ _ b]
def gT (l:Wf) (i:Nat) (h:i<=l.length):nv l=nv (l.take i)+4294967296^i*nv (l.drop i):=by
 conv=>lhs;rw[<-uN i l,Qg,qU,tD h]
def T6 {l:Wf} (h:A8 l) (i:Nat):nv (l.take i)<4294967296^i:=by
 have a:=Ft (l:=l.take i) fun x hx=>h x (sC hx)
 refine rD a (rZ (by decide) ?_);rw[qU];exact g2k ..
def Tm (l:Wf) {n:Nat} (h:l.length<=n+1):nv l=nv (l.take n)+4294967296^n*dg l n:=by
 conv=>lhs;rw[<-qR h,J0]
def A3y (l:Wf) {n:Nat} (h:l.length<=n+2):nv l=nv (l.take n)+4294967296^n*(dg l (n+1)*4294967296+dg l n):=by
 rw[Tm l (n:=n+1) h,J0,sA,tC,sL (dg l (n+1)), <-sR];omega
def A3z (l:Wf) {n:Nat} (h:l.length<=n+3):nv l=nv (l.take n)+4294967296^n*((dg l (n+2)*4294967296+dg l (n+1))*4294967296+dg l n):=by
 rw[A3y l (n:=n+1) h,J0,sA];generalize 4294967296^n=P;grind
def A3p {a:Wf} (b:A8 a) {n:Nat} (c:a.length=n+1) {s:Nat} (d:s+K3 (dg a n)<=32):nv a*2^s<4294967296^(n+1):=by
 have c:=Tm a (n:=n) (by omega);have c:=T6 b n;have b:=fB (dg a n);have c:nv a<4294967296^n*2^K3 (dg a n):=by
  have:4294967296^n*(dg a n+1)<=4294967296^n*2^K3 (dg a n):=rW _ b;rw[tC,xC]at this;omega
 have b:nv a*2^s<4294967296^n*2^K3 (dg a n)*2^s:=xA c (tP (by decide));rw[sR, <-uX]at b;have c:2^(K3 (dg a n)+s)<=2^32:=rZ (by decide) (by omega);have d:=rW (4294967296^n) c;rw[sA];exact rD b d
def cS {n:Nat} (h:n≠0):Lv (nc n):=by
 have a:(nc n).length≠0:=fun a=>h (Yd.1 (qO a))
 unfold Lv;intro a;have b:=J7 n;have e:=Tm (nc n) (n:=(nc n).length-1) (by omega);have c:dg (nc n) ((nc n).length-1)=0:=by unfold dg;rw[a];rfl
 rw[c,wR,sU,F4]at e;have a:=T6 b ((nc n).length-1);rw[<-e]at a;have:=Ep a;omega
def NV {l:Wf} (a:A8 l) (h:Lv l):dg l (l.length-1)≠0:=by
 unfold Lv at h;have:=X1 a (i:=l.length-1);rw[this]at h;omega
def XU {l:Wf} (b:A8 l) (h:Lv l):nv l≠0:=by
 have a:=NV b h;have b:l.length≠0:=fun e=>by
  rw[qO e]at a;simp[dg]at a
 have e:=Tm l (n:=l.length-1) (by omega);have b:0<4294967296^(l.length-1):=tP (by decide);have b:=rW (4294967296^(l.length-1)) (sZ a);omega
def A3q {V low P x:Nat} (h:V=low+P*x) (a:low<P):x*P<=V/\V<(x+1)*P:=by
 rw[uZ,xN,sL x,h];omega
def B8x {w v:Wf} (c:A8 w) (a:A8 v) {n:Nat} (b:v.length=n+2) (d:w.length=n+3) (h:dg v (n+1)≠0) (g:nv w<nv v*4294967296):ZM (nv w) (nv v) (dg v (n+1)) (dg v n) (dg w (n+2)*4294967296+dg w (n+1)) (dg w n) (4294967296^n):=by
 have ev:=A3y v (n:=n) (by omega);have b:=A3z w (n:=n) (by omega);have d:=T6 a n;have f:=T6 c n;have i:=N1 a (n+1);have i:=N1 a n;have a:=N1 c n;exact⟨tP (by decide),sZ h,by omega,by omega,by omega,(A3q ev d).1,(A3q ev d).2,(A3q b f).1,(A3q b f).2,g⟩
def A9g {l:Wf} (h:A8 l) (i:Nat):dg l i=nv l/4294967296^i%4294967296:=by
 have d:0<4294967296^i:=tP (by decide);by_cases a:i<l.length
 . have e:=gT l (i+1) (by omega);rw[J0]at e;have a:=T6 h i;have c:=N1 h i;have b:nv l=nv (l.take i)+(dg l i+4294967296*nv (l.drop (i+1)))*4294967296^i:=by
    rw[e,sA];generalize 4294967296^i=P;grind
   rw[b,yI _ _ d,uI a,sB,yV,tV (by omega)]
 . rw[Oi (by omega)];have a:=Ft h;have c:4294967296^l.length<=4294967296^i:=rZ (by decide) (by omega);rw[uI (by omega)]
def B4f {l:Wf} (h:A8 l) (i:Nat):dg l (i/32)/2^(i%32)%2=nv l/2^i%2:=by
 rw[A9g h,Kj];have e:i=32*(i/32)+i%32:=by omega
 have a:(4294967296:Nat)=2^(i%32)*2^(32-i%32):=BO (by omega)
 conv=>rhs;rw[e,uX, <-vP]
 generalize nv l/2^(32*(i/32))=x;rw[a,Nat.mod_mul_right_div_self];have a:2^(32-i%32)=2*2^(31-i%32):=by rw[<-Nat.pow_succ'];congr 1;omega
 rw[a,Nat.mod_mul_right_mod]
def A8o {a b i:Nat} (j:b≠0):a/2^i=2*(a/2^(i+1))+a/2^i%2/\
 a/2^i/b=2*(a/2^(i+1)/b)+(if b<=2*(a/2^(i+1)%b)+a/2^i%2 then 1 else 0)/\
 a/2^i%b=2*(a/2^(i+1)%b)+a/2^i%2-(if b<=2*(a/2^(i+1)%b)+a/2^i%2 then b else 0):=by
 have k:a/2^(i+1)=a/2^i/2:=by rw[sA,vP]
 have f:a/2^i=2*(a/2^(i+1))+a/2^i%2:=by rw[k];omega
 refine⟨f, ?_⟩;have s:a/2^i%2<2:=wE _ (by decide);generalize a/2^i%2=d at*;generalize a/2^(i+1)=h at*;rw[f];have n:=wW h b;have t:=wE h (sZ j);generalize h%b=r at*;generalize h/b=q at*;have l:2*h+d=b*(2*q)+(2*r+d):=by rw[<-n];grind
 rw[l,g2l (sZ j),g2m];by_cases c:b<=2*r+d
 . rw[qJ c,qJ c];have o:2*r+d=b+(2*r+d-b):=by omega
   have g:(2*r+d)/b=1:=Nat.div_eq_of_lt_le (by omega) (by omega);refine⟨by rw[g], ?_⟩;have:=wW (2*r+d) b;rw[g]at this;omega
 . rw[qH c,qH c,uI (by omega),tV (by omega)];exact⟨rfl,by omega⟩
def B6o {q:Wf} (a:A8 q) {M i:Nat} (d:nv q=M*2^(i+1)) (f:i/32<q.length):∃b:Nat,dg q (i/32)=b*2^(i%32+1)/\nv (q.set (i/32) ((dg q (i/32)+2^(i%32):Nat):Int))=(2*M+1)*2^i:=by
 have e:i=32*(i/32)+i%32:=by omega
 have c:dg q (i/32)=(M*2^(i%32+1))%4294967296:=by
  rw[A9g a,d,Kj];congr 1;have a:i+1=32*(i/32)+(i%32+1):=by omega
  rw[a,uX,zW,xY _ (tP (by decide))]
 refine⟨M%2^(31-i%32), ?_, ?_⟩
 . rw[c];have a:(4294967296:Nat)=2^(31-i%32)*2^(i%32+1):=by
    rw[<-uX,show 31-i%32+(i%32+1)=32 from by omega]
   conv=>lhs;rw[a]
   rw[Nat.mul_mod_mul_right]
 . have c:=Jb (l:=q) (k:=i/32) (v:=((dg q (i/32)+2^(i%32):Nat):Int)) f;rw[qV,d,Kj,tC]at c;have a:2^(32*(i/32))*2^(i%32)=2^i:=by rw[<-uX, <-e]
   rw[a]at c;have a:(2*M+1)*2^i=M*2^(i+1)+2^i:=by rw[sA];grind
   rw[a];omega
def ME {l:Wf} (h:A8 l) (i:Nat):dg l i=nv l/4294967296^i%4294967296:=by
 have d:0<4294967296^i:=tP (by decide);have a:=N1 h i;have f:=T6 h i;rcases sD i l.length with a|a
 . have b:=gT l (i+1) a;rw[J0,sA]at b;have c:nv l=nv (l.take i)+(dg l i+nv (l.drop (i+1))*4294967296)*4294967296^i:=by rw[b];grind
   rw[c,yI _ _ d,uI f,sB,Nat.add_mul_mod_self_right,tV (by omega)]
 . rw[Oi a];have b:=Ft h;have b:4294967296^l.length<=4294967296^i:=rZ (by decide) a;rw[uI (by omega)]
def A7e {l:Wf} (h:A8 l) (i:Nat) {s:Nat} (a:s<=31):nv l/2^s/4294967296^i%4294967296=(dg l i+dg l (i+1)*4294967296)/2^s%4294967296:=by
 have d:0<2^s:=tP (by decide);have a:nv l/2^s/4294967296^i=nv l/4294967296^i/2^s:=by rw[vP,vP,sL]
 have b:dg l i+dg l (i+1)*4294967296=nv l/4294967296^i%(4294967296*4294967296):=by
  rw[Nat.mod_mul, <-ME h i,vP, <-sA, <-ME h (i+1),sL]
 rw[a,b];generalize nv l/4294967296^i=W;have c:W=W%(4294967296*4294967296)+2^s*(4294967296*(2^(32-s)*(W/(4294967296*4294967296)))):=by
  have a:=Nat.mod_add_div W (4294967296*4294967296);have b:=BO (s:=s) (by omega)
  conv=>lhs;rw[<-a]
  congr 1
  calc 4294967296*4294967296*(W/(4294967296*4294967296))=4294967296*(4294967296*(W/(4294967296*4294967296))):=sR ..
   _=(2^s*2^(32-s))*(4294967296*(W/(4294967296*4294967296))):=by rw[<-b]
   _= _:=by rw[sR,zW (2^(32-s))]
 conv=>lhs;rw[c,g3b _ _ d,yV]
def dV {l:Wf} (h:A8 l) {k s:Nat} :nv l/2^(32*k+s)=nv (l.drop k)/2^s:=by
 rw[uX, <-Kj, <-vP];congr 1;have b:0<4294967296^k:=tP (by decide);rcases sD l.length k with a|a
 . rw[sG (by omega)];have c:=Ft h;have c:4294967296^l.length<=4294967296^k:=rZ (by decide) (by omega);rw[uI (by omega)];rfl
 . have e:=gT l k a;have a:=T6 h k;rw[e,g3b _ _ b,uI a,sB]
def J3 (x:Jq):(iv x).natAbs=nv x.2:=by
 unfold iv;split<;>omega
def FT {a b:Wf} (c:A8 a) (d:A8 b):(nc (nv a*nv b)).length<=a.length+b.length:=by
 have f:=Oo (nv a) (nv b);have f:=D4 c;have c:=D4 d;omega
def FN {x y:Jq} (a:A8 x.2) (b:A8 y.2):(ic (iv x*iv y)).2.length<=x.2.length+y.2.length:=by
 rw[X3,vG,J3,J3];exact FT a b
def VA {x y:Jq} {k:Nat} (a:A8 x.2) (b:A8 y.2) (c:x.2.length<=k) (d:y.2.length<=k):(ic (iv x+iv y)).2.length<=k+1:=by
 rw[X3];have e:(iv x+iv y).natAbs<=nv x.2+nv y.2:=by
  have:=zR (iv x) (iv y);rwa[J3,J3]at this
 have h:=NA (nv x.2) (nv y.2);have c:=D4 a;have a:=D4 b;have c:=J4 e;omega
def mD (v:Int):A8 (ic v).2:=J7 _
def iG {V:Int} {D:Nat} (f:D≠0):rc (mkRat V D)=((decide (V<0),nc (V.natAbs/Nat.gcd V.natAbs D)),nc (D/Nat.gcd V.natAbs D)):=by
 obtain⟨j,i⟩:=Na (x:=V) (d:=D) f;unfold rc;rw[j,i,wZ V.natAbs D];unfold ic;have g:((D.gcd V.natAbs:Nat):Int)∣V:=yA.2 (yN ..);have b:0<D.gcd V.natAbs:=g1s _ (sZ f);generalize D.gcd V.natAbs=G at g b;obtain⟨c,rfl⟩:=g;rw[xQ _ (by omega)];have k:(G:Int)*c<0↔c<0:=by
  constructor
  . intro h;rcases g4d c 0 with a|a
    . exact a
    . have:=tL (wY (uA.2 b)) a;omega
  . intro h;exact yU (by omega) h
 rw[vG,uL,xY _ b];simp only[k]
def B6f {V:Int} {D:Nat} (a:D≠0) (h:Nat.gcd V.natAbs D=1):rc (mkRat V D)=(ic V,nc D):=by
 rw[iG a,h,g3c,g3c];rfl
def MW {a b:Int} {c d:Nat} (f:c≠0) (g:d≠0):mkRat a c+mkRat b d=mkRat (a*d+b*c) (c*d):=Rat.mkRat_add_mkRat a b f g
def A0q {a b:Int} {c:Nat} (d:c≠0):mkRat a c+mkRat b c=mkRat (a+b) c:=by
 rw[MW d d, <-Int.add_mul,Rat.mkRat_mul_right d]
def Ky {x:C6} {n:Jq} {d:Wf} (h:(nv x.2=0->n=zi/\d= [1])/\(nv x.2≠0->n=x.1/\d=x.2)):nv d≠0/\rv x=mkRat (iv n) (nv d):=by
 rcases g4b (nv x.2=0)with a|a
 . obtain⟨rfl,rfl⟩:=h.1 a;refine⟨by decide, ?_⟩;unfold rv;rw[a,yQ];exact(Rat.zero_mkRat _).symm
 . obtain⟨rfl,rfl⟩:=h.2 a;exact⟨a,rfl⟩
def Hn {x:C6} {n:Jq} {d:Wf} {k:Nat} (h:(nv x.2=0->n=zi/\d= [1])/\(nv x.2≠0->n=x.1/\d=x.2)) (b:x.1.2.length<=k) (c:x.2.length<=k) (f:1<=k):n.2.length<=k/\d.length<=k:=by
 rcases g4b (nv x.2=0)with a|a
 . obtain⟨rfl,rfl⟩:=h.1 a;exact⟨by simp[zi],by simpa using f⟩
 . obtain⟨rfl,rfl⟩:=h.2 a;exact⟨b,c⟩
end Go.Proofs.YtljgpjhcieidbaaGreat
