/- Where ways meet: which slots and things are told anew, and by what. -/
import Derived.Test.YtedfiemhfpcggaaVc15
namespace Go.Vc
open Go Go.RowKit Go.Gw

inductive CSh where
  | val (t : Ty)
  | own (t : Ty) (e : TypeId)
@[reducible] def CSh.den : CSh → Type
  | .val t => t.den
  | .own t _ => List t.den
@[reducible] def shD : List CSh → Type → Type
  | [], T => T
  | c :: r, T => c.den × shD r T
/-- Things that are written: rows, maps. -/
inductive LT where
  | row (t : Ty) (e : TypeId)
  | map (ka : Bool) (kt : Ty) (va : Bool) (vt : Ty)
@[reducible] def LT.den : LT → Type
  | .row t _ => List t.den
  | .map _ kt _ vt => List (kt.den × vt.den)
def LT.wf : (l : LT) → l.den → Prop
  | .row t _, x => (Ty.sl t).wf x
  | .map ka kt va vt, x => (Ty.mp ka kt va vt).wf x
def LT.lc : (l : LT) → l.den → LC
  | .row t e, x => .row t e x
  | .map ka kt va vt, x => .map ka kt va vt x
def lcAt (st : St) (k : Nat) : (l : LT) → Option l.den
  | .row t e => rowAt st t e k
  | .map ka kt va vt => mapC st ka kt va vt (.mp k)
@[reducible] def rowD : List (Nat × LT) → Type
  | [] => Unit
  | (_, t) :: r => t.den × rowD r
/-- keepS, keepL: stay as they are; modS: slots that are told anew; boxL, rowL: things of the call's own that are written. -/
structure Ann where
  keepS : List Nat
  keepL : List Nat
  modS : List (Nat × Bool × List CSh)
  boxL : List (Nat × TypeId × List CSh)
  rowL : List (Nat × LT)
def shsS : List (Nat × Bool × List CSh) → List CSh → List CSh
  | [], r => r
  | (_, _, cs) :: l, r => cs ++ shsS l r
def shsB : List (Nat × TypeId × List CSh) → List CSh
  | [] => []
  | (_, _, cs) :: l => cs ++ shsB l
def Ann.shs (A : Ann) : List CSh := shsS A.modS (shsB A.boxL)
@[reducible] def Ann.den (A : Ann) : Type := shD A.shs (rowD A.rowL)
def CSh.wf : (c : CSh) → c.den → Prop
  | .val t, x => t.wf x
  | .own t _, l => (Ty.sl t).wf l
def shW : (shs : List CSh) → {T : Type} → (T → Prop) → shD shs T → Prop
  | [], _, q, x => q x
  | c :: r, _, q, x => c.wf x.1 ∧ shW r q x.2
def rowW : (l : List (Nat × LT)) → rowD l → Prop
  | [], _ => True
  | (_, t) :: r, x => t.wf x.1 ∧ rowW r x.2
def Ann.wf (A : Ann) (p : A.den) : Prop := shW A.shs (rowW A.rowL) p

def cellsS (st : St) : List (Nat × Bool × List CSh) → List C → Option (List C)
  | [], r => some r
  | (s, agg, shs) :: l, r => match st.S s with
    | .one ⟨a, cs⟩ => bif (a == agg) && Nat.beq cs.length shs.length then (cellsS st l r).map (cs ++ ·) else none
    | _ => none
def cellsB (st : St) : List (Nat × TypeId × List CSh) → Option (List C)
  | [] => some []
  | (k, T, shs) :: l => match st.L k with
    | .box T' cs => bif Nat.beq T' T && Nat.beq cs.length shs.length then (cellsB st l).map (cs ++ ·) else none
    | _ => none
def Ann.cells (A : Ann) (st : St) : Option (List C) := (cellsB st A.boxL).bind (cellsS st A.modS)
def settleSh : St → List CSh → List C → St
  | st, .val _ :: r, c :: cs => settleSh (settle st [c]) r cs
  | st, .own _ _ :: r, _ :: cs => settleSh st r cs
  | st, _, _ => st
def packSh (st : St) : (shs : List CSh) → {T : Type} → T → List C → Option (shD shs T)
  | [], _, x, [] => some x
  | .val t :: r, _, x, c :: cs => (asTy t c).bind fun y => (packSh st r x cs).map fun z => (y, z)
  | .own t e :: r, _, x, c :: cs => (rowFor st t e c).bind fun y => (packSh st r x cs).map fun z => (y, z)
  | _, _, _, _ => none
def rowP (st : St) : (l : List (Nat × LT)) → Option (rowD l)
  | [] => some ()
  | (k, t) :: r => (lcAt st k t).bind fun y => (rowP st r).map fun z => (y, z)
def ownIds : List CSh → List C → List Nat
  | .own _ _ :: r, .row k :: cs => k :: ownIds r cs
  | _ :: r, _ :: cs => ownIds r cs
  | _, _ => []
def keepE {α : Type} (d : α) (l : List (Nat × α)) : List Nat → List (Nat × α)
  | [] => []
  | s :: r => (s, find d s l) :: keepE d l r
def gath (A : Ann) (st : St) : Option (St × A.den) := do
  let cs ← A.cells st
  let st1 := settleSh st A.shs cs
  let cs1 ← A.cells st1
  let tl ← rowP st1 A.rowL
  let p ← packSh st1 A.shs tl cs1
  bif nodupB (A.keepL ++ (ownIds A.shs cs1 ++ ((A.rowL.map fun x => x.1) ++ (A.boxL.map fun x => x.1)))) then some (st1, p) else none
def oneC : (t : Ty) → t.den → C
  | .ptr t, x => .pf t x 0
  | t, x => .val t x
def placeSh : (shs : List CSh) → {T : Type} → shD shs T → St → List C × St × T
  | [], _, x, st => ([], st, x)
  | .val t :: r, _, x, st => (fun p => (oneC t x.1 :: p.1, p.2)) (placeSh r x.2 st)
  | .own t e :: r, _, x, st => (fun p => (C.row st.nx :: p.1, p.2)) (placeSh r x.2 (st.newL (.row t e x.1)))
def putRows : (l : List (Nat × LT)) → rowD l → St → St
  | [], _, st => st
  | (k, t) :: r, x, st => putRows r x.2 (st.setL k (t.lc x.1))
def putS : List (Nat × Bool × List CSh) → List C → St → List C × St
  | [], cs, st => (cs, st)
  | (s, agg, shs) :: r, cs, st => putS r (cs.drop shs.length) (st.setS s (.one ⟨agg, cs.take shs.length⟩))
def putB : List (Nat × TypeId × List CSh) → List C → St → St
  | [], _, st => st
  | (k, T, shs) :: r, cs, st => putB r (cs.drop shs.length) (st.setL k (.box T (cs.take shs.length)))
def kept (A : Ann) (st : St) : St := ⟨keepE (0, .dead) st.sl A.keepS, keepE (0, .none) st.lc A.keepL, st.nx, st.ct + 1, st.nm⟩
def reflect (A : Ann) (st0 : St) (p : A.den) : St :=
  (fun q => (fun r => putB A.boxL r.1 r.2) (putS A.modS q.1 (putRows A.rowL q.2.2 q.2.1))) (placeSh A.shs p (kept A st0))
def inTime (n : Nat) (g : Nat) : Bool := Nat.ble 1 g && Nat.ble g n
def keptOk (A : Ann) (st0 st : St) : Bool := (A.keepS.all fun s => inTime st0.ct (st.eS s).1) && (A.keepL.all fun k => inTime st0.ct (st.eL k).1) && (A.rowL.all fun x => Nat.blt x.1 st0.nx) && (A.boxL.all fun x => Nat.blt x.1 st0.nx)
/-- st comes to the meeting point, told by p. -/
def arrive (A : Ann) (st0 : St) (J : A.den → Prop) (st : St) : Prop :=
  match gath A st with
  | some (st1, p) => bif keptOk A st0 st1 then J p else False
  | none => False

section
variable {za : Zn} {w0 w : World} {Z : Nat → Prop} {B : Nat → Value} {st st0 : St} {E : Env}
theorem Evo.settleSh : ∀ (shs : List CSh) (cs : List C) (st : St), Evo st (settleSh st shs cs)
  | .val _ :: r, c :: cs, st => (Evo.settle st [c]).trans (Evo.settleSh r cs _)
  | .own _ _ :: r, _ :: cs, st => Evo.settleSh r cs st
  | [], _, st => Evo.refl st
  | .val _ :: _, [], st => Evo.refl st
  | .own _ _ :: _, [], st => Evo.refl st
theorem Rel.settleSh : ∀ {shs : List CSh} {cs : List C} {st : St} {Z : Nat → Prop}, Rel za w0 st E w Z B → ∃ Z', Rel za w0 (settleSh st shs cs) E w Z' B
  | .val _ :: r, c :: cs, st, Z, h => by
    obtain ⟨Z1, h1⟩ := h.settle [c]
    exact Rel.settleSh (shs := r) (cs := cs) h1
  | .own _ _ :: r, _ :: cs, st, Z, h => Rel.settleSh (shs := r) (cs := cs) h
  | [], _, st, Z, h => ⟨Z, h⟩
  | .val _ :: _, [], st, Z, h => ⟨Z, h⟩
  | .own _ _ :: _, [], st, Z, h => ⟨Z, h⟩
theorem Evo.putRows : ∀ (l : List (Nat × LT)) (x : rowD l) (st : St), Evo st (putRows l x st)
  | [], _, st => Evo.refl st
  | (k, t) :: r, x, st => (Evo.setL st k _).trans (Evo.putRows r x.2 _)
theorem Evo.placeSh : ∀ (shs : List CSh) {T : Type} (x : shD shs T) (st : St), Evo st (placeSh shs x st).2.1
  | [], _, _, st => Evo.refl st
  | .val t :: r, _, x, st => Evo.placeSh r x.2 st
  | .own t e :: r, _, x, st => (Evo.newL st (.row t e x.1)).trans (Evo.placeSh r x.2 _)
theorem Evo.putS : ∀ (l : List (Nat × Bool × List CSh)) (cs : List C) (st : St), Evo st (putS l cs st).2
  | [], _, st => Evo.refl st
  | (s, agg, shs) :: r, cs, st => (Evo.setS st s _).trans (Evo.putS r _ _)
theorem Evo.putB : ∀ (l : List (Nat × TypeId × List CSh)) (cs : List C) (st : St), Evo st (putB l cs st)
  | [], _, st => Evo.refl st
  | (k, T, shs) :: r, cs, st => (Evo.setL st k _).trans (Evo.putB r _ _)
theorem Evo.reflect (A : Ann) (st0 : St) (p : A.den) : Evo (kept A st0) (reflect A st0 p) :=
  (Evo.placeSh A.shs p _).trans ((Evo.putRows _ _ _).trans ((Evo.putS _ _ _).trans (Evo.putB _ _ _)))
theorem find_keepE {α : Type} (d : α) (l : List (Nat × α)) (q : Nat) : ∀ ks : List Nat, find d q (keepE d l ks) = if q ∈ ks then find d q l else d
  | [] => rfl
  | s :: r => by
    simp only [keepE, find, find_keepE d l q r]
    cases hb : Nat.beq s q with
    | true => have := Nat.eq_of_beq_eq_true hb; subst this; simp
    | false =>
      have : q ≠ s := fun h => by subst h; simp at hb
      simp [this]
theorem kept_eS (A : Ann) (st : St) (s : Nat) : (kept A st).eS s = if s ∈ A.keepS then st.eS s else (0, .dead) := find_keepE ..
theorem kept_eL (A : Ann) (st : St) (k : Nat) : (kept A st).eL k = if k ∈ A.keepL then st.eL k else (0, .none) := find_keepE ..
/-- An entry of the reflected state that bears an old time is one of the state before. -/
theorem reflect_old {A : Ann} {p : A.den} {s : Nat} (h0 : ((reflect A st0 p).eS s).1 ≠ 0) (h1 : ((reflect A st0 p).eS s).1 ≤ st0.ct) : (reflect A st0 p).eS s = st0.eS s := by
  have e := (Evo.reflect A st0 p).s s h0 (Nat.le_succ_of_le h1)
  rw [e] at h0 ⊢
  rw [kept_eS] at h0 ⊢
  split
  · rfl
  · rename_i hn; rw [if_neg hn] at h0; exact absurd rfl h0
theorem reflect_oldL {A : Ann} {p : A.den} {k : Nat} (h0 : ((reflect A st0 p).eL k).1 ≠ 0) (h1 : ((reflect A st0 p).eL k).1 ≤ st0.ct) : (reflect A st0 p).eL k = st0.eL k := by
  have e := (Evo.reflect A st0 p).l k h0 (Nat.le_succ_of_le h1)
  rw [e] at h0 ⊢
  rw [kept_eL] at h0 ⊢
  split
  · rfl
  · rename_i hn; rw [if_neg hn] at h0; exact absurd rfl h0
/-- What does not hang on a frame. -/
structure Pure (n : Nat) (st : St) : Prop where
  nms : st.nm = n ∧ n ≤ st.nx
  refs : ∀ s, refD st.nx (st.S s)
  refl : ∀ k, refL st.nx (st.L k)
  fresh : ∀ k, st.nx ≤ k → st.L k = .none
theorem Rel.pure (h : Rel za w0 st E w Z B) : Pure za.n st := ⟨h.nms, h.refs, h.refl, h.fresh⟩

/-- One more thing of the state before is taken over, under the number k. -/
structure Claim (za : Zn) (w0 : World) (st2 : St) (E : Env) (w : World) (Z : Nat → Prop) (B : Nat → Value) (used : List Nat) (st : St) (BX : Nat → Value) : Prop where
  rel : Rel za w0 st E w Z BX
  own : ∀ j, live (st.L j) → (∃ q, q ∈ used ∧ BX j = B q ∧ live (st2.L q)) ∨ root (BX j) = none
theorem Claim.disj {st2 : St} {used : List Nat} {BX : Nat → Value} (h2 : Rel za w0 st2 E w Z B) (c : Claim za w0 st2 E w Z B used st BX) {q : Nat} (hq : q ∉ used) (hl : live (st2.L q)) : ∀ k b, live (st.L k) → root (B q) = some b → root (BX k) ≠ some b := fun k b hk hb hb' => by
  rcases c.own k hk with ⟨q', hu, e, hl'⟩ | hn
  · rw [e] at hb'
    exact h2.disj q q' b (fun hh => hq (hh ▸ hu)) hl hl' hb hb'
  · rw [hn] at hb'; cases hb'
end
end Go.Vc
