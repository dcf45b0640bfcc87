/- Two rows that a call owns, and sums that are known by another name. -/
import Derived.Test.YtedfiemhfpcggaaGwMap
namespace Go.Gw
open Go Go.RowKit
/-- The two rows do not share their block. -/
def Apart (v v2 : Value) : Prop := ∀ g, v.ownBlock = some g → v2.ownBlock ≠ some g
theorem Apart.symm {v v2 : Value} (h : Apart v v2) : Apart v2 v := fun g h1 h2 => h g h2 h1
theorem Apart.nil_r (v : Value) : Apart v (.slice none 0 0) := fun g _ h => by cases h
theorem Apart.nil_l (v : Value) : Apart (.slice none 0 0) v := fun g h => by cases h
section
variable {α β : Type} {w w' : World} {base e sz base2 e2 sz2 : Nat} {f : α → List Value} {f2 : β → List Value} {v v' v2 : Value} {l : List α} {l2 : List β}
theorem Own.grow2 (h2 : Own w base2 e2 sz2 f2 v2 l2) (hg : w.grownBy w' v.ownBlock) (ha : Apart v2 v) : Own w' base2 e2 sz2 f2 v2 l2 := by
  refine h2.grown hg ?_
  cases h : v2.ownBlock with
  | none => exact .inl rfl
  | some g => exact .inr (fun hh => ha g h hh.symm)
theorem Apart.append (ha : Apart v v2) (h2 : Own w base2 e2 sz2 f2 v2 l2) (h : v'.ownBlock = v.ownBlock ∨ v'.ownBlock = some w.heap.size) : Apart v' v2 := by
  intro g hg hg2
  rcases h with h | h
  · exact ha g (h ▸ hg) hg2
  · rw [hg] at h
    have := (World.ownsRow.lt h2 g hg2).2
    cases h
    omega
theorem Apart.of_base (h : Own w base e sz f v l) (h2 : Own w' base2 e2 sz2 f2 v2 l2) (hle : w'.heap.size ≤ base) : Apart v v2 := by
  intro g hg hg2
  have h1 := (World.ownsRow.lt h g hg).1
  have h3 := (World.ownsRow.lt h2 g hg2).2
  omega
end
theorem y_ie {P : Program} {E : Env} {ty : TypeId} {op : Op} {w : World} {k : IntKind} {a b : Int} (h : Yields P E ty op w (.int k a) w) (e : a = b) : Yields P E ty op w (.int k b) w := e ▸ h
theorem tmod_in (x n : Int) (hn : 0 < n) : -n < x.tmod n ∧ x.tmod n < n := by
  constructor
  · have := Int.tmod_lt_of_pos (-x) hn
    rw [Int.neg_tmod] at this
    omega
  · exact Int.tmod_lt_of_pos x hn
theorem tmod_nat (x : Int) (n : Nat) (hn : 0 < n) : ∃ i : Nat, (x.tmod n + n).tmod n = (i : Int) ∧ i < n := by
  have h1 := tmod_in x n (by omega)
  have h2 := Int.tmod_nonneg (a := x.tmod n + n) (n : Int) (by omega)
  have h3 := Int.tmod_lt_of_pos (x.tmod n + n) (b := (n : Int)) (by omega)
  exact ⟨((x.tmod n + n).tmod n).toNat, by omega, by omega⟩
end Go.Gw
