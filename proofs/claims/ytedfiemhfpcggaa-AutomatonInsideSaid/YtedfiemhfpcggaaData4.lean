/- The run of a unit along given kinds. -/
import Derived.Test.YtedfiemhfpcggaaData3
namespace Go.Proofs.Ytedfiemhfpcggaa
open Go.Gw Go.RowKit
/-- The state after one hour. -/
def stepF (u : U) (aw : List Int) (hr : Int) (s : St) (k : Int) : Option St :=
  if idxF (fun t : St => decide (t.1 = k)) (nextF u s.1 s.2) < 0 ∨ (k ≠ 0 ∧ hr ∈ aw) then none
  else (nextF u s.1 s.2)[(idxF (fun t : St => decide (t.1 = k)) (nextF u s.1 s.2)).toNat]?
def runTo (u : U) (aw kinds : List Int) : Nat → Option (List St × St)
  | 0 => some ([], initF u)
  | g + 1 => match runTo u aw kinds g, kinds[g]? with
    | some p, some k => match stepF u aw g p.2 k with
      | some t => some (p.1 ++ [t], t)
      | none => none
    | _, _ => none
def WalkPost (u : U) (aw kinds : List Int) (v : Value) (w' : World) : Prop :=
  (∃ g p, g < kinds.length ∧ runTo u aw kinds g = some p ∧ runTo u aw kinds (g + 1) = none ∧ v = .tuple #[.slice none 0 0, .int .i64 g, .int .i64 16]) ∨
  (∃ p vs, runTo u aw kinds kinds.length = some p ∧ v = .tuple #[vs, .int .i64 kinds.length, .int .i64 0] ∧ SlR w' 2 stc vs p.1)
theorem init_bd {u : U} (hs : soundB u = true) : -100 ≤ (initF u).2 ∧ (initF u).2 ≤ 100 := by
  have h1 := sound_spec hs; have h2 := cap_bd hs
  unfold initF
  simp only [hs]
  repeat' split
  all_goals (simp only; try omega)
  all_goals simp_all
theorem next_bd {u : U} (hs : soundB u = true) {k h : Int} {t : St} (ht : t ∈ nextF u k h) : -100 ≤ t.2 ∧ t.2 ≤ 100 := by
  have h1 := sound_spec hs; have h2 := cap_bd hs
  unfold nextF at ht
  by_cases hp : posF u k h < 0
  · rw [if_pos hp] at ht; cases ht
  · have h3 := posF_in (Int.not_lt.1 hp)
    rw [if_neg hp] at ht
    repeat' split at ht
    all_goals simp at ht
    all_goals first
      | (subst ht; simp only; omega)
      | (rcases ht with ht | ht <;> subst ht <;> simp only <;> omega)
theorem idxF_lt {α : Type} {p : α → Bool} {l : List α} (h : 0 ≤ idxF p l) : (idxF p l).toNat < l.length := by
  unfold idxF at h ⊢
  by_cases hl : l.findIdx p < l.length
  · rw [if_pos hl]; omega
  · rw [if_neg hl] at h; omega
theorem step_some {u : U} {aw : List Int} {g : Nat} {s : St} {k : Int} {a : St} (h0 : ¬ idxF (fun t : St => decide (t.1 = k)) (nextF u s.1 s.2) < 0) (hn : ¬ (k ≠ 0 ∧ (g : Int) ∈ keysOf aw))
    (ha : (nextF u s.1 s.2)[(idxF (fun t : St => decide (t.1 = k)) (nextF u s.1 s.2)).toNat]? = some a) : stepF u aw g s k = some a := by
  rw [mem_keysOf] at hn
  unfold stepF
  rw [if_neg (by rintro (h | h); exact h0 h; exact hn h)]
  exact ha
theorem step_none {u : U} {aw : List Int} {g : Nat} {s : St} {k : Int} (h : idxF (fun t : St => decide (t.1 = k)) (nextF u s.1 s.2) < 0 ∨ (k ≠ 0 ∧ (g : Int) ∈ keysOf aw)) : stepF u aw g s k = none := by
  rw [mem_keysOf] at h
  unfold stepF
  rw [if_pos h]
theorem run_step {u : U} {aw kinds : List Int} {g : Nat} {p : List St × St} {k : Int} {a : St} (hr : runTo u aw kinds g = some p) (hk : kinds[g]? = some k) (hs : stepF u aw g p.2 k = some a) : runTo u aw kinds (g + 1) = some (p.1 ++ [a], a) := by
  simp only [runTo, hr, hk, hs]
theorem run_fail {u : U} {aw kinds : List Int} {g : Nat} {p : List St × St} {k : Int} (hr : runTo u aw kinds g = some p) (hk : kinds[g]? = some k) (hs : stepF u aw g p.2 k = none) : runTo u aw kinds (g + 1) = none := by
  simp only [runTo, hr, hk, hs]
end Go.Proofs.Ytedfiemhfpcggaa
