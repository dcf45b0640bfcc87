/- Plain lemmas on lists of states. -/
import Derived.Test.YtedfiemhfpcggaaData2
namespace Go.Proofs.Ytedfiemhfpcggaa
open Go.Gw Go.RowKit
theorem list_to {w : World} {base : Nat} {e : TypeId} {v : Value} {a b c : Int} {g0 g1 g2 : Nat} (_h0 : g0 ≤ a.toNat) (_h1 : g1 ≤ b.toNat) (h2 : g2 ≤ c.toNat) (_e0 : a.toNat ≤ g0) (_e1 : b.toNat ≤ g1) (e2 : c.toNat ≤ g2)
    (h : Own w base e 2 stc v (run 0 a.toNat ++ run 1 b.toNat ++ run 2 g2)) : Own w base e 2 stc v (run 0 a.toNat ++ run 1 b.toNat ++ run 2 c.toNat) := by
  obtain rfl : g2 = c.toNat := by omega
  exact h
/-- The search finds the position. -/
theorem idx_run (k h : Int) (kk : Int) (n : Nat) (i : Nat) (hk : (run kk n)[i]? = some (k, h)) : kk = k ∧ h = (i : Int) + 1 ∧ i < n := by
  rw [run_get] at hk
  split at hk
  · rename_i hi; simp at hk; omega
  · cases hk
theorem statesL_get {u : U} (hs : soundB u = true) (i : Nat) : (statesL u)[i]? = if (i : Int) < capOff u then some (0, (i : Int) + 1) else if (i : Int) < capOff u + u.st then some (1, (i : Int) - capOff u + 1) else if (i : Int) < capOff u + u.st + capOn u then some (2, (i : Int) - capOff u - u.st + 1) else none := by
  have h1 := cap_bd hs; have h2 := sound_spec hs
  unfold statesL
  by_cases c1 : (i : Int) < capOff u
  · rw [if_pos c1, List.append_assoc, List.getElem?_append_left (by simp; omega), run_get, if_pos (by omega)]
  · rw [if_neg c1, List.append_assoc, List.getElem?_append_right (by simp; omega)]
    simp only [run_length]
    by_cases c2 : (i : Int) < capOff u + u.st
    · rw [if_pos c2, List.getElem?_append_left (by simp; omega), run_get, if_pos (by omega)]
      congr 2; omega
    · rw [if_neg c2, List.getElem?_append_right (by simp; omega)]
      simp only [run_length]
      rw [run_get]
      by_cases c3 : (i : Int) < capOff u + u.st + capOn u
      · rw [if_pos c3, if_pos (by omega)]; congr 2; omega
      · rw [if_neg c3, if_neg (by omega)]
theorem posF_s {u : U} (hs : soundB u = true) (k h : Int) : posF u k h = if h < 1 then -1
  else if k = 0 ∧ h ≤ capOff u then h - 1
  else if k = 1 ∧ h ≤ u.st then capOff u + h - 1
  else if k = 2 ∧ h ≤ capOn u then capOff u + u.st + h - 1
  else -1 := by simp [posF, hs]
theorem pos_iff {u : U} (hs : soundB u = true) (i : Nat) (k h : Int) : (statesL u)[i]? = some (k, h) ↔ posF u k h = (i : Int) := by
  have h1 := cap_bd hs; have h2 := sound_spec hs
  rw [statesL_get hs, posF_s hs]
  by_cases c1 : (i : Int) < capOff u
  · rw [if_pos c1]
    simp only [Option.some.injEq, Prod.mk.injEq]
    repeat' split
    all_goals omega
  · rw [if_neg c1]
    by_cases c2 : (i : Int) < capOff u + u.st
    · rw [if_pos c2]
      simp only [Option.some.injEq, Prod.mk.injEq]
      repeat' split
      all_goals omega
    · rw [if_neg c2]
      by_cases c3 : (i : Int) < capOff u + u.st + capOn u
      · rw [if_pos c3]
        simp only [Option.some.injEq, Prod.mk.injEq]
        repeat' split
        all_goals omega
      · rw [if_neg c3]
        simp only [reduceCtorEq, false_iff]
        repeat' split
        all_goals omega
theorem posF_ge (u : U) (k h : Int) : -1 ≤ posF u k h := by
  cases hs : soundB u
  · simp [posF, hs]
  · have h1 := cap_bd hs; have h2 := sound_spec hs
    rw [posF_s hs]
    repeat' split
    all_goals omega
theorem idx_pos (u : U) (k h : Int) : idxF (fun s : St => decide (s.1 = k ∧ s.2 = h)) (statesF u) = posF u k h := by
  have hge := posF_ge u k h
  cases hs : soundB u
  · simp [statesF, hs, posF, idxF]
  · have hF : statesF u = statesL u := by simp [statesF, hs]
    rw [hF]
    by_cases hp : 0 ≤ posF u k h
    · have hval : (statesL u)[(posF u k h).toNat]? = some (k, h) := (pos_iff hs _ _ _).2 (by omega)
      have hb : ∀ j (x : St), j < (posF u k h).toNat → (statesL u)[j]? = some x → decide (x.1 = k ∧ x.2 = h) = false := by
        rintro j ⟨x1, x2⟩ hj hx
        have := (pos_iff hs _ _ _).1 hx
        rw [decide_eq_false_iff_not]
        rintro ⟨rfl, rfl⟩
        simp only at hj
        omega
      rw [idxF_hit (p := fun s : St => decide (s.1 = k ∧ s.2 = h)) hb hval (by simp)]
      omega
    · rw [show posF u k h = -1 from by omega]
      refine idxF_miss (p := fun s : St => decide (s.1 = k ∧ s.2 = h)) (g := (statesL u).length) ?_ (Nat.le_refl _)
      rintro j ⟨x1, x2⟩ _ hx
      have := (pos_iff hs _ _ _).1 hx
      rw [decide_eq_false_iff_not]
      rintro ⟨rfl, rfl⟩
      simp only at hp
      omega
theorem same_step {la lb : List St} {g : Nat} {a b : St} (hb : ∀ j, j < g → la[j]? = lb[j]?) (h1 : la[g]? = some a) (h2 : lb[g]? = some b) (he : a.1 = b.1 ∧ a.2 = b.2) : ∀ j, j < g + 1 → la[j]? = lb[j]? := by
  intro j hj
  by_cases h : j = g
  · subst h; rw [h1, h2]; obtain ⟨a1, a2⟩ := a; obtain ⟨b1, b2⟩ := b; simp only at he; rw [he.1, he.2]
  · exact hb j (by omega)
theorem same_all {la lb : List St} {g : Nat} (hb : ∀ j, j < g → la[j]? = lb[j]?) (hl : la.length = lb.length) (hg : la.length ≤ g) : la = lb := by
  apply List.ext_getElem?
  intro j
  by_cases h : j < g
  · exact hb j h
  · rw [List.getElem?_eq_none (by omega), List.getElem?_eq_none (by omega)]
end Go.Proofs.Ytedfiemhfpcggaa
