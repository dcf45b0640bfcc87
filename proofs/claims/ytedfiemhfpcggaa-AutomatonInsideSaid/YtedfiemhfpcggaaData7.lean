/- Runs along kinds that are chosen hour by hour, and what a start costs on them. -/
import Derived.Test.YtedfiemhfpcggaaData6
namespace Go.Proofs.Ytedfiemhfpcggaa
open Go.Gw Go.RowKit
theorem run_more {u : U} {aw kinds : List Int} (k : Int) : ∀ {g : Nat}, g ≤ kinds.length → runTo u aw (kinds ++ [k]) g = runTo u aw kinds g
  | 0, _ => rfl
  | g + 1, h => by
    simp only [runTo]
    rw [run_more k (g := g) (by omega), List.getElem?_append_left (by omega)]
/-- The kinds of the successors differ. -/
theorem next_kind {u : U} {k h : Int} {s t : St} (hs : s ∈ nextF u k h) (ht : t ∈ nextF u k h) (e : s.1 = t.1) : s = t := by
  obtain ⟨s1, s2⟩ := s
  obtain ⟨t1, t2⟩ := t
  simp only at e
  subst e
  unfold nextF at hs ht
  (repeat' split at hs) <;> simp_all <;> omega
theorem step_of {u : U} {aw : List Int} {g : Int} {s t : St} (ht : t ∈ nextF u s.1 s.2) (ha : allowF aw g t.1 = true) : stepF u aw g s t.1 = some t := by
  have hal := of_decide_eq_true ha
  have hany : (nextF u s.1 s.2).any (fun x : St => decide (x.1 = t.1)) = true := List.any_eq_true.2 ⟨t, ht, by simp⟩
  have h0 := (idxF_nonneg (fun x : St => decide (x.1 = t.1)) (nextF u s.1 s.2)).2 hany
  unfold stepF
  rw [if_neg (fun hh => hh.elim (fun h => by omega) (fun h12 => hal.elim (fun h => h12.1 h) (fun h => h.2 h12.2)))]
  have hlt := idxF_lt h0
  obtain ⟨x, hx⟩ := el_some hlt
  rw [hx]
  have hst : stepF u aw g s t.1 = some x := by
    unfold stepF
    rw [if_neg (fun hh => hh.elim (fun h => by omega) (fun h12 => hal.elim (fun h => h12.1 h) (fun h => h.2 h12.2)))]
    exact hx
  obtain ⟨hm, hk, _⟩ := step_mem hst
  rw [next_kind hm ht hk]
theorem run_grow {u : U} {aw kinds : List Int} {p : List St × St} {t : St} (hr : runTo u aw kinds kinds.length = some p) (ht : t ∈ nextF u p.2.1 p.2.2) (ha : allowF aw (kinds.length : Int) t.1 = true) : runTo u aw (kinds ++ [t.1]) (kinds ++ [t.1]).length = some (p.1 ++ [t], t) := by
  rw [List.length_append]
  show runTo u aw (kinds ++ [t.1]) (kinds.length + 1) = _
  simp only [runTo]
  rw [run_more _ (Nat.le_refl _), hr, List.getElem?_append_right (Nat.le_refl _), Nat.sub_self]
  simp only [List.getElem?_cons_zero]
  rw [step_of ht ha]
/-- what lies in the walk's list at an hour is the state after that hour -/
theorem run_at {u : U} {aw kinds : List Int} {g : Nat} {q : List St × St} : ∀ {n : Nat} {p : List St × St}, runTo u aw kinds n = some p → g < n → runTo u aw kinds (g + 1) = some q → p.1[g]? = some q.2
  | 0, _, _, h, _ => by omega
  | n + 1, p, hp, h, hq => by
    obtain ⟨p', k, t, hp', _, _, rfl⟩ := run_prev hp
    have hl := run_len hp'
    by_cases hgn : g = n
    · subst hgn
      rw [hp] at hq
      cases hq
      rw [List.getElem?_append_right (by omega), hl, Nat.sub_self]
      rfl
    · rw [List.getElem?_append_left (by omega)]
      exact run_at hp' (by omega) hq
/-- what the start costs, told by the stretch -/
theorem cost_rel {u : U} (hs : soundB u = true) {aw : List Int} {g : Int} {s t : St} {k kind run : Int} (hr : Rel u s kind run) (hst : stepF u aw g s k = some t) :
    costF u s.1 s.2 t = if kind = 0 ∧ k ≠ 0 then (if run ≤ u.hh then u.hc else u.cc) else 0 := by
  obtain ⟨hm, htk, _⟩ := step_mem hst
  have h2 := cap_bd hs
  have hf : follF u s.1 s.2 t = true := List.any_eq_true.2 ⟨t, hm, by simp⟩
  unfold costF
  unfold Rel at hr
  rw [hf, htk, hr.1]
  by_cases hk : kind = 0 ∧ k ≠ 0
  · have := hr.2.2.2.1 hk.1
    rw [if_pos ⟨hk.1, hk.2, rfl⟩, if_pos hk]
    by_cases hh : run ≤ u.hh
    · rw [if_pos hh, if_pos (by omega)]
    · rw [if_neg hh, if_neg (by omega)]
  · rw [if_neg hk, if_neg (fun h => hk ⟨h.1, h.2.1⟩)]
end Go.Proofs.Ytedfiemhfpcggaa
