/- What a run along kinds that follow says of the hours of each stretch. -/
import Derived.Test.YtedfiemhfpcggaaData5
namespace Go.Proofs.Ytedfiemhfpcggaa
open Go.Gw Go.RowKit
theorem run_len {u : U} {aw kinds : List Int} : ∀ {g : Nat} {p : List St × St}, runTo u aw kinds g = some p → p.1.length = g
  | 0, p, h => by simp [runTo] at h; subst h; rfl
  | g + 1, p, h => by
    simp only [runTo] at h
    split at h
    · rename_i p' k hr hk
      split at h
      · rename_i t ht
        simp at h
        subst h
        have := run_len hr
        simp; omega
      · cases h
    · cases h
theorem run_prev {u : U} {aw kinds : List Int} {g : Nat} {p : List St × St} (h : runTo u aw kinds (g + 1) = some p) : ∃ p' k t, runTo u aw kinds g = some p' ∧ kinds[g]? = some k ∧ stepF u aw g p'.2 k = some t ∧ p = (p'.1 ++ [t], t) := by
  simp only [runTo] at h
  split at h
  · rename_i p' k hr hk
    split at h
    · rename_i t ht
      simp at h
      exact ⟨p', k, t, hr, hk, ht, h.symm⟩
    · cases h
  · cases h
theorem run_some {u : U} {aw kinds : List Int} {n : Nat} (h : (runTo u aw kinds n).isSome = true) : ∀ g, g ≤ n → (runTo u aw kinds g).isSome = true := by
  intro g hg
  obtain ⟨d, rfl⟩ : ∃ d, n = g + d := ⟨n - g, by omega⟩
  clear hg
  induction d with
  | zero => exact h
  | succ d ih =>
    apply ih
    obtain ⟨p, hp⟩ := Option.isSome_iff_exists.1 h
    obtain ⟨p', _, _, hr, _⟩ := run_prev hp
    have hr' : runTo u aw kinds (g + d) = some p' := hr
    rw [hr']; rfl
/-- The state s is that of a stretch of 'run' hours of one kind. -/
def Rel (u : U) (s : St) (kind run : Int) : Prop :=
  s.1 = kind ∧ 1 ≤ run ∧ (kind = 0 ∨ kind = 1 ∨ kind = 2) ∧ (kind = 0 → s.2 = min run (capOff u)) ∧ (kind = 1 → s.2 = run ∧ run ≤ u.st) ∧ (kind = 2 → s.2 = min run (capOn u))
def RelAt (u : U) (aw kinds : List Int) (g : Nat) (kind run : Int) : Prop := ∃ p, runTo u aw kinds g = some p ∧ Rel u p.2 kind run
theorem rel_init {u : U} (hs : soundB u = true) (aw kinds : List Int) : RelAt u aw kinds 0 u.state u.hours := by
  have h1 := sound_spec hs
  refine ⟨_, rfl, ?_⟩
  unfold Rel initF
  simp only [hs]
  by_cases h0 : u.state = 0
  · simp [h0]; omega
  · by_cases h2 : u.state = 2
    · simp [h2]; omega
    · simp [h0, h2]; omega
theorem step_mem {u : U} {aw : List Int} {g : Int} {s : St} {k : Int} {t : St} (h : stepF u aw g s k = some t) : t ∈ nextF u s.1 s.2 ∧ t.1 = k ∧ (k = 0 ∨ g ∉ aw) := by
  unfold stepF at h
  split at h
  · cases h
  · rename_i hn
    have h0 : 0 ≤ idxF (fun t : St => decide (t.1 = k)) (nextF u s.1 s.2) := by omega
    refine ⟨List.mem_of_getElem? h, ?_, ?_⟩
    · have hlt := el_lt h
      unfold idxF at h h0
      by_cases hl : (nextF u s.1 s.2).findIdx (fun t : St => decide (t.1 = k)) < (nextF u s.1 s.2).length
      · rw [if_pos hl] at h
        simp only [Int.toNat_natCast] at h
        rw [List.getElem?_eq_getElem hl] at h
        have := List.findIdx_getElem (w := hl)
        rw [Option.some.inj h] at this
        simpa using this
      · rw [if_neg hl] at h0; omega
    · by_cases hk : k = 0
      · exact .inl hk
      · exact .inr (fun hm => hn (.inr ⟨hk, hm⟩))
/-- One hour: what the stretch must have been, and what it is now. -/
theorem rel_step {u : U} (hs : soundB u = true) {aw : List Int} {g : Int} {s t : St} {k kind run : Int} (hr : Rel u s kind run) (hst : stepF u aw g s k = some t) :
    (k = kind → (kind = 1 → run + 1 ≤ u.st) ∧ Rel u t kind (run + 1)) ∧
    (k ≠ kind → (kind = 0 → u.dn ≤ run ∧ ¬ (k = 2 ∧ 0 < u.st) ∧ ¬ (k = 1 ∧ u.st = 0)) ∧ (kind = 1 → run = u.st ∧ k = 2) ∧ (kind = 2 → u.up ≤ run ∧ k = 0) ∧ Rel u t k 1) := by
  obtain ⟨hm, htk, _⟩ := step_mem hst
  have h1 := sound_spec hs; have h2 := cap_bd hs
  obtain ⟨s1, s2⟩ := s
  obtain ⟨t1, t2⟩ := t
  unfold Rel at *
  simp only at hr htk hm ⊢
  unfold nextF at hm
  by_cases hp : posF u s1 s2 < 0
  · rw [if_pos hp] at hm; cases hm
  · have h3 := posF_in (Int.not_lt.1 hp)
    rw [if_neg hp] at hm
    repeat' split at hm
    all_goals simp at hm
    all_goals first
      | (rcases hm with hm | hm <;> obtain ⟨rfl, rfl⟩ := hm <;> constructor <;> omega)
      | (obtain ⟨rfl, rfl⟩ := hm; constructor <;> omega)
theorem relAt_step {u : U} (hs : soundB u = true) {aw kinds : List Int} {g : Nat} {k kind run : Int} (hall : (runTo u aw kinds kinds.length).isSome = true) (hr : RelAt u aw kinds g kind run) (hk : kinds[g]? = some k) :
    ((k = kind → (kind = 1 → run + 1 ≤ u.st)) ∧ (k ≠ kind → (kind = 0 → u.dn ≤ run ∧ ¬ (k = 2 ∧ 0 < u.st) ∧ ¬ (k = 1 ∧ u.st = 0)) ∧ (kind = 1 → run = u.st ∧ k = 2) ∧ (kind = 2 → u.up ≤ run ∧ k = 0)) ∧ (kind = 0 ∨ kind = 1 ∨ kind = 2) ∧ 1 ≤ run) ∧
    (k = kind → RelAt u aw kinds (g + 1) kind (run + 1)) ∧ (k ≠ kind → RelAt u aw kinds (g + 1) k 1) := by
  obtain ⟨p, hp, hrel⟩ := hr
  have hlt := el_lt hk
  obtain ⟨q, hq⟩ := Option.isSome_iff_exists.1 (run_some hall (g + 1) (by omega))
  obtain ⟨p', k', t, hp', hk', hst, rfl⟩ := run_prev hq
  rw [hp] at hp'; cases hp'
  rw [hk] at hk'; cases hk'
  have hstep := rel_step hs hrel hst
  have h3 := hrel.2.2.1
  have h4 := hrel.2.1
  refine ⟨⟨fun e => (hstep.1 e).1, fun e => ⟨(hstep.2 e).1, (hstep.2 e).2.1, (hstep.2 e).2.2.1⟩, h3, h4⟩, fun e => ⟨_, hq, (hstep.1 e).2⟩, fun e => ⟨_, hq, (hstep.2 e).2.2.2⟩⟩
end Go.Proofs.Ytedfiemhfpcggaa
