/- Plain lemmas for the laws. -/
import Derived.Test.YtedfiemhfpcggaaData4
namespace Go.Proofs.Ytedfiemhfpcggaa
open Go.Gw Go.RowKit
theorem walk_ex1 {v : Value} {w' : World} (h : WalkPost exU [] [1, 2, 2, 0] v w') : ∃ vs, v = .tuple #[vs, .int .i64 4, .int .i64 0] := by
  rcases h with ⟨g, p, hg, _, hn, _⟩ | ⟨p, vs, _, hv, _⟩
  · exfalso
    have key : ∀ g, g < 4 → (runTo exU [] [1, 2, 2, 0] (g + 1)).isSome = true := by
      intro g hg
      match g, hg with
      | 0, _ => decide
      | 1, _ => decide
      | 2, _ => decide
      | 3, _ => decide
    have := key g hg
    rw [hn] at this
    cases this
  · exact ⟨vs, hv⟩
theorem walk_ex2 {v : Value} {w' : World} (h : WalkPost exU [] [2] v w') : v = .tuple #[.slice none 0 0, .int .i64 0, .int .i64 16] := by
  rcases h with ⟨g, p, hg, _, _, hv⟩ | ⟨p, vs, hr, _, _⟩
  · obtain rfl : g = 0 := by simp at hg; exact hg
    exact hv
  · exfalso
    have : (runTo exU [] [2] 1).isSome = false := by decide
    have h2 : runTo exU [] [2] 1 = some p := hr
    rw [h2] at this
    cases this
theorem slr_one {w : World} {v : Value} {l : List Int} (h : SlR w 1 ic v l) : v.oneCell' = true := by
  obtain ⟨a, c, rfl⟩ := h.form
  rfl
theorem near_ok {u : U} (hok : u.ok) {w : World} {av : Value} {l : List Int} (h : SlR w 1 ic av l) : (nearU u av).ok := by
  obtain ⟨ok1, ok2, ok3, ok4, ok5, ok6, ok7, ok8, ok9, ok10, ok11, ok12, _, ok14⟩ := hok
  exact ⟨ok1, ok2, ok3, ok4, ok5, ok6, ok7, ok8, ok9, ok10, ok11, ok12, slr_one h, ok14⟩
theorem near_len (aw : List Int) : (nearA aw).length ≤ 40 := by
  unfold nearA
  rw [List.length_map, List.length_take]
  omega
theorem pos_at {u : U} {g : Nat} {a : St} (h : (statesF u)[g]? = some a) : posF u a.1 a.2 = (g : Int) := by
  cases hs : soundB u
  · simp [statesF, hs] at h
  · have hF : statesF u = statesL u := by simp [statesF, hs]
    rw [hF] at h
    exact (pos_iff hs g a.1 a.2).1 h
theorem states_bd {u : U} {g : Nat} {a : St} (h : (statesF u)[g]? = some a) : 1 ≤ a.2 ∧ a.2 ≤ 100 := by
  have hp := pos_at h
  have := posF_in (u := u) (k := a.1) (h := a.2) (by omega)
  have h1 := cap_bd this.1; have h2 := sound_spec this.1
  omega
end Go.Proofs.Ytedfiemhfpcggaa
