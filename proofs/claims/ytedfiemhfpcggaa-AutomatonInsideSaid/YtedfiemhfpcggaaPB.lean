/- States, Position, Next. -/
import Derived.Test.YtedfiemhfpcggaaVb
import Derived.Test.YtedfiemhfpcggaaPA
namespace Go.Proofs.Ytedfiemhfpcggaa
open Go.Vc Go.Gw
theorem run_app (k : Int) (i : Int) (h : 0 ≤ i) : run k i.toNat ++ [(k, i + 1)] = run k (i + 1).toNat := by
  rw [show (i + 1).toNat = i.toNat + 1 from by omega, run_succ]
  congr 3; omega
theorem vc17_ok (x : dens s17.args) (_ : awf s17.args x) (_ : s17.pre x) : vc17 x := by
  obtain ⟨u, hu, h10, h11, h12, h13, h14, h15, h19, h20⟩ := split_u x.1
  simp only [vc17, hu, h10, h11, h12, h13, h14, h15, h19, h20]
  refine ⟨trivial, fun r _ hr => ⟨fun h => ?_, fun h => ⟨trivial, ?_⟩⟩⟩
  · simp_all [statesF]
  rintro ⟨off, on, _⟩ _ ⟨ho, hn⟩
  have hs : soundB u = true := by rw [← hr]; simpa using h
  have hb := cap_bd hs
  have hu' := sound_spec hs
  rw [if_pos hs] at ho hn
  simp only at ho hn ⊢
  subst ho hn
  rw [wr (a := capOff u + u.st) (by omega) (by omega), wr (a := capOff u + u.st + capOn u) (by omega) (by omega)]
  refine ⟨⟨by omega, by omega, by show (16 : Int) * _ ≤ _; omega, by omega⟩, fun p => 0 ≤ p.2.1 ∧ p.2.1 ≤ capOff u ∧ p.1 = run 0 p.2.1.toNat, fun p => (capOff u - p.2.1).toNat, ⟨by simp, by simp; omega, rfl⟩, ?_⟩
  rintro ⟨l, i, _⟩ _ ⟨h0, h1, h2⟩
  simp only [decide_eq_true_eq, decide_eq_false_iff_not] at h0 h1 h2 ⊢
  subst h2
  constructor
  · intro hlt
    rw [wr (a := i + 1) (by omega) (by omega), run_app 0 i h0]
    simp only [run_length, List.length_singleton]
    exact ⟨⟨by show _ * 16 ≤ _; omega, by omega⟩, ⟨by omega, by omega, by trivial⟩, by omega⟩
  intro hge
  have : i = capOff u := by omega
  subst this
  refine ⟨fun p => 0 ≤ p.2.1 ∧ p.2.1 ≤ u.st ∧ p.1 = run 0 (capOff u).toNat ++ run 1 p.2.1.toNat, fun p => (u.st - p.2.1).toNat, ⟨by simp, by simp; omega, by simp [run_zero]⟩, ?_⟩
  rintro ⟨l, i, _⟩ _ ⟨h0, h1, h2⟩
  simp only [decide_eq_true_eq, decide_eq_false_iff_not] at h0 h1 h2 ⊢
  subst h2
  constructor
  · intro hlt
    rw [wr (a := i + 1) (by omega) (by omega), List.append_assoc, run_app 1 i h0]
    simp only [run_length, List.length_append, List.length_singleton]
    exact ⟨⟨by show _ * 16 ≤ _; omega, by omega⟩, ⟨by omega, by omega, by trivial⟩, by omega⟩
  intro hge
  have : i = u.st := by omega
  subst this
  refine ⟨fun p => 0 ≤ p.2.1 ∧ p.2.1 ≤ capOn u ∧ p.1 = run 0 (capOff u).toNat ++ run 1 u.st.toNat ++ run 2 p.2.1.toNat, fun p => (capOn u - p.2.1).toNat, ⟨by simp, by simp; omega, by simp [run_zero]⟩, ?_⟩
  rintro ⟨l, i, _⟩ _ ⟨h0, h1, h2⟩
  simp only [decide_eq_true_eq, decide_eq_false_iff_not] at h0 h1 h2 ⊢
  subst h2
  constructor
  · intro hlt
    rw [wr (a := i + 1) (by omega) (by omega), List.append_assoc _ _ [_], run_app 2 i h0]
    simp only [run_length, List.length_append, List.length_singleton]
    exact ⟨⟨by show _ * 16 ≤ _; omega, by omega⟩, ⟨by omega, by omega, by trivial⟩, by omega⟩
  intro hge
  have : i = capOn u := by omega
  subst this
  simp [statesF, hs, statesL]
theorem run_app' (k : Int) (i : Int) (h : 1 ≤ i) : run k (i - 1).toNat ++ [(k, i)] = run k (i + 1 - 1).toNat := by
  rw [show i + 1 - 1 = i - 1 + 1 from by omega, ← run_app k (i - 1) (by omega), show i - 1 + 1 = i from by omega]
theorem vc18_ok (x : dens s18.args) (_ : awf s18.args x) (_ : s18.pre x) : vc18 x := by
  obtain ⟨u, hu, h10, h11, h12, h13, h14, h15, h19, h20⟩ := split_u x.1
  simp only [vc18, hu, h10, h11, h12, h13, h14, h15, h19, h20]
  refine ⟨trivial, ?_⟩
  rintro ⟨off, on, _⟩ _ ⟨ho, hn⟩
  refine ⟨trivial, fun r _ hr => ⟨fun h => ?_, fun h => ?_⟩⟩
  · simp_all [statesF]
  have hs : soundB u = true := by rw [← hr]; simpa using h
  have hb := cap_bd hs
  have hu' := sound_spec hs
  rw [if_pos hs] at ho hn
  simp only at ho hn ⊢
  subst ho hn
  refine ⟨fun p => 1 ≤ p.2.1 ∧ p.2.1 ≤ capOff u + 1 ∧ p.1 = run 0 (p.2.1 - 1).toNat, fun p => (capOff u + 1 - p.2.1).toNat, ⟨by simp, by simp; omega, rfl⟩, ?_⟩
  rintro ⟨l, i, _⟩ _ ⟨h0, h1, h2⟩
  simp only [decide_eq_true_eq, decide_eq_false_iff_not] at h0 h1 h2 ⊢
  subst h2
  constructor
  · intro hlt
    rw [wr (a := i + 1) (by omega) (by omega), run_app' 0 i h0]
    simp only [run_length, List.length_singleton]
    exact ⟨⟨by show _ * 16 ≤ _; omega, by omega⟩, ⟨by omega, by omega, by trivial⟩, by omega⟩
  intro hge
  have : i = capOff u + 1 := by omega
  subst this
  refine ⟨fun p => 1 ≤ p.2.1 ∧ p.2.1 ≤ u.st + 1 ∧ p.1 = run 0 (capOff u).toNat ++ run 1 (p.2.1 - 1).toNat, fun p => (u.st + 1 - p.2.1).toNat, ⟨by simp, by simp; omega, by simp [run_zero]⟩, ?_⟩
  rintro ⟨l, i, _⟩ _ ⟨h0, h1, h2⟩
  simp only [decide_eq_true_eq, decide_eq_false_iff_not] at h0 h1 h2 ⊢
  subst h2
  constructor
  · intro hlt
    rw [wr (a := i + 1) (by omega) (by omega), List.append_assoc, run_app' 1 i h0]
    simp only [run_length, List.length_append, List.length_singleton]
    exact ⟨⟨by show _ * 16 ≤ _; omega, by omega⟩, ⟨by omega, by omega, by trivial⟩, by omega⟩
  intro hge
  have : i = u.st + 1 := by omega
  subst this
  refine ⟨fun p => 1 ≤ p.2.1 ∧ p.2.1 ≤ capOn u + 1 ∧ p.1 = run 0 (capOff u).toNat ++ run 1 u.st.toNat ++ run 2 (p.2.1 - 1).toNat, fun p => (capOn u + 1 - p.2.1).toNat, ⟨by simp, by simp; omega, by simp [run_zero]⟩, ?_⟩
  rintro ⟨l, i, _⟩ _ ⟨h0, h1, h2⟩
  simp only [decide_eq_true_eq, decide_eq_false_iff_not] at h0 h1 h2 ⊢
  subst h2
  constructor
  · intro hlt
    rw [wr (a := i + 1) (by omega) (by omega), List.append_assoc _ _ [_], run_app' 2 i h0]
    simp only [run_length, List.length_append, List.length_singleton]
    exact ⟨⟨by show _ * 16 ≤ _; omega, by omega⟩, ⟨by omega, by omega, by trivial⟩, by omega⟩
  intro hge
  have : i = capOn u + 1 := by omega
  subst this
  simp [statesF, hs, statesL]
theorem vc19_ok (x : dens s19.args) (hw : awf s19.args x) (_ : s19.pre x) : vc19 x := by
  obtain ⟨u, hu, h10, h11, h12, h13, h14, h15, h19, h20⟩ := split_u x.1
  simp only [vc19, hu, h10, h11, h12, h13, h14, h15, h19, h20]
  obtain ⟨_, ⟨k, h⟩, _⟩ := x
  change Int at k h
  refine ⟨trivial, fun r _ hr => ⟨fun hc => ?_, fun hc => ⟨trivial, ?_⟩⟩⟩
  · simp [sel_or] at hc; unfold posF; simp_all
  rintro ⟨off, on, _⟩ _ ⟨ho, hn⟩
  simp [sel_or] at hc
  have hs : soundB u = true := by rw [← hr]; exact hc.1
  have hb := cap_bd hs
  have hu' := sound_spec hs
  rw [if_pos hs] at ho hn
  simp only [sel_and] at ho hn ⊢
  subst ho hn
  have hp : posF u k h = if k = 0 ∧ h ≤ capOff u then h - 1 else if k = 1 ∧ h ≤ u.st then capOff u + h - 1 else if k = 2 ∧ h ≤ capOn u then capOff u + u.st + h - 1 else -1 := by unfold posF; rw [if_neg (by simp [hs]; omega)]
  rw [hp]
  refine ⟨fun h0 => ?_, fun h0 => ⟨fun h1 => ?_, fun h1 => ⟨fun h2 => ?_, fun h2 => ?_⟩⟩⟩
  · simp at h0; rw [if_pos h0, wr (by omega) (by omega)]
  · simp at h0 h1; rw [if_neg (by omega), if_pos h1, wr (a := capOff u + h) (by omega) (by omega), wr (by omega) (by omega)]
  · simp at h0 h1 h2; rw [if_neg (by omega), if_neg (by omega), if_pos h2, wr (a := capOff u + u.st) (by omega) (by omega), wr (a := capOff u + u.st + h) (by omega) (by omega), wr (by omega) (by omega)]
  · simp at h0 h1 h2; rw [if_neg (by omega), if_neg (by omega), if_neg (by omega)]
theorem vc20_ok (x : dens s20.args) (_ : awf s20.args x) (_ : s20.pre x) : vc20 x := by
  obtain ⟨u, hu, h10, h11, h12, h13, h14, h15, h19, h20⟩ := split_u x.1
  simp only [vc20, hu]
  obtain ⟨_, ⟨k, h⟩, _⟩ := x
  change Int at k h
  refine ⟨trivial, ?_⟩
  rintro ⟨l, _⟩ ⟨⟨hl, _⟩, _⟩ hr
  simp only at hr hl ⊢
  subst hr
  refine ⟨fun p => 0 ≤ p.1 ∧ p.1 ≤ (statesF u).length ∧ ∀ j y, j < p.1.toNat → (statesF u)[j]? = some y → decide (y.1 = k ∧ y.2 = h) = false, fun p => (statesF u).length - p.1.toNat, ⟨by simp, by simp, fun j y hj => by simp at hj⟩, ?_⟩
  rintro ⟨i, _⟩ _ ⟨h0, h1, h2⟩
  simp only [decide_eq_true_eq, decide_eq_false_iff_not] at h0 h1 ⊢
  have hpos := idx_pos u k h
  constructor
  · intro hlt
    have hg := gx_get (d := ((0 : Int), (0 : Int))) h0 hlt
    refine ⟨⟨h0, hlt⟩, fun he => ?_, fun he => ?_⟩
    · have he := (eqB_iff rfl).1 he
      rw [he] at hg
      have := idxF_hit (p := fun s : St => decide (s.1 = k ∧ s.2 = h)) h2 hg (by simp)
      rw [hpos] at this
      simp only at this; omega
    · rw [wr (by omega) (by omega)]
      refine ⟨⟨by omega, by omega, ?_⟩, by omega⟩
      rw [show (i + 1).toNat = i.toNat + 1 from by omega]
      refine fun j y hj hy => of_decide_eq_false (bef_step h2 hg (decide_eq_false fun hh => ?_) j y hj hy)
      have : eqB ((Ty.int IntKind.i64).pair (Ty.int IntKind.i64)) (gx ((0 : Int), (0 : Int)) (statesF u) i) (k, h) = true := (eqB_iff rfl).2 (Prod.ext hh.1 hh.2)
      rw [this] at he; cases he
  · intro hge
    have := idxF_miss (p := fun s : St => decide (s.1 = k ∧ s.2 = h)) h2 (by omega)
    rw [hpos] at this
    exact this.symm
theorem vc31_ok (x : dens s31.args) (_ : awf s31.args x) (_ : s31.pre x) : vc31 x := by
  refine ⟨trivial, fun r _ hr => ?_⟩
  rw [hr]; rfl
theorem vc21_ok (x : dens s21.args) (hw : awf s21.args x) (_ : s21.pre x) : vc21 x := by
  obtain ⟨u, hu, h10, h11, h12, h13, h14, h15, h19, h20⟩ := split_u x.1
  simp only [vc21, hu, h10, h11, h12, h13, h14, h15, h19, h20]
  obtain ⟨_, ⟨k, h⟩, _⟩ := x
  change Int at k h
  refine ⟨trivial, fun r _ hr => ⟨fun hc => ?_, fun hc => ⟨trivial, ?_⟩⟩⟩
  · simp at hc; unfold nextF; rw [← hr, if_pos hc]
  rintro ⟨off, on, _⟩ _ ⟨ho, hn⟩
  simp at hc
  rw [hr] at hc
  dsimp only at hc
  obtain ⟨hs, hh1, hcase⟩ := posF_in hc
  have hb := cap_bd hs
  have hu' := sound_spec hs
  rw [if_pos hs] at ho hn
  simp only [sel_and] at ho hn ⊢
  subst ho hn
  rw [wr (a := h + 1) (by omega) (by omega)]
  have hN : nextF u k h = if k = 0 then (0, min (h + 1) (capOff u)) :: (if u.dn ≤ h then [if 0 < u.st then (1, 1) else (2, 1)] else [])
      else if k = 1 then [if h < u.st then (1, h + 1) else (2, 1)] else (if u.up ≤ h then [(0, 1)] else []) ++ [(2, min (h + 1) (capOn u))] := by
    unfold nextF; rw [if_neg (by omega)]
  refine ⟨fun p => p.1 = nextF u k h, ⟨fun h0 => ⟨⟨by simp, by simp⟩, fun h1 => ⟨⟨by simp, by simp⟩, ?_⟩, fun h1 => ⟨fun h2 => ⟨⟨by simp, by simp⟩, ?_⟩, fun h2 => ?_⟩⟩, fun h0 => ⟨fun h1 => ⟨fun h2 => ⟨⟨by simp, by simp⟩, ?_⟩, fun h2 => ⟨⟨by simp, by simp⟩, ?_⟩⟩, fun h1 => ⟨fun h2 => ?_, fun h2 => ?_⟩⟩⟩, fun p _ hp => hp⟩
  · simp at h0 h1; show _ = nextF u k h; rw [hN]; simp [h0, h1]
  · simp at h0 h1 h2; show _ = nextF u k h; rw [hN]; simp [h0, h2, show ¬ 0 < u.st by omega]
  · simp at h0 h1 h2; show _ = nextF u k h; rw [hN]; simp [h0, show ¬ u.dn ≤ h by omega]
  · simp at h0 h1 h2; show _ = nextF u k h; rw [hN]; simp [h1, h2]
  · simp at h0 h1 h2; show _ = nextF u k h; rw [hN]; simp [h1, show ¬ h < u.st by omega]
  · refine ⟨fun p => p.1 = if u.up ≤ h then [(0, 1)] else [], ⟨fun h3 => ⟨⟨by simp, by simp⟩, ?_⟩, fun h3 => ?_⟩, fun p _ hp => ?_⟩
    · simp at h3; simp [h3]
    · simp at h3; simp [show ¬ u.up ≤ h by omega]
    · simp at h0 h1 h2
      have hl : p.1.length ≤ 1 := by rw [hp]; split <;> simp
      simp only [List.length_singleton]
      refine ⟨⟨by show _ * 16 ≤ _; omega, by omega⟩, ?_⟩
      show _ = nextF u k h; rw [hN]; simp [h2, hp]
  · simp at h0 h1 h2; omega
theorem vc22_ok (x : dens s22.args) (hw : awf s22.args x) (_ : s22.pre x) : vc22 x := by
  obtain ⟨u, hu, h10, h11, h12, h13, h14, h15, h19, h20⟩ := split_u x.1
  simp only [vc22, hu, h10, h11, h12, h13, h14, h15, h19, h20]
  obtain ⟨_, ⟨k, h⟩, _⟩ := x
  change Int at k h
  refine ⟨trivial, fun r _ hr => ⟨fun hc => ?_, fun hc => ⟨trivial, ?_⟩⟩⟩
  · simp [hr, isB] at hc; unfold nextF; rw [if_pos hc]
  rintro ⟨off, on, _⟩ _ ⟨ho, hn⟩
  simp [hr, isB] at hc
  obtain ⟨hs, hh1, hcase⟩ := posF_in hc
  have hb := cap_bd hs
  have hu' := sound_spec hs
  rw [if_pos hs] at ho hn
  simp only at ho hn ⊢
  subst ho hn
  rw [wr (a := h + 1) (by omega) (by omega)]
  have hN : nextF u k h = if k = 0 then (0, min (h + 1) (capOff u)) :: (if u.dn ≤ h then [if 0 < u.st then (1, 1) else (2, 1)] else [])
      else if k = 1 then [if h < u.st then (1, h + 1) else (2, 1)] else (if u.up ≤ h then [(0, 1)] else []) ++ [(2, min (h + 1) (capOn u))] := by
    unfold nextF; rw [if_neg (by omega)]
  refine ⟨fun h0 => ⟨fun h1 => ?_, fun h1 => ⟨fun h2 => ⟨⟨by simp, by simp⟩, ?_⟩, fun h2 => ⟨⟨by simp, by simp⟩, ?_⟩⟩⟩, fun h0 => ⟨fun h1 => ⟨fun h2 => ?_, fun h2 => ?_⟩, fun h1 => ⟨fun h2 => ?_, fun h2 => ?_⟩⟩⟩
  · simp at h0 h1; show _ = nextF u k h; rw [hN]; simp [h0, show ¬ u.dn ≤ h by omega]
  · simp at h0 h1 h2; show _ = nextF u k h; rw [hN]; simp [h0, h1, h2]
  · simp at h0 h1 h2; show _ = nextF u k h; rw [hN]; simp [h0, h1, show ¬ 0 < u.st by omega]
  · simp at h0 h1 h2; show _ = nextF u k h; rw [hN]; simp [h1, h2]
  · simp at h0 h1 h2; show _ = nextF u k h; rw [hN]; simp [h1, show ¬ h < u.st by omega]
  · simp at h0 h1 h2; show _ = nextF u k h; rw [hN]; simp [h0, h1, h2]
  · simp at h0 h1 h2; show _ = nextF u k h; rw [hN]; simp [h0, h1, show ¬ u.up ≤ h by omega]
end Go.Proofs.Ytedfiemhfpcggaa
