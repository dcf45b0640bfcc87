/- The law of what lies inside. -/
import Derived.Test.YtedfiemhfpcggaaPE
namespace Go.Proofs.Ytedfiemhfpcggaa
open Go.Vc Go.Gw
theorem u64_nonneg (n : Int) : (0 : Int) ≤ IntKind.u64.wrap n := by
  simp only [IntKind.wrap, IntKind.signed, IntKind.bits, Bool.false_eq_true, if_false, Bool.false_and]
  omega
theorem vc7_ok (x : dens s7.args) (_ : awf s7.args x) (_ : s7.pre x) : vc7 x := by
  simp only [vc7]
  obtain ⟨xu, raw, mask, _⟩ := x
  change List Int at raw
  change Int at mask
  dsimp only
  refine ⟨fun _ => trivial, fun hc => ⟨trivial, ?_⟩⟩
  simp only [sel_or, Bool.or_eq_false_iff, decide_eq_false_iff_not] at hc
  obtain ⟨⟨_, hc1⟩, hc2⟩ := hc
  rintro ⟨ru, _⟩ _
  dsimp only
  generalize toU ru = u
  generalize awOf ru = aw
  rintro ⟨hs, hal⟩
  refine ⟨⟨hs, by omega, by omega⟩, ?_⟩
  rintro ⟨ks, _⟩ _ ⟨hkl, hrun⟩
  dsimp only at hkl hrun ⊢
  change List Int at ks
  obtain ⟨P, hP⟩ := Option.isSome_iff_exists.1 hrun
  have hPl := run_len hP
  refine ⟨fun _ => ⟨trivial, fun r _ hr => hr⟩, fun hk0 => ⟨by omega, ?_⟩⟩
  rintro ⟨l, n, e, _⟩ _ hwk
  dsimp only at hwk ⊢
  obtain ⟨e1, e2, e3⟩ := (hwk hs).1 P hP
  subst e1 e2 e3
  refine ⟨trivial, fun rc _ hrc => ⟨fun _ => trivial, fun r4 h4 => ?_⟩⟩
  obtain ⟨hrl, hra⟩ := hrc hs (by omega) (by omega)
  have key : ∀ i : Int, 0 ≤ i → i < ks.length → ∃ t, P.1[i.toNat]? = some t ∧ t ∈ reachF u aw (i.toNat + 1) ∧ ks[i.toNat]? = some t.1 := by
    intro i i0 hlt
    obtain ⟨p, hp⟩ := Option.isSome_iff_exists.1 (run_some hrun (i.toNat + 1) (by omega))
    have hat := run_at hP (by omega : i.toNat < ks.length) hp
    have hre := run_reach hp
    obtain ⟨p', k', t, hp', hk', hst, rfl⟩ := run_prev hp
    obtain ⟨hm, htk, ha⟩ := step_mem hst
    exact ⟨t, hat, hre, by rw [hk', htk]⟩
  have comp : ∀ fx : List Int, fx.length = ks.length → (∀ (h : Nat) k, ks[h]? = some k → fx.getD h 0 = -1 ∨ fx.getD h 0 = k) → ∀ h, h < fx.length → compF u aw fx (h + 1) ≠ [] := by
    intro fx h2 h1 h hh hn
    obtain ⟨p, hp⟩ := Option.isSome_iff_exists.1 (run_some hrun (h + 1) (by omega))
    have := run_comp h1 hp
    rw [hn] at this; cases this
  have self : ∀ (h : Nat) k, ks[h]? = some k → ks.getD h 0 = -1 ∨ ks.getD h 0 = k := fun h k hk => .inr (by rw [List.getD_eq_getElem?_getD, hk]; rfl)
  have hnb : sel (sel (sel (decide ((0 : Int) ≠ 0)) true (decide ((ks.length : Int) ≠ ks.length))) true (decide ((P.1.length : Int) ≠ ks.length))) true (decide ((rc.1.length : Int) ≠ raw.length)) = false := by
    simp [sel_or, hPl, hrl]
  have h4 := (h4 hnb).2
  refine ⟨fun hbad => ?_, fun _ => ?_⟩
  · rw [hnb, h4] at hbad; cases hbad
  refine ⟨fun p => 0 ≤ p.1 ∧ p.1 ≤ ks.length, fun p => ks.length - p.1.toNat, ⟨by simp, by simp⟩, ?_⟩
  rintro ⟨i, _⟩ _ ⟨i0, i1⟩
  dsimp only at i0 i1 ⊢
  refine ⟨fun hlt => ?_, fun hge => ?_⟩
  · have hlt := of_decide_eq_true hlt
    obtain ⟨t, ht1, ht2, ht3⟩ := key i i0 hlt
    have hg1 : gx ((0 : Int), (0 : Int)) P.1 i = t := by unfold gx; rw [List.getD_eq_getElem?_getD, ht1]; rfl
    have hg2 : gx [] rc.1 i = reachF u aw (i.toNat + 1) := by unfold gx; rw [List.getD_eq_getElem?_getD, hra _ (by omega)]; rfl
    have hg3 : gx 0 ks i = t.1 := by unfold gx; rw [List.getD_eq_getElem?_getD, ht3]; rfl
    rw [hg1, hg2, hg3]
    have hR : (reachF u aw (i.toNat + 1)).length ≤ 100 := oneMore_len _ _ _ _
    generalize reachF u aw (i.toNat + 1) = R at ht2 hR
    refine ⟨fun p => 0 ≤ p.2.1 ∧ p.2.1 ≤ R.length ∧ p.1 = (R.take p.2.1.toNat).any (fun s => decide (s = t)), fun p => R.length - p.2.1.toNat, ⟨by simp, by simp, by simp⟩, ?_⟩
    rintro ⟨b, j, _⟩ _ ⟨j0, j1, j2⟩
    dsimp only at j0 j1 j2 ⊢
    refine ⟨⟨i0, by omega⟩, fun hl2 => ?_, fun hge2 => ⟨fun _ => ⟨i0, by omega⟩, fun _ => ⟨i0, hlt⟩, fun hbad => ?_, fun _ => ?_⟩⟩
    · have hl2 := of_decide_eq_true hl2
      have hy := gx_get (d := ((0 : Int), (0 : Int))) j0 hl2
      rw [wr (by omega) (by omega)]
      refine ⟨fun _ => ⟨i0, by omega⟩, fun _ => ⟨j0, hl2⟩, fun _ => ⟨i0, by omega⟩, ⟨by omega, by omega, ?_⟩, by omega⟩
      rw [show (j + 1).toNat = j.toNat + 1 from by omega, any_take hy, sel_or, eqS, j2]
    · have hge2 := of_decide_eq_false hge2
      rw [List.take_of_length_le (by omega)] at j2
      have : b = true := by rw [j2]; exact List.any_eq_true.2 ⟨t, ht2, decide_eq_true rfl⟩
      rw [this] at hbad
      simp [sel] at hbad
    · rw [wr (by omega) (by omega)]
      exact ⟨⟨by omega, by omega⟩, by omega⟩
  · refine ⟨⟨by omega, by omega⟩, fun p => 0 ≤ p.1 ∧ p.1 ≤ ks.length ∧ p.2.1.length = ks.length ∧ ∀ (h : Nat) k, ks[h]? = some k → p.2.1.getD h 0 = -1 ∨ p.2.1.getD h 0 = k, fun p => ks.length - p.1.toNat, ⟨by simp, by simp, rfl, self⟩, ?_⟩
    rintro ⟨i, fx, _⟩ _ ⟨j0, j1, j2, j3⟩
    dsimp only at j0 j1 j2 j3 ⊢
    refine ⟨fun hlt => ?_, fun hge => ⟨trivial, fun r5 _ h5 => ⟨fun _ => trivial, fun r6 h6 => ?_⟩⟩⟩
    · have hlt := of_decide_eq_true hlt
      refine ⟨fun q => q.1.length = ks.length ∧ ∀ (h : Nat) k, ks[h]? = some k → q.1.getD h 0 = -1 ∨ q.1.getD h 0 = k, ⟨u64_nonneg _, fun _ => ⟨⟨j0, by omega⟩, by simpa using j2, fun h k hk => ?_⟩, fun _ => ⟨j2, j3⟩⟩, fun q _ hq => ?_⟩
      · dsimp only
        by_cases hh : h = i.toNat
        · left
          rw [List.getD_eq_getElem?_getD, hh, List.getElem?_set_self (by omega)]; rfl
        · rw [List.getD_eq_getElem?_getD, List.getElem?_set_ne (fun e => hh e.symm), ← List.getD_eq_getElem?_getD]
          exact j3 h k hk
      · rw [wr (by omega) (by omega)]
        exact ⟨⟨by omega, by omega, hq.1, hq.2⟩, by omega⟩
    · have h5 := (h5 hs).trans (decide_eq_true (comp ks rfl self))
      have h6 := ((h6 h5).2 hs).trans (decide_eq_true (comp fx j2 j3))
      rw [h5, h6]; rfl
end Go.Proofs.Ytedfiemhfpcggaa
