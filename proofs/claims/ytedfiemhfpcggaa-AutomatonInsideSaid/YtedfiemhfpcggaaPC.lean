/- Searches by a function, costs, the hours away, walks. -/
import Derived.Test.YtedfiemhfpcggaaVc
import Derived.Test.YtedfiemhfpcggaaPB
namespace Go.Proofs.Ytedfiemhfpcggaa
open Go.Vc Go.Gw
theorem mfind_mput {α : Type} {t : Ty} (hp : plainT t = true) (k : t.den) (v : α) (h : t.den) : ∀ l : List (t.den × α), mfind t h (mput t k v l) = bif eqB t h k then some v else mfind t h l
  | [] => by simp [mput, mfind]
  | x :: l => by
    have ih := mfind_mput hp k v h l
    simp only [mput]
    cases hkx : eqB t k x.1 with
    | true =>
      have e := (eqB_iff hp).1 hkx
      simp only [cond_true, mfind]
      cases hhk : eqB t h k with
      | true => rfl
      | false =>
        have : eqB t h x.1 = false := by rw [← e]; exact hhk
        simp only [this, cond_false]
    | false =>
      simp only [cond_false, mfind, ih]
      cases hhx : eqB t h x.1 with
      | true =>
        have e := (eqB_iff hp).1 hhx
        have : eqB t h k = false := by
          cases hh : eqB t h k with
          | false => rfl
          | true =>
            have e2 := (eqB_iff hp).1 hh
            rw [← e2, e] at hkx
            have : eqB t x.1 x.1 = true := (eqB_iff hp).2 rfl
            rw [this] at hkx; cases hkx
        simp [this]
      | false => rfl
theorem eqB_int (a b : Int) : eqB (.int .i64) a b = decide (a = b) := rfl
theorem vc32_ok (x : dens s32.args) (_ : awf s32.args x) (_ : s32.pre x) : vc32 x := by
  simp only [vc32]
  have := eqB_iff (t := (Ty.int IntKind.i64).pair (Ty.int IntKind.i64)) (x := x.1) (y := x.2.1) rfl
  exact Bool.eq_iff_iff.2 (this.trans (decide_eq_true_iff).symm)
theorem vc37_ok (x : dens s37.args) (hw : awf s37.args x) (hpre : s37.pre x) : vc37 x := by
  obtain ⟨l, ⟨ok, φ⟩, _⟩ := x
  change List (Int × Int) at l
  have hpre : ∀ s ∈ l, ok (s, ()) := hpre
  obtain ⟨⟨hl, _⟩, _⟩ := hw
  replace hl : l.length ≤ 9223372036854775807 := hl
  refine ⟨fun p => 0 ≤ p.1 ∧ p.1 ≤ l.length ∧ ∀ j y, j < p.1.toNat → l[j]? = some y → φ (y, ()) = false, fun p => l.length - p.1.toNat, ⟨by simp, by simp, fun j y hj => by simp at hj⟩, ?_⟩
  rintro ⟨i, _⟩ _ ⟨h0, h1, h2⟩
  simp only [decide_eq_true_eq, decide_eq_false_iff_not] at h0 h1 ⊢
  constructor
  · intro hlt
    have hg := gx_get (d := ((0 : Int), (0 : Int))) h0 hlt
    refine ⟨⟨h0, hlt⟩, trivial, hpre _ (List.mem_of_getElem? hg), fun _ => ⟨fun he => ?_, fun he => ?_⟩⟩
    · have := idxF_hit (p := fun s => φ (s, ())) h2 hg he
      rw [this]; omega
    · rw [wr (by omega) (by omega)]
      refine ⟨⟨by omega, by omega, ?_⟩, by omega⟩
      rw [show (i + 1).toNat = i.toNat + 1 from by omega]
      exact bef_step (p := fun s => φ (s, ())) h2 hg he
  · intro hge
    exact (idxF_miss (p := fun s => φ (s, ())) h2 (by omega)).symm
theorem vc33_ok (x : dens s33.args) (_ : awf s33.args x) (hpre : s33.pre x) : vc33 x := by
  refine ⟨rfl, hpre, fun r _ hr => ?_⟩
  have := idxF_nonneg (fun s => x.2.1.2 (s, ())) x.1
  rw [hr]
  exact Bool.eq_iff_iff.2 (decide_eq_true_iff.trans this)
theorem vc38_ok (x : dens s38.args) (_ : awf s38.args x) (_ : s38.pre x) : vc38 x := rfl
theorem vc23_ok (x : dens s23.args) (_ : awf s23.args x) (_ : s23.pre x) : vc23 x := by
  obtain ⟨u, hu, h10, h11, h12, h13, h14, h15, h19, h20⟩ := split_u x.1
  simp only [vc23, hu, h10, h11, h12, h13, h14, h15, h19, h20, sel_or]
  obtain ⟨_, ⟨k, h⟩, ⟨tk, th⟩, _⟩ := x
  change Int at k h tk th
  refine ⟨fun _ => trivial, fun r hr => ⟨fun _ => True, fun y => decide (y.1 = (tk, th)), fun y _ _ => ⟨trivial, fun z _ hz => hz⟩, fun _ _ _ => trivial, fun q hq => ?_⟩⟩
  simp only [Bool.or_eq_true, Bool.or_eq_false_iff, decide_eq_true_eq, decide_eq_false_iff_not, Bool.not_eq_true', ne_eq, Decidable.not_not, Bool.not_eq_false'] at hr hq ⊢
  have hf : k = 0 ∧ ¬ tk = 0 → q.1 = follF u k h (tk, th) := fun hc => by
    rw [(hq hc).2, (hr hc).2]
    unfold follF
    congr 1
    funext s
    exact Bool.eq_iff_iff.2 (by simp [Prod.ext_iff])
  refine ⟨fun hc => ?_, fun hc => ⟨fun h2 => ?_, fun h2 => ?_⟩⟩
  · rcases hc with (hc | hc) | hc
    · exact (cost_k hc).symm
    · exact (cost_t hc).symm
    · by_cases hk : k = 0 ∧ ¬ tk = 0
      · exact (cost_f ((hf hk).symm.trans hc)).symm
      · by_cases hk0 : k = 0
        · exact (cost_t (show (tk, th).1 = 0 from by simp; omega)).symm
        · exact (cost_k hk0).symm
  · exact (cost_hot hc.1.1 hc.1.2 ((hf hc.1).symm.trans hc.2) h2).symm
  · exact (cost_cold hc.1.1 hc.1.2 ((hf hc.1).symm.trans hc.2) h2).symm
theorem vc36_ok (x : dens s36.args) (hw : awf s36.args x) (_ : s36.pre x) : vc36 x := by
  have hl : (awOf x.1).length ≤ 9223372036854775807 := hw.1.2.2.2.2.2.2.2.2.2.2.2.2.2.2.2.2.2.2.1.1
  have ha : x.1.2.2.2.2.2.2.2.2.2.2.2.2.2.2.2.2.2.2.1 = awOf x.1 := rfl
  simp only [vc36, ha]
  generalize awOf x.1 = aw at hl
  refine ⟨fun p => 0 ≤ p.1 ∧ p.1 ≤ aw.length ∧ ∀ h : Int, (mfind (Ty.int IntKind.i64) h p.2.1).getD false = decide (h ∈ aw.take p.1.toNat), fun p => aw.length - p.1.toNat, ⟨by simp, by simp, fun h => by simp [mfind]⟩, ?_⟩
  rintro ⟨i, l, _⟩ _ ⟨h0, h1, h2⟩
  simp only [decide_eq_true_eq, decide_eq_false_iff_not] at h0 h1 h2 ⊢
  constructor
  · intro hlt
    have hg := gx_get (d := (0 : Int)) h0 hlt
    rw [wr (by omega) (by omega)]
    refine ⟨⟨h0, hlt⟩, ⟨by omega, by omega, fun h => ?_⟩, by omega⟩
    rw [mfind_mput rfl, eqB_int, show (i + 1).toNat = i.toNat + 1 from by omega, List.take_add_one, hg]
    by_cases hh : h = gx (0 : Int) aw i
    · simp [← hh]
    · have : decide (h = gx (0 : Int) aw i) = false := decide_eq_false hh
      rw [this, cond_false, h2]
      simp [hh]
  · intro hge h
    rw [h2, List.take_of_length_le (by omega)]
theorem vc26_ok (x : dens s26.args) (hw : awf s26.args x) (hpre : s26.pre x) : vc26 x := by
  have hpre : x.2.1.length ≤ 1000 := hpre
  simp only [vc26]
  generalize toU x.1 = u
  generalize awOf x.1 = aw
  obtain ⟨_, ks, _⟩ := x
  change List Int at ks
  simp only at hpre ⊢
  refine ⟨trivial, fun r _ hr => ⟨fun hc hs => ?_, fun hc => ⟨trivial, fun gone _ hg => ?_⟩⟩⟩
  · rw [hr, hs] at hc; cases hc
  simp only [Bool.not_eq_false'] at hc
  have hs : soundB u = true := by rw [← hr]; exact hc
  refine ⟨⟨by omega, by omega, by show (16 : Int) * _ ≤ _; omega, by omega⟩, trivial, ?_⟩
  rintro ⟨⟨k0, h0⟩, _⟩ _ hi
  simp only at hi
  refine ⟨fun p => 0 ≤ p.2.1 ∧ p.2.1 ≤ ks.length ∧ runTo u aw ks p.2.1.toNat = some (p.1, (p.2.2.1, p.2.2.2.1)), fun p => ks.length - p.2.1.toNat, ⟨by simp, by simp, ?_⟩, ?_⟩
  · show some ([], initF u) = _
    rw [← hi]; rfl
  rintro ⟨l, i, k, h, _⟩ _ ⟨hi0, hi1, hrun⟩
  simp only [decide_eq_true_eq, decide_eq_false_iff_not] at hi0 hi1 hrun ⊢
  have hlen := run_len hrun
  simp only at hlen
  constructor
  · intro hlt
    have hk := gx_get (d := (0 : Int)) hi0 hlt
    refine ⟨⟨hi0, hlt⟩, trivial, ?_⟩
    rintro ⟨nx, _⟩ _ hnx
    simp only at hnx
    subst hnx
    refine ⟨fun _ => True, fun y => decide (y.1.1 = gx (0 : Int) ks i), fun y _ _ => ⟨trivial, fun z _ hz => hz⟩, fun _ _ => trivial, ?_⟩
    rintro ⟨j, _⟩ _ hj
    simp only [sel_or, sel_and] at hj ⊢
    have hgi : ((mfind (Ty.int IntKind.i64) i gone.1).getD false) = decide (((i.toNat : Nat) : Int) ∈ aw) := by rw [hg, show ((i.toNat : Nat) : Int) = i from by omega]
    have hii : ((i.toNat : Nat) : Int) = i := by omega
    constructor
    · intro hb _
      have hstep : stepF u aw (i.toNat : Nat) (k, h) (gx (0 : Int) ks i) = none := by
        unfold stepF
        rw [if_pos]
        simp only [Bool.or_eq_true, Bool.and_eq_true, decide_eq_true_eq, hgi, hj] at hb
        rcases hb with hb | hb
        · exact .inl hb
        · exact .inr hb
      have hnone := run_fail hrun hk hstep
      refine ⟨fun p hp => ?_, fun g hgl hgs hgn => ?_⟩
      · exfalso
        have := run_some (n := ks.length) (by rw [hp]; rfl) (i.toNat + 1) (by omega)
        rw [hnone] at this; cases this
      · refine ⟨trivial, ?_, trivial⟩
        have : g = i.toNat := by
          rcases Nat.lt_trichotomy g i.toNat with h | h | h
          · exfalso
            have := run_some (n := i.toNat) (by rw [hrun]; rfl) (g + 1) (by omega)
            rw [hgn] at this; cases this
          · exact h
          · exfalso
            have := run_some hgs (i.toNat + 1) (by omega)
            rw [hnone] at this; cases this
        omega
    · intro hb
      simp only [Bool.or_eq_false_iff, Bool.and_eq_false_iff, decide_eq_false_iff_not, hgi, hj] at hb
      have hnn : 0 ≤ idxF (fun t : St => decide (t.1 = gx (0 : Int) ks i)) (nextF u k h) := Int.not_lt.1 hb.1
      have hlt2 := idxF_lt hnn
      have hjn : 0 ≤ j := by rw [hj]; exact hnn
      have hjl : j < ((nextF u k h).length : Int) := by
        have : j.toNat < (nextF u k h).length := by rw [hj]; exact hlt2
        omega
      have hget := gx_get (d := ((0 : Int), (0 : Int))) hjn hjl
      have hnl := nextF_len u k h
      have hstep : stepF u aw (i.toNat : Nat) (k, h) (gx (0 : Int) ks i) = some (gx ((0 : Int), (0 : Int)) (nextF u k h) j) := by
        unfold stepF
        rw [if_neg, ← hget, hj]
        intro hh
        rcases hh with hh | hh
        · exact hb.1 hh
        · rcases hb.2 with h5 | h5
          · exact h5 hh.1
          · exact h5 hh.2
      refine ⟨⟨hjn, hjl⟩, ⟨by simp only [List.length_singleton]; show _ * 16 ≤ _; omega, by simp only [List.length_singleton]; omega⟩, ⟨?_, ?_, ?_⟩, ?_⟩
      · rw [wr (by omega) (by omega)]; omega
      · rw [wr (by omega) (by omega)]; omega
      · rw [wr (by omega) (by omega), show (i + 1).toNat = i.toNat + 1 from by omega]
        exact run_step hrun hk hstep
      · rw [wr (by omega) (by omega)]; omega
  · intro hge _
    have hie : i.toNat = ks.length := by omega
    rw [hie] at hrun
    refine ⟨fun p hp => ?_, fun g hgl hgs hgn => ?_⟩
    · rw [hrun] at hp; cases hp; exact ⟨rfl, trivial, trivial⟩
    · exfalso
      have := run_some (n := ks.length) (by rw [hrun]; rfl) (g + 1) (by omega)
      rw [hgn] at this; cases this
end Go.Proofs.Ytedfiemhfpcggaa
