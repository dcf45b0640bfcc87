/- step, Reach, Complete. -/
import Derived.Test.YtedfiemhfpcggaaVe
import Derived.Test.YtedfiemhfpcggaaPD
namespace Go.Proofs.Ytedfiemhfpcggaa
open Go.Vc Go.Gw
theorem next_states {u : U} {k h : Int} {t : St} (ht : t ∈ nextF u k h) : t ∈ statesF u := by
  have hp : 0 ≤ posF u k h := by
    rcases Int.lt_or_le (posF u k h) 0 with hh | hh
    · unfold nextF at ht; rw [if_pos hh] at ht; cases ht
    · exact hh
  obtain ⟨hs, h1, hc⟩ := posF_in hp
  have hb := cap_bd hs
  have hu := sound_spec hs
  have key : 0 ≤ posF u t.1 t.2 := by
    unfold nextF at ht
    rw [if_neg (by omega)] at ht
    rw [posF_s hs]
    split at ht
    · rcases List.mem_cons.1 ht with ht | ht
      · subst ht; simp only; rw [if_neg (by omega), if_pos ⟨by trivial, by omega⟩]; omega
      · split at ht
        · simp only [List.mem_singleton] at ht
          split at ht
          · subst ht; simp only; rw [if_neg (by omega), if_neg (by omega), if_pos ⟨by trivial, by omega⟩]; omega
          · subst ht; simp only; rw [if_neg (by omega), if_neg (by omega), if_neg (by omega), if_pos ⟨by trivial, by omega⟩]; omega
        · cases ht
    · split at ht
      · simp only [List.mem_singleton] at ht
        split at ht
        · subst ht; simp only; rw [if_neg (by omega), if_neg (by omega), if_pos ⟨by trivial, by omega⟩]; omega
        · subst ht; simp only; rw [if_neg (by omega), if_neg (by omega), if_neg (by omega), if_pos ⟨by trivial, by omega⟩]; omega
      · rcases List.mem_append.1 ht with ht | ht
        · split at ht
          · simp only [List.mem_singleton] at ht; subst ht; simp only; rw [if_neg (by omega), if_pos ⟨by trivial, by omega⟩]; omega
          · cases ht
        · simp only [List.mem_singleton] at ht; subst ht; simp only; rw [if_neg (by omega), if_neg (by omega), if_neg (by omega), if_pos ⟨by trivial, by omega⟩]; omega
  have := (pos_iff hs (posF u t.1 t.2).toNat t.1 t.2).2 (by omega)
  unfold statesF
  rw [if_pos hs]
  exact List.mem_of_getElem? this
theorem mem_oneMore {u : U} {fr : List St} {gone : Bool} {kind : Int} {s t : St} (hs : s ∈ fr) (ht : t ∈ nextF u s.1 s.2) (hg : t.1 = 0 ∨ gone = false) (hk : kind = -1 ∨ kind = t.1) : t ∈ oneMore u fr gone kind := by
  unfold oneMore
  refine List.mem_filter.2 ⟨next_states ht, List.any_eq_true.2 ⟨s, hs, ?_⟩⟩
  simp only [Bool.and_eq_true, Bool.or_eq_true, decide_eq_true_eq, Bool.not_eq_true']
  exact ⟨⟨ht, hg⟩, hk⟩
theorem run_reach {u : U} {aw ks : List Int} : ∀ {g : Nat} {p : List St × St}, runTo u aw ks g = some p → p.2 ∈ reachF u aw g
  | 0, p, h => by cases h; simp [reachF]
  | g + 1, p, h => by
    obtain ⟨p', k, t, h1, h2, h3, rfl⟩ := run_prev h
    obtain ⟨hm, htk, ha⟩ := step_mem h3
    refine mem_oneMore (run_reach h1) hm ?_ (.inl rfl)
    rcases ha with ha | ha
    · exact .inl (htk.trans ha)
    · exact .inr (decide_eq_false ha)
theorem run_comp {u : U} {aw ks fix : List Int} (hf : ∀ h k, ks[h]? = some k → fix.getD h 0 = -1 ∨ fix.getD h 0 = k) : ∀ {g : Nat} {p : List St × St}, runTo u aw ks g = some p → p.2 ∈ compF u aw fix g
  | 0, p, h => by cases h; simp [compF]
  | g + 1, p, h => by
    obtain ⟨p', k, t, h1, h2, h3, rfl⟩ := run_prev h
    obtain ⟨hm, htk, ha⟩ := step_mem h3
    refine mem_oneMore (run_comp hf h1) hm ?_ ((hf g k h2).imp id fun e => e.trans htk.symm)
    rcases ha with ha | ha
    · exact .inl (htk.trans ha)
    · exact .inr (decide_eq_false ha)
theorem oneMore_len (u : U) (fr : List St) (gone : Bool) (kind : Int) : (oneMore u fr gone kind).length ≤ 100 :=
  Nat.le_trans (List.length_filter_le _ _) (statesF_len u)
theorem mput_len {α : Type} (t : Ty) (k : t.den) (v : α) : ∀ l : List (t.den × α), (mput t k v l).length ≤ l.length + 1
  | [] => by simp [mput]
  | x :: l => by
    simp only [mput]
    cases eqB t k x.1 with
    | true => simp
    | false => have := mput_len t k v l; simp only [cond_false, List.length_cons]; omega
theorem any_take {α : Type} {l : List α} {i : Nat} {a : α} (h : l[i]? = some a) (f : α → Bool) : (l.take (i + 1)).any f = ((l.take i).any f || f a) := by
  rw [List.take_add_one, h]; simp
theorem eqS (a b : St) : eqB tS a b = decide (a = b) := Bool.eq_iff_iff.2 ((eqB_iff (t := tS) rfl).trans decide_eq_true_iff.symm)
theorem vc40_ok (x : dens s40.args) (hw : awf s40.args x) (hpre : s40.pre x) : vc40 x := by
  simp only [vc40]
  generalize toU x.1 = u
  obtain ⟨_, fr, gone, kind, _⟩ := x
  change List (Int × Int) at fr
  change Bool at gone
  change Int at kind
  have hpre : fr.length ≤ 100 := hpre
  dsimp only
  generalize hcond : (fun (t s : St) => decide (t ∈ nextF u s.1 s.2) && (decide (t.1 = 0) || !gone) && (decide (kind = -1) || decide (kind = t.1))) = cond
  refine ⟨fun p => 0 ≤ p.1 ∧ p.1 ≤ fr.length ∧ (p.2.1.length : Int) ≤ 2 * p.1 ∧ ∀ t : St, (mfind tS t p.2.1).getD false = (fr.take p.1.toNat).any (cond t), fun p => fr.length - p.1.toNat, ⟨by simp, by simp, by simp, fun t => by simp [mfind]⟩, ?_⟩
  rintro ⟨i, m, _⟩ _ ⟨i0, i1, i2, i3⟩
  simp only [decide_eq_true_eq, decide_eq_false_iff_not] at i0 i1 i2 i3 ⊢
  refine ⟨fun hlt => ⟨⟨i0, hlt⟩, trivial, ?_⟩, fun hge => ⟨by omega, ⟨by omega, by omega, by show (16 : Int) * _ ≤ _; omega, by omega⟩, trivial, ?_⟩⟩
  · have hs := gx_get (d := ((0 : Int), (0 : Int))) i0 hlt
    generalize gx ((0 : Int), (0 : Int)) fr i = s at hs
    rintro ⟨nx, _⟩ _ hnx
    simp only at hnx
    subst hnx
    have hnl := nextF_len u s.1 s.2
    generalize hok : (fun (t : St) => (decide (t.1 = 0) || !gone) && (decide (kind = -1) || decide (kind = t.1))) = ok
    have hce : ∀ t, cond t s = (decide (t ∈ nextF u s.1 s.2) && ok t) := fun t => by rw [← hcond, ← hok]; simp [Bool.and_assoc]
    refine ⟨fun p => 0 ≤ p.1 ∧ p.1 ≤ (nextF u s.1 s.2).length ∧ (p.2.1.length : Int) ≤ 2 * i + p.1 ∧ ∀ t : St, (mfind tS t p.2.1).getD false = ((fr.take i.toNat).any (cond t) || (decide (t ∈ (nextF u s.1 s.2).take p.1.toNat) && ok t)), fun p => (nextF u s.1 s.2).length - p.1.toNat, ⟨by simp, by simp, by simp only; omega, fun t => by simp [i3]⟩, ?_⟩
    rintro ⟨j, mm, _⟩ _ ⟨j0, j1, j2, j3⟩
    simp only [decide_eq_true_eq, decide_eq_false_iff_not] at j0 j1 j2 j3 ⊢
    refine ⟨fun hlt2 => ?_, fun hge2 => ?_⟩
    · have hy := gx_get (d := ((0 : Int), (0 : Int))) j0 hlt2
      generalize gx ((0 : Int), (0 : Int)) (nextF u s.1 s.2) j = y at hy
      have hoky : sel (sel (decide (y.1 = 0)) true !gone) (sel (decide (kind = -1)) true (decide (kind = y.1))) false = ok y := by rw [sel_or, sel_or, sel_and, ← hok]
      refine ⟨fun p => (p.1.length : Int) ≤ 2 * i + (j + 1) ∧ ∀ t : St, (mfind tS t p.1).getD false = ((fr.take i.toNat).any (cond t) || (decide (t ∈ (nextF u s.1 s.2).take (j.toNat + 1)) && ok t)), ⟨⟨j0, hlt2⟩, fun hc => ?_, fun hc => ?_⟩, fun p _ hp => ?_⟩
      · rw [hoky] at hc
        have hml := mput_len tS y true mm
        refine ⟨by dsimp only; omega, fun t => ?_⟩
        rw [mfind_mput (t := tS) rfl, eqS, List.take_add_one, hy]
        by_cases hty : t = y
        · subst hty; simp [hc]
        · have hd : decide (t = y) = false := decide_eq_false hty
          rw [hd, cond_false, j3]
          simp [hty]
      · rw [hoky] at hc
        refine ⟨by dsimp only; omega, fun t => ?_⟩
        rw [j3, List.take_add_one, hy]
        by_cases hty : t = y
        · subst hty; simp [hc]
        · simp [hty]
      · rw [wr (by omega) (by omega)]
        refine ⟨⟨by omega, by omega, hp.1, fun t => ?_⟩, by omega⟩
        rw [show (j + 1).toNat = j.toNat + 1 from by omega]
        exact hp.2 t
    · rw [wr (by omega) (by omega)]
      refine ⟨⟨by omega, by omega, by omega, fun t => ?_⟩, by omega⟩
      rw [j3, show (i + 1).toNat = i.toNat + 1 from by omega, any_take hs, hce, List.take_of_length_le (l := nextF u s.1 s.2) (by omega)]
  · rw [List.take_of_length_le (by omega)] at i3
    rintro ⟨sts, _⟩ _ hst
    simp only at hst
    subst hst
    have hsl := statesF_len u
    have hone : oneMore u fr gone kind = (statesF u).filter fun t => fr.any (cond t) := by rw [← hcond]; rfl
    refine ⟨fun p => 0 ≤ p.2.1 ∧ p.2.1 ≤ (statesF u).length ∧ p.1 = ((statesF u).take p.2.1.toNat).filter fun t => fr.any (cond t), fun p => (statesF u).length - p.2.1.toNat, ⟨by simp, by simp, by simp⟩, ?_⟩
    rintro ⟨l, j, _⟩ _ ⟨j0, j1, j2⟩
    simp only [decide_eq_true_eq, decide_eq_false_iff_not] at j0 j1 j2 ⊢
    refine ⟨fun hlt2 => ?_, fun hge2 => ?_⟩
    · have hy := gx_get (d := ((0 : Int), (0 : Int))) j0 hlt2
      generalize gx ((0 : Int), (0 : Int)) (statesF u) j = y at hy
      have hll : l.length ≤ 100 := by rw [j2]; exact Nat.le_trans (List.length_filter_le _ _) (by rw [List.length_take]; omega)
      refine ⟨fun p => p.1 = ((statesF u).take (j.toNat + 1)).filter fun t => fr.any (cond t), ⟨⟨j0, hlt2⟩, fun hc => ⟨⟨by simp only [List.length_singleton]; omega, by simp only [List.length_singleton]; omega⟩, ?_⟩, fun hc => ?_⟩, fun p _ hp => ?_⟩
      · rw [i3] at hc
        show l ++ [y] = _
        rw [List.take_add_one, hy, List.filter_append, ← j2]
        simp [hc]
      · rw [i3] at hc
        show l = _
        rw [List.take_add_one, hy, List.filter_append, ← j2]
        simp [hc]
      · rw [wr (by omega) (by omega)]
        refine ⟨⟨by omega, by omega, ?_⟩, by omega⟩
        rw [show (j + 1).toNat = j.toNat + 1 from by omega]
        exact hp
    · rw [j2, hone, List.take_of_length_le (by omega)]
theorem gone_at {r : List (Int × Bool)} {aw : List Int} (h : ∀ h : Int, (mfind (Ty.int IntKind.i64) h r).getD false = decide (h ∈ aw)) {i : Int} (hi : 0 ≤ i) : (mfind (Ty.int IntKind.i64) i r).getD false = decide (((i.toNat : Nat) : Int) ∈ aw) := by
  rw [h, show ((i.toNat : Nat) : Int) = i from by omega]
theorem vc28_ok (x : dens s28.args) (_ : awf s28.args x) (_ : s28.pre x) : vc28 x := by
  simp only [vc28]
  generalize toU x.1 = u
  generalize awOf x.1 = aw
  obtain ⟨_, n, _⟩ := x
  change Int at n
  dsimp only
  refine ⟨trivial, fun r _ hr => ⟨fun hc hs h1 h2 => ?_, fun hc => ⟨trivial, fun gone _ hg => ?_⟩⟩⟩
  · simp only [sel_or, Bool.or_eq_true, decide_eq_true_eq, hr, hs, Bool.not_true, Bool.false_eq_true, false_or] at hc
    omega
  simp only [sel_or, Bool.or_eq_false_iff, decide_eq_false_iff_not, hr, Bool.not_eq_false'] at hc
  refine ⟨⟨by omega, by omega, by show (24 : Int) * _ ≤ _; omega, by omega⟩, trivial, fun s0 _ hs0 => ?_⟩
  refine ⟨fun p => 0 ≤ p.2.2.1 ∧ p.2.2.1 ≤ n ∧ p.1.length = p.2.2.1.toNat ∧ p.2.1 = reachF u aw p.2.2.1.toNat ∧ ∀ h, h < p.2.2.1.toNat → p.1[h]? = some (reachF u aw (h + 1)), fun p => (n - p.2.2.1).toNat, ⟨by simp, by simp only; omega, by simp, by simp [reachF, hs0], fun h hh => by simp at hh⟩, ?_⟩
  rintro ⟨ls, fr, i, _⟩ _ ⟨i0, i1, i2, i3, i4⟩
  simp only [decide_eq_true_eq, decide_eq_false_iff_not] at i0 i1 i2 i3 i4 ⊢
  refine ⟨fun hlt => ⟨?_, fun nx _ hnx => ?_⟩, fun hge _ _ _ => ?_⟩
  · rw [i3]
    cases i.toNat with
    | zero => simp [reachF]
    | succ k => exact oneMore_len _ _ _ _
  · rw [wr (by omega) (by omega), show (i + 1).toNat = i.toNat + 1 from by omega]
    have hn : nx.1 = reachF u aw (i.toNat + 1) := by rw [hnx, i3, gone_at hg i0]; rfl
    simp only [List.length_append, List.length_singleton]
    refine ⟨⟨by omega, by omega⟩, ⟨by omega, by omega, by omega, hn, fun h hh => ?_⟩, by omega⟩
    by_cases hhi : h < i.toNat
    · rw [List.getElem?_append_left (by omega)]; exact i4 h hhi
    · have : h = i.toNat := by omega
      subst this
      rw [← i2, List.getElem?_append_right (Nat.le_refl _), Nat.sub_self, hn, i2]; rfl
  · have : i = n := by omega
    subst this
    exact ⟨i2, i4⟩
theorem vc29_ok (x : dens s29.args) (hw : awf s29.args x) (_ : s29.pre x) : vc29 x := by
  have hl : x.2.1.length ≤ 9223372036854775807 := hw.2.1.1
  simp only [vc29]
  generalize toU x.1 = u
  generalize awOf x.1 = aw
  obtain ⟨_, fix, _⟩ := x
  change List Int at fix
  replace hl : fix.length ≤ 9223372036854775807 := hl
  dsimp only
  refine ⟨trivial, fun r _ hr => ⟨fun hc hs => ?_, fun hc => ⟨trivial, fun gone _ hg => ⟨trivial, fun s0 _ hs0 => ?_⟩⟩⟩⟩
  · rw [hr, hs] at hc; cases hc
  refine ⟨fun p => 0 ≤ p.2.1 ∧ p.2.1 ≤ fix.length ∧ p.1 = compF u aw fix p.2.1.toNat ∧ ∀ h, h < p.2.1.toNat → compF u aw fix (h + 1) ≠ [], fun p => fix.length - p.2.1.toNat, ⟨by simp, by simp, by simp [compF, hs0], fun h hh => by simp at hh⟩, ?_⟩
  rintro ⟨fr, i, _⟩ _ ⟨i0, i1, i2, i3⟩
  simp only [decide_eq_true_eq, decide_eq_false_iff_not] at i0 i1 i2 i3 ⊢
  refine ⟨fun hlt => ⟨⟨i0, hlt⟩, ?_, fun nx _ hnx => ?_⟩, fun hge _ => ?_⟩
  · rw [i2]
    cases i.toNat with
    | zero => simp [compF]
    | succ k => exact oneMore_len _ _ _ _
  · have hk := gx_get (d := (0 : Int)) i0 hlt
    have hn : nx.1 = compF u aw fix (i.toNat + 1) := by
      rw [hnx, i2, gone_at hg i0]
      show _ = oneMore _ _ _ _
      rw [List.getD_eq_getElem?_getD, hk]; rfl
    refine ⟨fun hz _ => ?_, fun hz => ?_⟩
    · refine (decide_eq_false fun hall => ?_).symm
      have := hall i.toNat (by omega)
      rw [← hn] at this
      exact this (List.eq_nil_of_length_eq_zero (by omega))
    · rw [wr (by omega) (by omega)]
      refine ⟨⟨by omega, by omega, ?_, fun h hh => ?_⟩, by omega⟩
      · rw [show (i + 1).toNat = i.toNat + 1 from by omega]; exact hn
      · by_cases hhi : h < i.toNat
        · exact i3 h hhi
        · have : h = i.toNat := by omega
          subst this
          rw [← hn]
          intro hh
          rw [hh] at hz; simp at hz
  · refine (decide_eq_true fun h hh => i3 h (by omega)).symm
theorem sound_hc (up dn st hc cc hc' cc' hh state hours : Int) : soundB (mkU up dn st hc cc hh state hours) = soundB (mkU up dn st hc' cc' hh state hours) := rfl
theorem vc6_ok (x : dens s6.args) (_ : awf s6.args x) (_ : s6.pre x) : vc6 x := by
  simp only [vc6]
  obtain ⟨xu, raw, _⟩ := x
  change List Int at raw
  dsimp only
  refine ⟨fun _ => trivial, fun hc => ⟨trivial, ?_⟩⟩
  simp only [sel_or, Bool.or_eq_false_iff, decide_eq_false_iff_not] at hc
  replace hc := hc.2
  rintro ⟨⟨a0, a1, a2, a3, a4, a5, a6, a7, a8, a9, a10, a11, a12, a13, a14, a15, a16, a17, a18, a19, a20, a21⟩, _⟩ _
  change List Int at a18
  change Int at a10 a11 a12 a13 a14 a15 a19 a20
  dsimp only
  generalize e0 : toU (a0, a1, a2, a3, a4, a5, a6, a7, a8, a9, a10, a11, a12, a13, a14, a15, a16, a17, a18, a19, a20, a21) = v0
  generalize e1 : toU (a0, a1, a2, a3, a4, a5, a6, a7, a8, a9, a10, a11, a12, a13.tmod 1000, a14.tmod 1000, a15, a16, a17, a18, a19, a20, a21) = v1
  generalize e2 : awOf (a0, a1, a2, a3, a4, a5, a6, a7, a8, a9, a10, a11, a12, a13, a14, a15, a16, a17, a18, a19, a20, a21) = v2
  generalize e3 : awOf (a0, a1, a2, a3, a4, a5, a6, a7, a8, a9, a10, a11, a12, a13.tmod 1000, a14.tmod 1000, a15, a16, a17, a18, a19, a20, a21) = v3
  have f0 := e0.symm.trans (toU_mk a0 a1 a2 a3 a4 a5 a6 a7 a8 a9 a10 a11 a12 a13 a14 a15 a16 a17 a18 a19 a20 a21)
  have f1 := e1.symm.trans (toU_mk a0 a1 a2 a3 a4 a5 a6 a7 a8 a9 a10 a11 a12 (a13.tmod 1000) (a14.tmod 1000) a15 a16 a17 a18 a19 a20 a21)
  have f2 := e2.symm.trans (awOf_mk a0 a1 a2 a3 a4 a5 a6 a7 a8 a9 a10 a11 a12 a13 a14 a15 a16 a17 a18 a19 a20 a21)
  have f3 := e3.symm.trans (awOf_mk a0 a1 a2 a3 a4 a5 a6 a7 a8 a9 a10 a11 a12 (a13.tmod 1000) (a14.tmod 1000) a15 a16 a17 a18 a19 a20 a21)
  subst f0 f1 f2 f3
  clear e0 e1 e2 e3
  rintro ⟨hs, hal⟩
  rw [sound_hc _ _ _ _ _ (a13.tmod 1000) (a14.tmod 1000)] at hs
  have hcc : (mkU a10 a11 a12 (a13.tmod 1000) (a14.tmod 1000) a15 a19 a20).hc = a13.tmod 1000 := rfl
  have hcc2 : (mkU a10 a11 a12 (a13.tmod 1000) (a14.tmod 1000) a15 a19 a20).cc = a14.tmod 1000 := rfl
  have hh15 : (mkU a10 a11 a12 (a13.tmod 1000) (a14.tmod 1000) a15 a19 a20).hh = a15 := rfl
  have h19 : (mkU a10 a11 a12 (a13.tmod 1000) (a14.tmod 1000) a15 a19 a20).state = a19 := rfl
  have h20 : (mkU a10 a11 a12 (a13.tmod 1000) (a14.tmod 1000) a15 a19 a20).hours = a20 := rfl
  have hb := sound_spec hs
  rw [h20] at hb
  generalize mkU a10 a11 a12 (a13.tmod 1000) (a14.tmod 1000) a15 a19 a20 = u at *
  refine ⟨by decide, by decide, ⟨hs, by omega, by omega⟩, ?_⟩
  rintro ⟨ks, _⟩ _ ⟨hkl, hrun⟩
  dsimp only at hkl hrun ⊢
  obtain ⟨P, hP⟩ := Option.isSome_iff_exists.1 hrun
  refine ⟨by omega, ?_⟩
  rintro ⟨l, n, e, _⟩ _ hwk
  dsimp only at hwk ⊢
  obtain ⟨e1, e2, e3⟩ := (hwk hs).1 P hP
  subst e1 e2 e3
  have hPl := run_len hP
  refine ⟨trivial, fun aw3 _ haw => ⟨fun hbad => ?_, fun _ => ?_⟩⟩
  · simp [haw, sel_or, hPl] at hbad
  have main : ∀ (r_4 : (Int × Int) × Unit), r_4.1 = initF u → ∃ (I : Int × Int × Int × Int × Int × Unit → Prop), ∃ (μ : Int × Int × Int × Int × Int × Unit → Nat), I (a19, a20, 0, r_4.1.1, r_4.1.2, ()) ∧ ∀ p, I p → p.2.2.1 < (ks.length : Int) → 0 ≤ p.2.2.1 ∧ ∃ t, P.1[p.2.2.1.toNat]? = some t ∧ costF u p.2.2.2.1 p.2.2.2.2.1 t = (if p.1 = 0 ∧ gx 0 ks p.2.2.1 ≠ 0 then (if p.2.1 ≤ a15 then a13.tmod 1000 else a14.tmod 1000) else 0) ∧ (∀ q : Int × Int, q = (if gx 0 ks p.2.2.1 ≠ p.1 then (gx 0 ks p.2.2.1, 1) else (p.1, IntKind.i64.wrap (p.2.1 + 1))) → I (q.1, q.2, IntKind.i64.wrap (p.2.2.1 + 1), t.1, t.2, ()) ∧ μ (q.1, q.2, IntKind.i64.wrap (p.2.2.1 + 1), t.1, t.2, ()) < μ p) := by
    intro s0 hs0
    refine ⟨fun p => 0 ≤ p.2.2.1 ∧ p.2.2.1 ≤ ks.length ∧ p.2.1 ≤ 48 + p.2.2.1 ∧ (∃ q, runTo u v3 ks p.2.2.1.toNat = some (q, (p.2.2.2.1, p.2.2.2.2.1))) ∧ RelAt u v3 ks p.2.2.1.toNat p.1 p.2.1, fun p => ks.length - p.2.2.1.toNat, ⟨by simp, by simp, by simp only; omega, ⟨[], ?_⟩, ?_⟩, ?_⟩
    · show some ([], initF u) = _
      rw [← hs0]
    · have := rel_init hs v3 ks
      rw [h19, h20] at this
      exact this
    rintro ⟨kd, rn, i, k, h, _⟩ ⟨i0, i1, ib, ⟨q, hq⟩, hrel⟩ hlt
    dsimp only at i0 i1 ib hq hrel hlt ⊢
    have hk := gx_get (d := (0 : Int)) i0 hlt
    obtain ⟨⟨_, _, _, hrn⟩, hr1, hr2⟩ := relAt_step hs hrun hrel hk
    obtain ⟨p, hp⟩ := Option.isSome_iff_exists.1 (run_some hrun (i.toNat + 1) (by omega))
    have hat := run_at hP (by omega : i.toNat < ks.length) hp
    obtain ⟨p', k', t, hp', hk', hst, rfl⟩ := run_prev hp
    rw [hq] at hp'; cases hp'
    rw [hk] at hk'; cases hk'
    obtain ⟨pr, hpr, hrl⟩ := hrel
    rw [hq] at hpr; cases hpr
    have hcost := cost_rel hs hrl hst
    rw [hcc, hcc2, hh15] at hcost
    refine ⟨i0, t, hat, hcost, fun qq hqq => ?_⟩
    have w1 := wr (a := i + 1) (by omega) (by omega)
    have w2 := wr (a := rn + 1) (by omega) (by omega)
    rw [w1]
    rw [w2] at hqq
    refine ⟨⟨by omega, by omega, ?_, ⟨q ++ [t], ?_⟩, ?_⟩, by omega⟩
    · subst hqq; split <;> dsimp only <;> omega
    · rw [show (i + 1).toNat = i.toNat + 1 from by omega]; exact hp
    · subst hqq
      rw [show (i + 1).toNat = i.toNat + 1 from by omega]
      split
      · rename_i hne; exact hr2 hne
      · rename_i hne; exact hr1 (by simpa using hne)
  have conv : ∀ (r_4 : (Int × Int) × Unit), r_4.1 = initF u → ∃ (I : Int × Int × Int × Int × Int × Unit → Prop), ∃ (μ : Int × Int × Int × Int × Int × Unit → Nat), I (a19, a20, 0, r_4.1.1, r_4.1.2, ()) ∧ ∀ p, I p → p.2.2.1 < (ks.length : Int) → ((0 ≤ p.2.2.1 ∧ p.2.2.1 < (ks.length : Int)) ∧ (0 ≤ p.2.2.1 ∧ p.2.2.1 < (P.1.length : Int))) ∧ costF u p.2.2.2.1 p.2.2.2.2.1 (gx ((0 : Int), (0 : Int)) P.1 p.2.2.1) = (if p.1 = 0 ∧ gx 0 ks p.2.2.1 ≠ 0 then (if p.2.1 ≤ a15 then a13.tmod 1000 else a14.tmod 1000) else 0) ∧ (∀ q : Int × Int, q = (if gx 0 ks p.2.2.1 ≠ p.1 then (gx 0 ks p.2.2.1, 1) else (p.1, IntKind.i64.wrap (p.2.1 + 1))) → I (q.1, q.2, IntKind.i64.wrap (p.2.2.1 + 1), (gx ((0 : Int), (0 : Int)) P.1 p.2.2.1).1, (gx ((0 : Int), (0 : Int)) P.1 p.2.2.1).2, ()) ∧ μ (q.1, q.2, IntKind.i64.wrap (p.2.2.1 + 1), (gx ((0 : Int), (0 : Int)) P.1 p.2.2.1).1, (gx ((0 : Int), (0 : Int)) P.1 p.2.2.1).2, ()) < μ p) := by
    intro s0 hs0
    obtain ⟨I, μ, h1, h2⟩ := main s0 hs0
    refine ⟨I, μ, h1, fun p hp hlt => ?_⟩
    obtain ⟨h0, t, ht, hc1, hc2⟩ := h2 p hp hlt
    have hg : gx ((0 : Int), (0 : Int)) P.1 p.2.2.1 = t := by unfold gx; rw [List.getD_eq_getElem?_getD, ht]; rfl
    rw [hg]
    exact ⟨⟨⟨h0, hlt⟩, h0, by omega⟩, hc1, hc2⟩
  refine ⟨⟨trivial, fun s0 _ hs0 => ?_⟩, trivial, fun s0 _ hs0 => ?_⟩ <;>
  · obtain ⟨I, μ, h1, h2⟩ := conv s0 hs0
    refine ⟨I, μ, h1, fun p _ hp => ⟨fun hlt => ?_, fun _ => trivial⟩⟩
    obtain ⟨⟨b1, b2⟩, hcst, hnext⟩ := h2 p hp (of_decide_eq_true hlt)
    refine ⟨fun q => q.1 = (if p.1 = 0 ∧ gx 0 ks p.2.2.1 ≠ 0 then (if p.2.1 ≤ a15 then a13.tmod 1000 else a14.tmod 1000) else 0), ⟨fun _ => b1, fun hx => ⟨fun hy => ?_, fun hy => ?_⟩, fun hx => ?_⟩, fun q _ hq => ⟨b2, trivial, fun cst _ hcs => ⟨fun hne => ?_, fun _ => ?_⟩⟩⟩
    · simp only [sel_and, Bool.and_eq_true, decide_eq_true_eq] at hx hy
      dsimp only; rw [if_pos hx, if_pos hy]
    · simp only [sel_and, Bool.and_eq_true, decide_eq_true_eq, decide_eq_false_iff_not] at hx hy
      dsimp only; rw [if_pos hx, if_neg hy]
    · simp only [sel_and, Bool.and_eq_false_iff, decide_eq_false_iff_not] at hx
      dsimp only; rw [if_neg (fun hh => by rcases hx with hx | hx; exact hx hh.1; exact hx hh.2)]
    · exact absurd (hcs.trans (hcst.trans hq.symm)) (of_decide_eq_true hne)
    · refine ⟨fun w => (w.1, w.2.1) = (if gx 0 ks p.2.2.1 ≠ p.1 then (gx 0 ks p.2.2.1, 1) else (p.1, IntKind.i64.wrap (p.2.1 + 1))), ⟨b1, fun hne => ⟨b1, ?_⟩, fun heq => ?_⟩, fun w _ hw => ⟨b2, hnext _ hw⟩⟩
      · have := of_decide_eq_true hne; dsimp only; rw [if_pos this]
      · have := of_decide_eq_false heq; dsimp only; rw [if_neg this]
end Go.Proofs.Ytedfiemhfpcggaa
