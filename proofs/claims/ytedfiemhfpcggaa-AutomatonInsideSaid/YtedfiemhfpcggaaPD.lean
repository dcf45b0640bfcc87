/- Near, Choose, the example. -/
import Derived.Test.YtedfiemhfpcggaaVd
import Derived.Test.YtedfiemhfpcggaaPC
namespace Go.Proofs.Ytedfiemhfpcggaa
open Go.Vc Go.Gw
theorem vc35_ok (x : dens s35.args) (hw : awf s35.args x) (hpre : s35.pre x) : vc35 x := by
  obtain ⟨v, n, _⟩ := x
  change Int at v n
  have hpre : 0 < n ∧ n ≤ 1000 := hpre
  have hb := tmod_bd v hpre.1
  simp only [vc35]
  rw [wr (by omega) (by omega)]
  exact ⟨by omega, by omega, sm_bd v hpre.1⟩
/-- A unit out of its numbers. -/
def mkU (up dn st hc cc hh state hours : Int) : U := { nm := .bool false, bus := .bool false, mn := .bool false, mx := .bool false, segs := .bool false, noload := .bool false, rup := .bool false, rdn := .bool false, sramp := .bool false, pramp := .bool false, up := up, dn := dn, st := st, hc := hc, cc := cc, hh := hh, res := .bool false, rpr := .bool false, away := .bool false, state := state, hours := hours, out := .bool false }
theorem toU_mk (a0 : ByteArray) (a1 a2 a3 : Int) (a4 : List (Int × Int)) (a5 a6 a7 a8 a9 a10 a11 a12 a13 a14 a15 a16 a17 : Int) (a18 : List Int) (a19 a20 a21 : Int) : toU (a0, a1, a2, a3, a4, a5, a6, a7, a8, a9, a10, a11, a12, a13, a14, a15, a16, a17, a18, a19, a20, a21) = mkU a10 a11 a12 a13 a14 a15 a19 a20 := rfl
theorem awOf_mk (a0 : ByteArray) (a1 a2 a3 : Int) (a4 : List (Int × Int)) (a5 a6 a7 a8 a9 a10 a11 a12 a13 a14 a15 a16 a17 : Int) (a18 : List Int) (a19 a20 a21 : Int) : awOf (a0, a1, a2, a3, a4, a5, a6, a7, a8, a9, a10, a11, a12, a13, a14, a15, a16, a17, a18, a19, a20, a21) = a18 := rfl
theorem snd_of {u : U} (h1 : 0 ≤ u.up ∧ u.up < 4) (h2 : 0 ≤ u.dn ∧ u.dn < 4) (h3 : 0 ≤ u.st ∧ u.st < 3) (h4 : 0 ≤ u.hh ∧ u.hh < 4) (h5 : 0 ≤ u.state ∧ u.state < 3) (h6 : 1 ≤ u.hours ∧ u.hours < 7) (h7 : u.state = 1 → u.hours ≤ u.st) : soundB u = true :=
  decide_eq_true ⟨by omega, by omega, by omega, by omega, by omega, by omega, by omega, by omega, by omega, by omega, by omega, h7⟩
theorem one_wr {a n : Int} (h : 0 ≤ a ∧ a < n) (hn : n ≤ 1000) : IntKind.i64.wrap (1 + a) = 1 + a := wr (by omega) (by omega)
theorem r16 {a n : Int} (h : 0 ≤ a ∧ a < n) (hn : n ≤ 6) : 1 ≤ 1 + a ∧ 1 + a < 7 := by omega
theorem st1 {a : Int} (h : a = 1) : 0 ≤ a ∧ a < 3 := by omega
theorem le1 {a n : Int} (h : 0 ≤ a ∧ a < n) : 1 + a ≤ n := by omega
theorem sp3 {a : Int} (h : 0 ≤ a ∧ a < 3) (h0 : ¬ a = 0) : 1 ≤ a ∧ a < 3 := by omega
theorem pr3 {a : Int} (h : 1 ≤ a ∧ a < 3) : (0 < a ∧ a ≤ 1000) ∧ (0 ≤ a ∧ a < 3) ∧ a ≤ 1000 ∧ a ≤ 6 := by omega
theorem app4 {n : Nat} {i : Int} (h0 : 0 ≤ i) (h1 : i ≤ 4) (h2 : (n : Int) ≤ i) (h4 : i < 4) : ((n + 1) * 8 ≤ 140737488355328 ∧ n + 1 ≤ 9223372036854775807) ∧ (0 ≤ i + 1 ∧ i + 1 ≤ 4 ∧ ((n + 1 : Nat) : Int) ≤ i + 1) ∧ (4 - (i + 1)).toNat < (4 - i).toNat := by omega
theorem vc25_ok (x : dens s25.args) (_ : awf s25.args x) (_ : s25.pre x) : vc25 x := by
  refine ⟨⟨by decide, by decide⟩, fun up _ hup => ⟨⟨by decide, by decide⟩, fun dn _ hdn => ⟨⟨by decide, by decide⟩, fun st _ hst => ⟨⟨by decide, by decide⟩, fun hh _ hhh => ⟨⟨by decide, by decide⟩, fun state _ hstate => ⟨⟨by decide, by decide⟩, fun hours _ hhours => ?_⟩⟩⟩⟩⟩⟩
  have e1 := one_wr hhours (by decide)
  rw [e1]
  refine ⟨fun p => soundB (mkU p.2.2.2.2.2.2.2.2.2.2.1 p.2.2.2.2.2.2.2.2.2.2.2.1 p.2.2.2.2.2.2.2.2.2.2.2.2.1 p.2.2.2.2.2.2.2.2.2.2.2.2.2.1 p.2.2.2.2.2.2.2.2.2.2.2.2.2.2.1 p.2.2.2.2.2.2.2.2.2.2.2.2.2.2.2.1 p.2.2.2.2.2.2.2.2.2.2.2.2.2.2.2.2.2.2.2.1 p.2.2.2.2.2.2.2.2.2.2.2.2.2.2.2.2.2.2.2.2.1) = true, ⟨fun hs => ⟨fun p => (0 ≤ p.2.2.2.2.2.2.2.2.2.2.1 ∧ p.2.2.2.2.2.2.2.2.2.2.1 < 4) ∧ (0 ≤ p.2.2.2.2.2.2.2.2.2.2.2.1 ∧ p.2.2.2.2.2.2.2.2.2.2.2.1 < 4) ∧ (1 ≤ p.2.2.2.2.2.2.2.2.2.2.2.2.1 ∧ p.2.2.2.2.2.2.2.2.2.2.2.2.1 < 3) ∧ (0 ≤ p.2.2.2.2.2.2.2.2.2.2.2.2.2.2.2.1 ∧ p.2.2.2.2.2.2.2.2.2.2.2.2.2.2.2.1 < 4) ∧ p.2.2.2.2.2.2.2.2.2.2.2.2.2.2.2.2.2.2.2.1 = 1, ⟨fun h0 => ?_, fun h0 => ?_⟩, fun p _ hp => ?_⟩, fun hs => ?_⟩, fun p _ hp => ?_⟩
  · exact ⟨hup, hdn, ⟨(show (1 : Int) ≤ 1 from by decide), (show (1 : Int) < 3 from by decide)⟩, hhh, of_decide_eq_true hs⟩
  · exact ⟨hup, hdn, sp3 hst (of_decide_eq_false h0), hhh, of_decide_eq_true hs⟩
  · obtain ⟨p1, p2, p3, p4, p5⟩ := hp
    obtain ⟨q1, q2, q3, q4⟩ := pr3 p3
    refine ⟨q1, fun r _ hr => ?_⟩
    rw [one_wr hr q3]
    exact snd_of (u := mkU _ _ _ _ _ _ _ _) p1 p2 q2 p4 (st1 p5) (r16 hr q4) (fun _ => le1 hr)
  · exact snd_of (u := mkU _ _ _ _ _ _ _ _) hup hdn hst hhh hstate (r16 hhours (by decide)) (fun h => absurd h (of_decide_eq_false hs))
  · refine ⟨fun q => 0 ≤ q.2.1 ∧ q.2.1 ≤ 4 ∧ (q.1.length : Int) ≤ q.2.1, fun q => (4 - q.2.1).toNat, ⟨by simp, by simp, by simp⟩, fun q _ hq => ⟨fun hc => ?_, fun hc => ⟨by rw [toU_mk]; exact hp, ?_⟩⟩⟩
    · rw [sel_and, Bool.and_eq_true, decide_eq_true_eq, decide_eq_true_eq] at hc
      refine ⟨⟨hq.1, hc.1⟩, ⟨by decide, by decide⟩, fun r _ hr => ?_⟩
      have e3 := wr (a := q.2.1 + 1) (Int.le_trans (by decide) (Int.le_trans hq.1 (Int.le_add_of_nonneg_right (by decide)))) (Int.le_trans (Int.add_le_add_right hq.2.1 1) (by decide))
      rw [e3]
      simp only [List.length_append, List.length_singleton]
      exact app4 hq.1 hq.2.1 hq.2.2 hc.2
    · have := hq.2.2
      have h2 := hq.2.1
      rw [awOf_mk]
      clear hp hup hdn hst hhh hstate hhours
      omega
theorem vc41_ok (x : dens s41.args) (hw : awf s41.args x) (_ : s41.pre x) : vc41 x := by
  obtain ⟨l, v, _⟩ := x
  change List Int at l
  change Int at v
  obtain ⟨⟨hl, _⟩, hv, _⟩ := hw
  replace hl : l.length ≤ 9223372036854775807 := hl
  refine ⟨fun p => 0 ≤ p.1 ∧ p.1 ≤ l.length ∧ ∀ y ∈ l.take p.1.toNat, y ≠ v, fun p => l.length - p.1.toNat, ⟨by simp, by simp, by simp⟩, ?_⟩
  rintro ⟨i, _⟩ _ ⟨h0, h1, h2⟩
  simp only [decide_eq_true_eq, decide_eq_false_iff_not] at h0 h1 h2 ⊢
  constructor
  · intro hlt
    have hg := gx_get (d := (0 : Int)) h0 hlt
    refine ⟨⟨h0, hlt⟩, fun he => ?_, fun he => ?_⟩
    · rw [he] at hg
      exact (decide_eq_true (List.mem_of_getElem? hg)).symm
    · rw [wr (by omega) (by omega)]
      refine ⟨⟨by omega, by omega, fun y hy => ?_⟩, by omega⟩
      rw [show (i + 1).toNat = i.toNat + 1 from by omega, List.take_add_one, hg] at hy
      rcases List.mem_append.1 hy with hy | hy
      · exact h2 y hy
      · simp at hy; rw [hy]; exact he
  · intro hge
    refine (decide_eq_false fun hm => ?_).symm
    rw [List.take_of_length_le (by omega)] at h2
    exact h2 v hm rfl
theorem vc39_ok (x : dens s39.args) (_ : awf s39.args x) (_ : s39.pre x) : vc39 x := by
  obtain ⟨xu, hr, kd, _⟩ := x
  change Int at hr kd
  refine ⟨fun _ => trivial, fun r hr' => ?_⟩
  have ha : awOf xu = xu.2.2.2.2.2.2.2.2.2.2.2.2.2.2.2.2.2.2.1 := rfl
  simp only [sel_or, sel_and, Bool.or_eq_true, decide_eq_true_eq, decide_eq_false_iff_not] at hr' ⊢
  rw [← ha] at hr'
  unfold allowF
  by_cases h0 : kd = 0
  · simp [h0]
  · by_cases h1 : kd = 1 ∨ kd = 2
    · rw [(hr' ⟨h1, h0⟩).2]
      rcases h1 with h1 | h1 <;> simp [h1]
    · have : ¬ kd = 1 := fun h => h1 (.inl h)
      have h2 : ¬ kd = 2 := fun h => h1 (.inr h)
      simp [h0, this, h2]
theorem vc30_ok (x : dens s30.args) (_ : awf s30.args x) (_ : s30.pre x) : vc30 x := ⟨rfl, rfl⟩
theorem ex_facts : soundB exT = true ∧ capOff exT = 3 ∧ capOn exT = 2 ∧ nextF exT 0 1 = [(0, 2), (1, 1)] ∧ (statesF exT).length = 6 ∧ costF exT 0 3 (1, 1) = 9 ∧ (runTo exT [] [1, 2, 2, 0] 4).isSome = true ∧ runTo exT [] [2] 1 = none := by decide
theorem vc11_ok (x : dens s11.args) (_ : awf s11.args x) (_ : s11.pre x) : vc11 x := by
  obtain ⟨f1, f2, f3, f4, f5, f6, f7, f8⟩ := ex_facts
  refine ⟨trivial, fun r _ hr => ?_⟩
  rw [hr.1, hr.2]
  refine ⟨trivial, fun q _ hq => ⟨trivial, fun nx _ hnx => ⟨by simp, fun w1 _ hw1 => ⟨by simp, fun w2 _ hw2 => ⟨fun _ => trivial, fun sts hsts => ?_⟩⟩⟩⟩⟩
  rw [f1, f2, f3] at hq
  simp only [if_true] at hq
  rw [f4] at hnx
  have g1 := (hw1 f1).1
  have g2 := (hw2 f1).2 0 (by simp) rfl f8
  obtain ⟨p, hp⟩ := Option.isSome_iff_exists.1 f7
  have g3 := g1 p hp
  have hg : gx ((0 : Int), (0 : Int)) nx.1 1 = (1, 1) := by rw [hnx]; rfl
  simp only [sel_and, hg, hq.1, hq.2, hnx]
  have he : eqB ((Ty.int IntKind.i64).pair (Ty.int IntKind.i64)) ((1 : Int), (1 : Int)) ((1 : Int), (1 : Int)) = true := (eqB_iff rfl).2 rfl
  have hs6 : sts.1.length = 6 := by rw [(hsts (by simp [sel_and, hq.1, hq.2])).2]; exact f5
  have hg' : gx ((0 : Int), (0 : Int)) [(0, 2), (1, 1)] 1 = (1, 1) := rfl
  rw [hg']
  refine ⟨fun _ => ⟨by decide, by decide⟩, fun _ => ⟨by decide, by decide⟩, ⟨fun _ => trivial, fun c hc => ?_⟩, fun _ => trivial, fun c hc => ?_⟩ <;>
  · have h9 := (hc (by simp [hs6, he])).2
    rw [f6] at h9
    simp [hs6, he, h9, g3.2.1, g3.2.2, g2.2.1, g2.2.2]
theorem getD_mem {α : Type} {l : List α} {i : Nat} {d : α} (h : i < l.length) : l.getD i d ∈ l := by
  rw [List.getD_eq_getElem?_getD, List.getElem?_eq_getElem h]; exact List.getElem_mem h
theorem vc27_ok (x : dens s27.args) (hw : awf s27.args x) (hpre : s27.pre x) : vc27 x := by
  obtain ⟨hs, hn0, hn1⟩ : soundB (toU x.1) = true ∧ 0 ≤ x.2.1 ∧ x.2.1 ≤ 1000 := hpre
  simp only [vc27]
  generalize toU x.1 = u at hs
  generalize awOf x.1 = aw
  obtain ⟨_, n, raw, _⟩ := x
  change Int at n
  change List Int at raw
  replace hn0 : (0 : Int) ≤ n := hn0
  replace hn1 : n ≤ (1000 : Int) := hn1
  dsimp only
  refine ⟨trivial, fun s0 _ hs0 => ?_⟩
  refine ⟨fun p => 0 ≤ p.2.1 ∧ p.2.1 ≤ n ∧ (p.1.length : Int) = p.2.1 ∧ ∃ q, runTo u aw p.1 p.1.length = some (q, (p.2.2.1, p.2.2.2.1)), fun p => (n - p.2.1).toNat, ⟨by simp, hn0, by simp, [], ?_⟩, ?_⟩
  · show some ([], initF u) = _
    rw [← hs0]
  rintro ⟨ks, h, k, hr, _⟩ _ ⟨h0, h1, h2, q, hq⟩
  simp only [decide_eq_true_eq, decide_eq_false_iff_not] at h0 h1 h2 hq ⊢
  refine ⟨fun _ => trivial, fun r hrs => ⟨fun hc => ⟨trivial, ?_⟩, fun hc => ⟨by omega, by rw [hq]; rfl⟩⟩⟩
  simp only [sel_and, Bool.and_eq_true, decide_eq_true_eq] at hc
  rintro ⟨nx, _⟩ _ hnx
  simp only at hnx
  subst hnx
  have hnl := nextF_len u k hr
  refine ⟨fun p => 0 ≤ p.2.1 ∧ p.2.1 ≤ (nextF u k hr).length ∧ (p.1.length : Int) ≤ p.2.1 ∧ ∀ t ∈ p.1, t ∈ nextF u k hr ∧ allowF aw h t.1 = true, fun p => (nextF u k hr).length - p.2.1.toNat, ⟨by simp, by simp, by simp, by simp⟩, ?_⟩
  rintro ⟨can, j, _⟩ _ ⟨j0, j1, j2, j3⟩
  simp only [decide_eq_true_eq, decide_eq_false_iff_not] at j0 j1 j2 j3 ⊢
  refine ⟨fun hlt => ?_, fun hge => ⟨fun hz => ⟨by omega, by rw [hq]; rfl⟩, fun hz => ?_⟩⟩
  · have hg := gx_get (d := ((0 : Int), (0 : Int))) j0 hlt
    have hmem := List.mem_of_getElem? hg
    refine ⟨fun p => (p.1.length : Int) ≤ j + 1 ∧ ∀ t ∈ p.1, t ∈ nextF u k hr ∧ allowF aw h t.1 = true, ⟨⟨j0, hlt⟩, trivial, fun a _ ha => ⟨fun hat => ⟨⟨j0, hlt⟩, ⟨by simp only [List.length_singleton]; omega, by simp only [List.length_singleton]; omega⟩, ?_⟩, fun haf => ⟨by simp only; omega, j3⟩⟩⟩, fun p _ hp => ?_⟩
    · refine ⟨by simp only [List.length_append, List.length_singleton]; omega, fun t ht => ?_⟩
      rcases List.mem_append.1 ht with ht | ht
      · exact j3 t ht
      · simp at ht; rw [ht]; exact ⟨hmem, by rw [← ha]; exact hat⟩
    · rw [wr (by omega) (by omega)]
      exact ⟨⟨by omega, by omega, hp.1, hp.2⟩, by omega⟩
  · have hcl : 0 < can.length := by omega
    refine ⟨fun p => 0 ≤ p.1 ∧ p.1 < can.length, ⟨fun hlt => ⟨⟨h0, hlt⟩, by omega, by omega, ?_⟩, fun _ => ⟨by simp, by simp only; omega⟩⟩, fun p _ hp => ⟨hp, ?_⟩⟩
    · have hb := tmod_bd (gx (0 : Int) raw h) (n := (can.length : Int)) (by omega)
      rw [wr (by omega) (by omega)]
      exact sm_bd (gx (0 : Int) raw h) (n := (can.length : Int)) (by omega)
    · have hm := getD_mem (l := can) (i := p.1.toNat) (d := ((0 : Int), (0 : Int))) (by omega)
      have hj := j3 _ hm
      have hlt := hc.1
      rw [wr (by omega) (by omega)]
      simp only [List.length_append, List.length_singleton]
      refine ⟨⟨by omega, by omega⟩, ⟨by omega, by omega, by omega, ?_⟩, by omega⟩
      have hgrow := run_grow (t := can.getD p.1.toNat ((0 : Int), (0 : Int))) hq hj.1 (by rw [h2]; exact hj.2)
      simp only [List.length_append, List.length_singleton] at hgrow
      exact ⟨_, hgrow⟩
end Go.Proofs.Ytedfiemhfpcggaa
