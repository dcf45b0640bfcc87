/- For every input SymmetryUnmerges returns true and leaves its arguments as they were: the whole given statement, no condition. -/
import Derived.Test.YtopgdjjiilkfgaaKG
/- SymmetryUnmerges. -/
namespace Go.Proofs.Ytopgdjjiilkfgaa
open Go.Vc Go.Gw
set_option maxRecDepth 4000
theorem vc_law34_SymmetryUnmerges_ok (x : dens s_law34_SymmetryUnmerges.args) (hw : awf s_law34_SymmetryUnmerges.args x) (_ : s_law34_SymmetryUnmerges.pre x) : vc_law34_SymmetryUnmerges x := by
  obtain ⟨u, hours, count, arcs, raw, at_, by_, near, _⟩ := x
  change Int at hours count at_ by_
  change List Arc at arcs
  change List (List Int) at raw
  change Bool at near
  simp only [vc_law34_SymmetryUnmerges]
  refine ⟨fun _ => trivial, ?_⟩
  rintro ⟨r, _⟩ hr
  change Bool at r
  simp only at hr ⊢
  refine ⟨fun _ => trivial, fun hc => ?_⟩
  rw [sel_or, sel_or, Bool.or_eq_false_iff, Bool.or_eq_false_iff] at hc
  obtain ⟨⟨hc1, hc2⟩, hc3⟩ := hc
  have hr := (hr (by rw [sel_or, hc1, hc2]; rfl)).2
  rw [Bool.not_eq_false'] at hc3
  rw [hc3] at hr
  have hk := of_decide_eq_true hr.symm
  have hc2 := of_decide_eq_false hc2
  clear hr
  refine ⟨fun q => q.2.2.1.length ≤ 1000, ⟨fun _ => ⟨trivial, ?_⟩, fun _ => ?_⟩, ?_⟩
  · rintro ⟨v, _⟩ _ ⟨hs, _⟩
    simp only at hs ⊢
    refine ⟨fun p => 0 ≤ p.1 ∧ p.1 ≤ 26, ⟨fun h => ⟨⟨Int.le_refl _, of_decide_eq_true h⟩, by omega, ?_⟩, fun _ => ⟨by omega, by omega⟩⟩, ?_⟩
    · have := hk.2 _ (List.mem_of_getElem? (gx_get (d := ([] : List Int)) (Int.le_refl 0) (of_decide_eq_true h)))
      simp only
      omega
    rintro ⟨H, _⟩ _ ⟨hH0, hH1⟩
    change Int at H
    simp only at hH0 hH1 ⊢
    refine ⟨fun p => (p.1.length : Int) = p.2.1 ∧ 0 ≤ p.2.1 ∧ p.2.1 ≤ (raw.length : Int), fun p => ((raw.length : Int) - p.2.1).toNat, ⟨rfl, by simp only; omega, by simp only; omega⟩, ?_⟩
    rintro ⟨ks, i, _⟩ _ ⟨e1, e2, e3⟩
    change Int at i
    change List (List Int) at ks
    simp only at e1 e2 e3 ⊢
    refine ⟨fun h => ?_, fun h => ?_⟩
    · have h := of_decide_eq_true h
      have key : ∀ k : List Int, ((ks.length + [k].length) * 24 ≤ 140737488355328 ∧ ks.length + [k].length ≤ 9223372036854775807) ∧ (((ks ++ [k]).length : Int) = IntKind.i64.wrap (i + 1) ∧ 0 ≤ IntKind.i64.wrap (i + 1) ∧ IntKind.i64.wrap (i + 1) ≤ (raw.length : Int)) ∧ ((raw.length : Int) - IntKind.i64.wrap (i + 1)).toNat < ((raw.length : Int) - i).toNat := by
        intro k
        rw [wr (by omega) (by omega), List.length_append, List.length_singleton]
        omega
      refine ⟨⟨e2, h⟩, ⟨⟨hs, hH0, by omega⟩, ?_⟩, ⟨hs, hH0, by omega⟩, ?_⟩
      · rintro ⟨k, _⟩ _ _; exact key k
      · rintro ⟨k, _⟩ _ _; exact key k
    · have h := of_decide_eq_false h
      refine ⟨by omega, ?_⟩
      rintro ⟨m, e, _⟩ _ hm
      change List Arc at m
      change Int at e
      simp only at hm ⊢
      have hml := merge_le hm
      refine ⟨fun _ => by decide, fun h2 => ?_, fun _ => by omega⟩
      rw [sel_and, Bool.and_eq_true] at h2
      have h2 := of_decide_eq_true h2.1
      refine ⟨h2, ?_⟩
      rintro ⟨j, _⟩ _ ⟨hj0, hj1⟩
      refine ⟨⟨hj0, hj1⟩, by decide, ⟨hj0, hj1⟩, ?_⟩
      rw [List.length_set]
      omega
  · simp only; omega
  · rintro ⟨hours, count, arcs, pu⟩ _ hJ
    change Int at hours count
    change List Arc at arcs
    simp only at hJ ⊢
    refine ⟨trivial, ?_⟩
    rintro ⟨l, e, _⟩ _ hun
    change List (List Int) at l
    change Int at e
    simp only at hun ⊢
    generalize toU _ = U at hun ⊢
    generalize awOf _ = aw at hun ⊢
    refine ⟨trivial, ?_⟩
    rintro ⟨aw1, _⟩ _ haw
    simp only at haw ⊢
    subst haw
    refine ⟨fun h => (by cases h), fun _ => ⟨trivial, ?_⟩⟩
    rintro ⟨sb, _⟩ _ hsb
    simp only at hsb ⊢
    subst hsb
    refine ⟨fun h => ?_, fun h => ?_⟩
    · rw [Bool.not_eq_true'] at h
      obtain ⟨h1, h2⟩ := hun.1 h
      rw [h1, h2]; rfl
    rw [Bool.not_eq_false'] at h
    have hs : soundB U = true := h
    have hc : sel (sel (sel (decide (hours < 1)) true (decide (24 < hours))) true (decide (count < 0))) true (decide (16 < count)) = !decide (1 ≤ hours ∧ hours ≤ 24 ∧ 0 ≤ count ∧ count ≤ 16) := by
      rw [sel_or, sel_or, sel_or, Bool.eq_iff_iff]
      simp only [Bool.or_eq_true, decide_eq_true_eq, Bool.not_eq_true', decide_eq_false_iff_not]
      omega
    rw [hc]
    refine ⟨fun h2 => ?_, fun h2 => ?_⟩
    · rw [Bool.not_eq_true', decide_eq_false_iff_not] at h2
      obtain ⟨h3, h4⟩ := hun.2.1 hs h2
      rw [h3, h4]; rfl
    rw [Bool.not_eq_false', decide_eq_true_eq] at h2
    obtain ⟨b1, b2, b3, b4⟩ := h2
    refine ⟨⟨hs, b1, b2, b3, b4, hJ⟩, ?_⟩
    rintro ⟨fl, _⟩ _ hfl
    change Bool at fl
    simp only at hfl ⊢
    obtain ⟨u1, u2⟩ := unm_law hs b1 b2 b3 b4 hun
    refine ⟨fun h2 => ?_, fun h2 => ?_⟩
    · rw [Bool.not_eq_true'] at h2
      obtain ⟨h3, h4⟩ := u1 (fun hf => by rw [hfl.2 hf] at h2; cases h2)
      rw [h3, h4]; rfl
    rw [Bool.not_eq_false'] at h2
    obtain ⟨he, hlen, hlh, hsh, hd, ws, hws, hm⟩ := u2 (hfl.1 h2)
    subst he
    refine ⟨fun h3 => ?_, fun _ => ?_⟩
    · rw [sel_or, Bool.or_eq_true] at h3
      rcases h3 with h3 | h3
      · exact absurd rfl (of_decide_eq_true h3)
      · exact absurd hlen (of_decide_eq_true h3)
    refine ⟨fun p => 0 ≤ p.1 ∧ p.1 ≤ count, fun p => (count - p.1).toNat, ⟨Int.le_refl _, b3⟩, ?_⟩
    rintro ⟨i, _⟩ _ ⟨i0, i1⟩
    change Int at i
    simp only at i0 i1 ⊢
    refine ⟨fun h3 => ?_, fun h3 => ?_⟩
    · have h3 := of_decide_eq_true h3
      have hil : i < (l.length : Int) := by omega
      have g1 := gx_get (d := ([] : List Int)) i0 hil
      have m1 := hlh _ (List.mem_of_getElem? g1)
      have hpr : 0 < i → 0 ≤ i - 1 ∧ i - 1 < (l.length : Int) ∧ ((gx [] l (i - 1)).length : Int) = hours ∧ 0 ≤ cmpL (gx [] l (i - 1)) (gx [] l i) := by
        intro hi
        have g2 := gx_get (d := ([] : List Int)) (show 0 ≤ i - 1 by omega) (show i - 1 < (l.length : Int) by omega)
        refine ⟨by omega, by omega, hlh _ (List.mem_of_getElem? g2), ?_⟩
        obtain ⟨a1, a2⟩ := List.getElem?_eq_some_iff.1 g1
        obtain ⟨c1, c2⟩ := List.getElem?_eq_some_iff.1 g2
        have := List.pairwise_iff_getElem.1 hd (i - 1).toNat i.toNat c1 a1 (by omega)
        rw [a2, c2] at this
        exact this
      rw [wr (by omega) (by omega), wr (by omega) (by omega)]
      refine ⟨⟨i0, hil⟩, fun q => ?_, fun q => ⟨i0, hil⟩, fun q => ?_, ?_⟩
      · have := hpr (of_decide_eq_true q.1); exact ⟨this.1, this.2.1⟩
      · have := hpr (of_decide_eq_true q.1); omega
      rintro ⟨c, _⟩ hcmp
      change Int at c
      simp only at hcmp ⊢
      refine ⟨fun q => ?_, fun _ => ⟨⟨by omega, by omega⟩, by omega⟩⟩
      exfalso
      rw [sel_or, sel_and, Bool.or_eq_true, Bool.and_eq_true] at q
      rcases q with q | ⟨q1, q2⟩
      · exact absurd m1 (of_decide_eq_true q)
      · have q2 := of_decide_eq_true q2
        have := (hcmp ⟨q1, decide_eq_false (fun hh => hh m1)⟩).2
        have := (hpr (of_decide_eq_true q1)).2.2.2
        omega
    · refine ⟨by omega, ?_⟩
      rintro ⟨m2, e2, _⟩ _ hm2
      change List Arc at m2
      change Int at e2
      simp only at hm2 ⊢
      obtain ⟨g1, g2⟩ := hm2.2.2.2 hs hsh ws hws
      have hmm := merge_unique g2 hm
      subst g1
      refine ⟨fun _ => trivial, ?_⟩
      rintro ⟨sa, _⟩ hsa
      change Bool at sa
      simp only at hsa ⊢
      rw [sel_and, sel_or, decide_true, Bool.true_and, Bool.or_eq_true]
      cases hq : sel (decide (count = 0)) (decide ((arcs.length : Int) = 0)) false with
      | true => exact .inl rfl
      | false =>
        right
        rw [(hsa ⟨hq, decide_true _⟩).2]
        exact decide_eq_true hmm
end Go.Proofs.Ytopgdjjiilkfgaa
/- Every function does what is said of it. -/
namespace Go.Proofs.Ytopgdjjiilkfgaa
open Go.Vc Go.Gw
theorem ok_law34_SymmetryUnmerges : Meets Try.prog 3 s_law34_SymmetryUnmerges := m_law34_SymmetryUnmerges (spOk_cons ok_law34_kindred (spOk_cons ok_r24_Near (spOk_cons ok_r24_Choose (spOk_cons ok_r34_Merge (spOk_cons ok_make_Mod (spOk_cons ok_symmetry_Unmerge (spOk_cons ok_law34_awake (spOk_cons ok_r24_Sound (spOk_cons ok_r34_Flow (spOk_cons ok_r34_Compare (spOk_cons ok_r34_SameArcs (spOk_nil)))))))))))) vc_law34_SymmetryUnmerges_ok
end Go.Proofs.Ytopgdjjiilkfgaa
/- For every input SymmetryUnmerges returns true and leaves its arguments as they were: the whole given statement, no condition. -/
namespace Go.Proofs.Ytopgdjjiilkfgaa
open Go.Vc Go.Gw Go.RowKit Go.ChangeShapes Go.WideShapes Go.ChangeAt
theorem symmetryUnmerges_params : ∀ t ∈ Try.f3.params.toList, Try.prog.readableRec t = true ∧ t < Try.prog.types.size := by
  rw [Try.params3]
  intro t ht
  simp only [List.mem_cons, List.not_mem_nil, or_false] at ht
  rcases ht with rfl | rfl | rfl | rfl | rfl | rfl | rfl | rfl
  · exact ⟨by kernel_rfl, of_decide_eq_true (by kernel_rfl)⟩
  · exact ⟨by kernel_rfl, of_decide_eq_true (by kernel_rfl)⟩
  · exact ⟨by kernel_rfl, of_decide_eq_true (by kernel_rfl)⟩
  · exact ⟨by kernel_rfl, of_decide_eq_true (by kernel_rfl)⟩
  · exact ⟨by kernel_rfl, of_decide_eq_true (by kernel_rfl)⟩
  · exact ⟨by kernel_rfl, of_decide_eq_true (by kernel_rfl)⟩
  · exact ⟨by kernel_rfl, of_decide_eq_true (by kernel_rfl)⟩
  · exact ⟨by kernel_rfl, of_decide_eq_true (by kernel_rfl)⟩
theorem symmetryUnmerges_laid : laidOutB Try.prog = true := by kernel_rfl
theorem symmetryUnmerges_own : ownKnob Try.prog.godebug = none := by kernel_rfl
theorem symmetryUnmerges_meets : Meets Try.prog 3 (lawSpec s_law34_SymmetryUnmerges.args) := ok_law34_SymmetryUnmerges
theorem symmetryUnmerges_args : argsOk Try.prog [25, 3, 3, 26, 27, 3, 3, 4] s_law34_SymmetryUnmerges.args = true := by kernel_rfl
set_option maxRecDepth 100000 in
theorem symmetryUnmerges_lifted (os : Os) (started : os.Started) (H : Type) (enc : TypeId × Value → H) :
    ReturnsInHanded {} Try.checked os 3 .any (Rows.symmetryUnmergesSpec.pre6 enc Try.prog Try.f3 Rows.symmetryUnmergesRow.domain false) (Rows.symmetryUnmergesSpec.post enc Try.prog Try.f3 false true false false) := by
  refine returnsInHanded_of_change (C := Try.checked) symmetryUnmerges_own started (by kernel_rfl) Try.func3
    (ChangeSpec.witness6 (enc := enc) (C := Try.checked) false ⟨#[], #[.agg #[.string ⟨#[]⟩, .int .i64 0, .int .i64 0, .int .i64 0, .slice none 0 0, .int .i64 0, .int .i64 0, .int .i64 0, .int .i64 0, .int .i64 0, .int .i64 0, .int .i64 0, .int .i64 0, .int .i64 0, .int .i64 0, .int .i64 0, .int .i64 0, .int .i64 0, .slice none 0 0, .int .i64 0, .int .i64 0, .int .i64 0], .int .i64 0, .int .i64 0, .slice none 0 0, .slice none 0 0, .int .i64 0, .int .i64 0, .bool false], []⟩ 8 (by kernel_rfl) (by kernel_rfl) (by kernel_rfl) (by kernel_rfl)) ?_
  intro W base args ds gs before hval0 hW hcnd _
  have hval : ∀ (j : Nat) t v, Try.f3.params[j]? = some t → args[j]? = some v → Value.okWide Try.prog W .any base t v := hval0
  have hW' := hW
  obtain ⟨p, q, hA0, hV, _, _, _⟩ := hW
  have hA : DataW.TrodAll enc Try.prog W 0 (fun _ => true) true Try.f3.params.toList args.toList ds p := hA0
  rw [Try.params3] at hA
  obtain ⟨x, hx⟩ := open_args symmetryUnmerges_args hA (fun j t v ht hv => hval j t v (by simpa [Try.params3] using ht) (by simpa using hv))
  have hargs := hA
  obtain ⟨v0, vs0, d0, ds0, p0, q0, hl, rfl, rfl, h0, r0⟩ := trodAll_cons hargs
  obtain ⟨v1, vs1, d1, ds1, p1, q1, rfl, rfl, rfl, h1, r1⟩ := trodAll_cons r0
  obtain ⟨v2, vs2, d2, ds2, p2, q2, rfl, rfl, rfl, h2, r2⟩ := trodAll_cons r1
  obtain ⟨v3, vs3, d3, ds3, p3, q3, rfl, rfl, rfl, h3, r3⟩ := trodAll_cons r2
  obtain ⟨v4, vs4, d4, ds4, p4, q4, rfl, rfl, rfl, h4, r4⟩ := trodAll_cons r3
  obtain ⟨v5, vs5, d5, ds5, p5, q5, rfl, rfl, rfl, h5, r5⟩ := trodAll_cons r4
  obtain ⟨v6, vs6, d6, ds6, p6, q6, rfl, rfl, rfl, h6, r6⟩ := trodAll_cons r5
  obtain ⟨v7, vs7, d7, ds7, p7, q7, rfl, rfl, rfl, h7, r7⟩ := trodAll_cons r6
  obtain ⟨rfl, rfl, rfl⟩ := trodAll_nil r7
  refine Calls.mono (law_calls (by kernel_rfl) symmetryUnmerges_meets hx) fun e W' hh => ?_
  obtain ⟨v, rfl, rfl, hb⟩ := hh
  exact ⟨_, rfl, post_law symmetryUnmerges_laid hW' rfl (by kernel_rfl) Try.underlying4 rfl symmetryUnmerges_params hb⟩
theorem symmetryUnmerges_holds : Rows.SymmetryUnmergesSaid :=
  OpenClaim.holds_of_wide 3 Try.f3 rfl rfl rfl rfl rfl rfl rfl ⟨rfl, rfl, rfl, rfl, rfl⟩ rfl rfl rfl rfl rfl (by kernel_rfl) Try.func3 (by kernel_rfl)
    (of_decide_eq_true (by kernel_rfl)) (by unfold Func.isWrapper; first | (rw [if_pos (by decide +kernel)]; kernel_rfl) | (rw [if_neg (by decide +kernel)]; exact ⟨rfl, rfl⟩))
    (fun os started H enc _ => symmetryUnmerges_lifted os started H enc)
#print axioms symmetryUnmerges_holds
end Go.Proofs.Ytopgdjjiilkfgaa
