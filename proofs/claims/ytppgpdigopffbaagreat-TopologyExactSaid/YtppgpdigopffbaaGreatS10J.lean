/- For every input TopologyExact returns true and leaves its arguments as they were: the whole given statement, no condition. -/
import Derived.Test.YtppgpdigopffbaaGreatK10G
namespace Go.Proofs.YtppgpdigopffbaaGreat
open Go.Vc Go.Gw Go.RowKit Go.ChangeShapes Go.WideShapes Go.ChangeAt
theorem topologyExact_params : ∀ t ∈ Tryz.f5.params.toList, Tryz.prog.readableRec t = true ∧ t < Tryz.prog.types.size := by
  rw [Tryz.params5]
  intro t ht
  simp only [List.mem_cons, List.not_mem_nil, or_false] at ht
  rcases ht with rfl | rfl | rfl | rfl | rfl
  · exact ⟨by kernel_rfl, of_decide_eq_true (by kernel_rfl)⟩
  · exact ⟨by kernel_rfl, of_decide_eq_true (by kernel_rfl)⟩
  · exact ⟨by kernel_rfl, of_decide_eq_true (by kernel_rfl)⟩
  · exact ⟨by kernel_rfl, of_decide_eq_true (by kernel_rfl)⟩
  · exact ⟨by kernel_rfl, of_decide_eq_true (by kernel_rfl)⟩
theorem topologyExact_laid : laidOutB Tryz.prog = true := by kernel_rfl
theorem topologyExact_own : ownKnob Tryz.prog.godebug = none := by kernel_rfl
theorem topologyExact_meets : Meets Tryz.prog 5 (lawSpec s_law19_TopologyExact.args) := ok_law19_TopologyExact
theorem topologyExact_args : argsOk Tryz.prog [3, 23, 22, 22, 3] s_law19_TopologyExact.args = true := by kernel_rfl
set_option maxRecDepth 100000 in
theorem topologyExact_lifted (os : Os) (started : os.Started) (H : Type) (enc : TypeId × Value → H) :
    ReturnsInHanded {} Tryz.checked os 5 .any (Rows.topologyExactSpec.pre6 enc Tryz.prog Tryz.f5 Rows.topologyExactRow.domain false) (Rows.topologyExactSpec.post enc Tryz.prog Tryz.f5 false true false false) := by
  refine returnsInHanded_of_change (C := Tryz.checked) topologyExact_own started (by kernel_rfl) Tryz.func5
    (ChangeSpec.witness6 (enc := enc) (C := Tryz.checked) false ⟨#[], #[.int .i64 0, .slice none 0 0, .slice none 0 0, .slice none 0 0, .int .i64 0], []⟩ 8 (by kernel_rfl) (by kernel_rfl) (by kernel_rfl) (by kernel_rfl)) ?_
  intro W base args ds gs before hval0 hW hcnd _
  have hval : ∀ (j : Nat) t v, Tryz.f5.params[j]? = some t → args[j]? = some v → Value.okWide Tryz.prog W .any base t v := hval0
  have hW' := hW
  obtain ⟨p, q, hA0, hV, _, _, _⟩ := hW
  have hA : DataW.TrodAll enc Tryz.prog W 0 (fun _ => true) true Tryz.f5.params.toList args.toList ds p := hA0
  rw [Tryz.params5] at hA
  obtain ⟨x, hx⟩ := open_args topologyExact_args hA (fun j t v ht hv => hval j t v (by simpa [Tryz.params5] using ht) (by simpa using hv))
  have hargs := hA
  obtain ⟨v0, vs0, d0, ds0, p0, q0, hl, rfl, rfl, h0, r0⟩ := trodAll_cons hargs
  obtain ⟨v1, vs1, d1, ds1, p1, q1, rfl, rfl, rfl, h1, r1⟩ := trodAll_cons r0
  obtain ⟨v2, vs2, d2, ds2, p2, q2, rfl, rfl, rfl, h2, r2⟩ := trodAll_cons r1
  obtain ⟨v3, vs3, d3, ds3, p3, q3, rfl, rfl, rfl, h3, r3⟩ := trodAll_cons r2
  obtain ⟨v4, vs4, d4, ds4, p4, q4, rfl, rfl, rfl, h4, r4⟩ := trodAll_cons r3
  obtain ⟨rfl, rfl, rfl⟩ := trodAll_nil r4
  refine Calls.mono (law_calls (by kernel_rfl) topologyExact_meets hx) fun e W' hh => ?_
  obtain ⟨v, rfl, rfl, hb⟩ := hh
  exact ⟨_, rfl, post_law topologyExact_laid hW' rfl (by kernel_rfl) Tryz.underlying4 rfl topologyExact_params hb⟩
theorem topologyExact_holds : Rows.TopologyExactSaid :=
  OpenClaim.holds_of_wide 5 Tryz.f5 rfl rfl rfl rfl rfl rfl rfl ⟨rfl, rfl, rfl, rfl, rfl⟩ rfl rfl rfl rfl rfl (by kernel_rfl) Tryz.func5 (by kernel_rfl)
    (of_decide_eq_true (by kernel_rfl)) (by unfold Func.isWrapper; first | (rw [if_pos (by decide +kernel)]; kernel_rfl) | (rw [if_neg (by decide +kernel)]; exact ⟨rfl, rfl⟩))
    (fun os started H enc _ => topologyExact_lifted os started H enc)
#print axioms topologyExact_holds
end Go.Proofs.YtppgpdigopffbaaGreat

