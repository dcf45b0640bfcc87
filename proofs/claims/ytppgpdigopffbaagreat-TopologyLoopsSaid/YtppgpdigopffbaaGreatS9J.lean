/- For every input TopologyLoops returns true and leaves its arguments as they were: the whole given statement, no condition. -/
import Derived.Test.YtppgpdigopffbaaGreatK9G
namespace Go.Proofs.YtppgpdigopffbaaGreat
open Go.Vc Go.Gw Go.RowKit Go.ChangeShapes Go.WideShapes Go.ChangeAt
theorem topologyLoops_params : ∀ t ∈ Tryz.f4.params.toList, Tryz.prog.readableRec t = true ∧ t < Tryz.prog.types.size := by
  rw [Tryz.params4]
  intro t ht
  simp only [List.mem_cons, List.not_mem_nil, or_false] at ht
  rcases ht with rfl
  · exact ⟨by kernel_rfl, of_decide_eq_true (by kernel_rfl)⟩
theorem topologyLoops_laid : laidOutB Tryz.prog = true := by kernel_rfl
theorem topologyLoops_own : ownKnob Tryz.prog.godebug = none := by kernel_rfl
theorem topologyLoops_meets : Meets Tryz.prog 4 (lawSpec s_law19_TopologyLoops.args) := ok_law19_TopologyLoops
theorem topologyLoops_args : argsOk Tryz.prog [22] s_law19_TopologyLoops.args = true := by kernel_rfl
set_option maxRecDepth 100000 in
theorem topologyLoops_lifted (os : Os) (started : os.Started) (H : Type) (enc : TypeId × Value → H) :
    ReturnsInHanded {} Tryz.checked os 4 .any (Rows.topologyLoopsSpec.pre6 enc Tryz.prog Tryz.f4 Rows.topologyLoopsRow.domain false) (Rows.topologyLoopsSpec.post enc Tryz.prog Tryz.f4 false true false false) := by
  refine returnsInHanded_of_change (C := Tryz.checked) topologyLoops_own started (by kernel_rfl) Tryz.func4
    (ChangeSpec.witness6 (enc := enc) (C := Tryz.checked) false ⟨#[], #[.slice none 0 0], []⟩ 8 (by kernel_rfl) (by kernel_rfl) (by kernel_rfl) (by kernel_rfl)) ?_
  intro W base args ds gs before hval0 hW hcnd _
  have hval : ∀ (j : Nat) t v, Tryz.f4.params[j]? = some t → args[j]? = some v → Value.okWide Tryz.prog W .any base t v := hval0
  have hW' := hW
  obtain ⟨p, q, hA0, hV, _, _, _⟩ := hW
  have hA : DataW.TrodAll enc Tryz.prog W 0 (fun _ => true) true Tryz.f4.params.toList args.toList ds p := hA0
  rw [Tryz.params4] at hA
  obtain ⟨x, hx⟩ := open_args topologyLoops_args hA (fun j t v ht hv => hval j t v (by simpa [Tryz.params4] using ht) (by simpa using hv))
  have hargs := hA
  obtain ⟨v0, vs0, d0, ds0, p0, q0, hl, rfl, rfl, h0, r0⟩ := trodAll_cons hargs
  obtain ⟨rfl, rfl, rfl⟩ := trodAll_nil r0
  refine Calls.mono (law_calls (by kernel_rfl) topologyLoops_meets hx) fun e W' hh => ?_
  obtain ⟨v, rfl, rfl, hb⟩ := hh
  exact ⟨_, rfl, post_law topologyLoops_laid hW' rfl (by kernel_rfl) Tryz.underlying4 rfl topologyLoops_params hb⟩
theorem topologyLoops_holds : Rows.TopologyLoopsSaid :=
  OpenClaim.holds_of_wide 4 Tryz.f4 rfl rfl rfl rfl rfl rfl rfl ⟨rfl, rfl, rfl, rfl, rfl⟩ rfl rfl rfl rfl rfl (by kernel_rfl) Tryz.func4 (by kernel_rfl)
    (of_decide_eq_true (by kernel_rfl)) (by unfold Func.isWrapper; first | (rw [if_pos (by decide +kernel)]; kernel_rfl) | (rw [if_neg (by decide +kernel)]; exact ⟨rfl, rfl⟩))
    (fun os started H enc _ => topologyLoops_lifted os started H enc)
#print axioms topologyLoops_holds
end Go.Proofs.YtppgpdigopffbaaGreat

