/- For every input TopologyForest returns true and leaves its arguments as they were: the whole given statement, no condition. -/
import Derived.Test.YtppgpdigopffbaaGreatK8F
namespace Go.Proofs.YtppgpdigopffbaaGreat
open Go.Vc Go.Gw Go.RowKit Go.ChangeShapes Go.WideShapes Go.ChangeAt
theorem topologyForest_params : ∀ t ∈ Tryz.f3.params.toList, Tryz.prog.readableRec t = true ∧ t < Tryz.prog.types.size := by
  rw [Tryz.params3]
  intro t ht
  simp only [List.mem_cons, List.not_mem_nil, or_false] at ht
  rcases ht with rfl
  · exact ⟨by kernel_rfl, of_decide_eq_true (by kernel_rfl)⟩
theorem topologyForest_laid : laidOutB Tryz.prog = true := by kernel_rfl
theorem topologyForest_own : ownKnob Tryz.prog.godebug = none := by kernel_rfl
theorem topologyForest_meets : Meets Tryz.prog 3 (lawSpec s_law19_TopologyForest.args) := ok_law19_TopologyForest
theorem topologyForest_args : argsOk Tryz.prog [22] s_law19_TopologyForest.args = true := by kernel_rfl
set_option maxRecDepth 100000 in
theorem topologyForest_lifted (os : Os) (started : os.Started) (H : Type) (enc : TypeId × Value → H) :
    ReturnsInHanded {} Tryz.checked os 3 .any (Rows.topologyForestSpec.pre6 enc Tryz.prog Tryz.f3 Rows.topologyForestRow.domain false) (Rows.topologyForestSpec.post enc Tryz.prog Tryz.f3 false true false false) := by
  refine returnsInHanded_of_change (C := Tryz.checked) topologyForest_own started (by kernel_rfl) Tryz.func3
    (ChangeSpec.witness6 (enc := enc) (C := Tryz.checked) false ⟨#[], #[.slice none 0 0], []⟩ 8 (by kernel_rfl) (by kernel_rfl) (by kernel_rfl) (by kernel_rfl)) ?_
  intro W base args ds gs before hval0 hW hcnd _
  have hval : ∀ (j : Nat) t v, Tryz.f3.params[j]? = some t → args[j]? = some v → Value.okWide Tryz.prog W .any base t v := hval0
  have hW' := hW
  obtain ⟨p, q, hA0, hV, _, _, _⟩ := hW
  have hA : DataW.TrodAll enc Tryz.prog W 0 (fun _ => true) true Tryz.f3.params.toList args.toList ds p := hA0
  rw [Tryz.params3] at hA
  obtain ⟨x, hx⟩ := open_args topologyForest_args hA (fun j t v ht hv => hval j t v (by simpa [Tryz.params3] using ht) (by simpa using hv))
  have hargs := hA
  obtain ⟨v0, vs0, d0, ds0, p0, q0, hl, rfl, rfl, h0, r0⟩ := trodAll_cons hargs
  obtain ⟨rfl, rfl, rfl⟩ := trodAll_nil r0
  refine Calls.mono (law_calls (by kernel_rfl) topologyForest_meets hx) fun e W' hh => ?_
  obtain ⟨v, rfl, rfl, hb⟩ := hh
  exact ⟨_, rfl, post_law topologyForest_laid hW' rfl (by kernel_rfl) Tryz.underlying4 rfl topologyForest_params hb⟩
theorem topologyForest_holds : Rows.TopologyForestSaid :=
  OpenClaim.holds_of_wide 3 Tryz.f3 rfl rfl rfl rfl rfl rfl rfl ⟨rfl, rfl, rfl, rfl, rfl⟩ rfl rfl rfl rfl rfl (by kernel_rfl) Tryz.func3 (by kernel_rfl)
    (of_decide_eq_true (by kernel_rfl)) (by unfold Func.isWrapper; first | (rw [if_pos (by decide +kernel)]; kernel_rfl) | (rw [if_neg (by decide +kernel)]; exact ⟨rfl, rfl⟩))
    (fun os started H enc _ => topologyForest_lifted os started H enc)
#print axioms topologyForest_holds
end Go.Proofs.YtppgpdigopffbaaGreat

