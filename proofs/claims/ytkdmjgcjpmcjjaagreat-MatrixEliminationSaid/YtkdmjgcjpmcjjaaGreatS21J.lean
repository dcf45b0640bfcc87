/- For every input MatrixElimination returns true and leaves its arguments as they were: the whole given statement, no condition. -/
import Derived.Test.YtkdmjgcjpmcjjaaGreatK2EH
namespace Go.Proofs.YtkdmjgcjpmcjjaaGreat
open Go.Vc Go.Gw Go.RowKit Go.ChangeShapes Go.WideShapes Go.ChangeAt
theorem A8a : ∀ t ∈ Tryz.f9.params.toList, Tryz.prog.readableRec t = true /\ t < Tryz.prog.types.size := by
  rw [Tryz.params9]
  intro t ht
  simp only [List.mem_cons, List.not_mem_nil, or_false] at ht
  rcases ht with rfl | rfl | rfl
  . exact ⟨by kernel_rfl, of_decide_eq_true (by kernel_rfl)⟩
  . exact ⟨by kernel_rfl, of_decide_eq_true (by kernel_rfl)⟩
  . exact ⟨by kernel_rfl, of_decide_eq_true (by kernel_rfl)⟩
theorem B0k : laidOutB Tryz.prog = true := by kernel_rfl
theorem B2o : ownKnob Tryz.prog.godebug = none := by kernel_rfl
theorem A8v : B9 Tryz.prog 9 (E4r C5.args) := A5l
theorem B0u : E6q Tryz.prog [25, 3, 3] C5.args = true := by kernel_rfl
set_option maxRecDepth 100000 in
theorem A7r (os : Os) (started : os.Started) (H : Type) (enc : TypeId × Value -> H) :
    ReturnsInHanded {} Tryz.checked os 9 .any (Rows.matrixEliminationSpec.pre6 enc Tryz.prog Tryz.f9 Rows.matrixEliminationRow.domain false) (Rows.matrixEliminationSpec.post enc Tryz.prog Tryz.f9 false true false false) := by
  refine returnsInHanded_of_change (C := Tryz.checked) B2o started (by kernel_rfl) Tryz.func9
    (ChangeSpec.witness6 (enc := enc) (C := Tryz.checked) false ⟨#[], #[.slice none 0 0, .int .i64 0, .int .i64 0], []⟩ 8 (by kernel_rfl) (by kernel_rfl) (by kernel_rfl) (by kernel_rfl)) ?_
  intro W base args ds gs before hval0 hW hcnd _
  have hval : ∀ (j : Nat) t v, Tryz.f9.params[j]? = some t -> args[j]? = some v -> Value.okWide Tryz.prog W .any base t v := hval0
  have hW' := hW
  obtain ⟨p, q, hA0, hV, _, _, _⟩ := hW
  have hA : DataW.TrodAll enc Tryz.prog W 0 (fun _ => true) true Tryz.f9.params.toList args.toList ds p := hA0
  rw [Tryz.params9] at hA
  obtain ⟨x, hx⟩ := E0f B0u hA (fun j t v ht hv => hval j t v (by simpa [Tryz.params9] using ht) (by simpa using hv))
  have hargs := hA
  obtain ⟨v0, vs0, d0, ds0, p0, q0, hl, rfl, rfl, h0, r0⟩ := trodAll_cons hargs
  obtain ⟨v1, vs1, d1, ds1, p1, q1, rfl, rfl, rfl, h1, r1⟩ := trodAll_cons r0
  obtain ⟨v2, vs2, d2, ds2, p2, q2, rfl, rfl, rfl, h2, r2⟩ := trodAll_cons r1
  obtain ⟨rfl, rfl, rfl⟩ := trodAll_nil r2
  refine Calls.mono (F4d (by kernel_rfl) A8v hx) fun e W' hh => ?_
  obtain ⟨v, rfl, rfl, hb⟩ := hh
  exact ⟨_, rfl, F6h B0k hW' rfl (by kernel_rfl) Tryz.underlying4 rfl A8a hb⟩
theorem B3y : (laidOutB Tryz.pinned.checked.prog) = true := by kernel_rfl
theorem B4x : (mapsRowed Tryz.pinned.checked.prog) = true := by kernel_rfl
theorem B4b : (Rows.matrixEliminationRow.inPlace == Tryz.pinned.checked.prog.inPlace 9) = true := by kernel_rfl
theorem B4s : (Rows.matrixEliminationRow.unfollowed == Tryz.pinned.checked.prog.unfollowed 9) = true := by kernel_rfl
theorem B4p : (Rows.matrixEliminationRow.recurses == Tryz.pinned.checked.prog.recurses 9) = true := by kernel_rfl
theorem B4e : (Rows.matrixEliminationRow.named == Tryz.pinned.checked.prog.varsNamed 9) = true := by kernel_rfl
theorem B5c : (Rows.matrixEliminationRow.lifted == Tryz.pinned.checked.prog.liftsFinal) = true := by kernel_rfl
theorem B4i : (Tryz.pinned.checked.prog.stopsHeard) = true := by kernel_rfl
theorem B4f : (Tryz.pinned.checked.prog.mayEnter) = true := by kernel_rfl
theorem B4y : (Rows.matrixEliminationRow.plainKeys == Tryz.pinned.checked.prog.plainKeys) = true := by kernel_rfl
theorem B1m : (Tryz.pinned.checked.prog.make == some Rows.matrixEliminationRow.make) = true := by kernel_rfl
theorem A7g : joinedFacts Tryz.pinned.checked.prog 9 Tryz.f9 Rows.matrixEliminationSpec Rows.matrixEliminationRow = true := by
  unfold joinedFacts
  rw [B3y, B4x, B4b, B4s, B4p, B4e, B5c, B4i, B4f, B4y, B1m]
  kernel_rfl
theorem A8p : Tryz.pinned.checked.prog.funcNamed Rows.matrixEliminationRow.func = some 9 := by kernel_rfl
theorem B0n : Tryz.f9.isInstance Tryz.pinned.checked.prog Rows.matrixEliminationRow.origin Rows.matrixEliminationRow.targs := of_decide_eq_true (by kernel_rfl)
theorem B0i : Tryz.f9.isWrapper Tryz.pinned.checked.prog Rows.matrixEliminationRow.wrapper Rows.matrixEliminationRow.mainSum := by unfold Func.isWrapper; first | (rw [if_pos (by decide +kernel)]; kernel_rfl) | (rw [if_neg (by decide +kernel)]; exact ⟨rfl, rfl⟩)
theorem matrixElimination_holds : Rows.MatrixEliminationSaid :=
  OpenClaim.holds_of_wide 9 Tryz.f9 rfl rfl rfl rfl rfl rfl rfl ⟨rfl, rfl, rfl, rfl, rfl⟩ rfl rfl rfl rfl rfl A8p Tryz.func9 A7g
    B0n B0i
    (fun os started H enc _ => A7r os started H enc)
#print axioms matrixElimination_holds
end Go.Proofs.YtkdmjgcjpmcjjaaGreat
