/- For every input whose parts are together of bulk at most 1048576, MatrixAlgebra returns true and leaves its arguments as they were: the whole given statement of the second form, no further condition. -/
import Derived.JoinedCond
import Derived.Test.YtkdmjgcjpmcjjaaGreatK24H
namespace Go.Proofs.YtkdmjgcjpmcjjaaGreat
open Go.Vc Go.Gw Go.RowKit Go.ChangeShapes Go.WideShapes Go.ChangeAt
theorem B3k : ∀ t ∈ Tryz.f10.params.toList, Tryz.prog.readableRec t = true /\ t < Tryz.prog.types.size := by
  rw [Tryz.params10]
  intro t ht
  simp only [List.mem_cons, List.not_mem_nil, or_false] at ht
  rcases ht with rfl | rfl
  . exact ⟨by kernel_rfl, of_decide_eq_true (by kernel_rfl)⟩
  . exact ⟨by kernel_rfl, of_decide_eq_true (by kernel_rfl)⟩
theorem B8z : laidOutB Tryz.prog = true := by kernel_rfl
theorem C2j : ownKnob Tryz.prog.godebug = none := by kernel_rfl
theorem A5q {H : Type} : F6r (H := H) Rows.uptoBulk Rows.uptoBulkAll := ⟨fun d => by cases d with | lit l => cases l <;> simp [Rows.uptoBulk] | _ => simp [Rows.uptoBulk], by simp [Rows.uptoBulkAll], fun d r => by simp [Rows.uptoBulkAll], fun e s => by simp [Rows.uptoBulk], fun l => by simp [Rows.uptoBulk]⟩
theorem B5j : C0 Tryz.prog 10 (D7w B8.args B8.pre) := B0f
theorem C0z : E5r Tryz.prog [25, 31] B8.args = true := by kernel_rfl
set_option maxRecDepth 100000 in
theorem B4e (os : Os) (started : os.Started) (H : Type) (enc : TypeId × Value -> H) (F : Stop.Interp) :
    ReturnsInHanded {} Tryz.checked os 10 .any ((Rows.OpenSpec.upto Rows.matrixAlgebraSpec).pre6 enc Tryz.prog Tryz.f10 Rows.matrixAlgebraUptoRow.domain false) (((Rows.OpenSpec.upto Rows.matrixAlgebraSpec).at F).post enc Tryz.prog Tryz.f10 false true false false) := by
  refine returnsInHanded_of_cond (C := Tryz.checked) (s := Rows.OpenSpec.upto Rows.matrixAlgebraSpec) (k := Rows.uptoSmall) rfl C2j started (by kernel_rfl) Tryz.func10
    (OpenSpec.witness (enc := enc) (C := Tryz.checked) (s := Rows.OpenSpec.upto Rows.matrixAlgebraSpec) (k := Rows.uptoSmall) rfl false ⟨#[], #[.slice none 0 0, .agg #[.bool false, .slice none 0 0, .slice none 0 0]], []⟩ 8 (by kernel_rfl) (by kernel_rfl) (by kernel_rfl) (x := ([.nil, .agg [.agg [.lit (.bool false), .nil], .nil]], [], [])) (by kernel_rfl) rfl (by kernel_rfl)) ?_
  intro W base args ds gs before hval0 hW hcnd hk _
  have hval : ∀ (j : Nat) t v, Tryz.f10.params[j]? = some t -> args[j]? = some v -> Value.okWide Tryz.prog W .any base t v := hval0
  have hW' := hW
  obtain ⟨p, q, hA0, hV, _, _, _⟩ := hW
  have hA : DataW.TrodAll enc Tryz.prog W 0 (fun _ => true) true Tryz.f10.params.toList args.toList ds p := hA0
  rw [Tryz.params10] at hA
  obtain ⟨x, hx, hm⟩ := D4y A5q C0z hA (fun j t v ht hv => hval j t v (by simpa [Tryz.params10] using ht) (by simpa using hv))
  have hk : Rows.uptoBulkAll (ds ++ gs) <= 1048576 := of_decide_eq_true hk
  rw [A5q.app] at hk
  have hp : B8.pre x := C3c x (by omega)
  have hargs := hA
  obtain ⟨v0, vs0, d0, ds0, p0, q0, hl, rfl, rfl, h0, r0⟩ := trodAll_cons hargs
  obtain ⟨v1, vs1, d1, ds1, p1, q1, rfl, rfl, rfl, h1, r1⟩ := trodAll_cons r0
  obtain ⟨rfl, rfl, rfl⟩ := trodAll_nil r1
  refine Calls.mono (E7d (by kernel_rfl) B5j hx hp) fun e W' hh => ?_
  obtain ⟨v, rfl, rfl, hb⟩ := hh
  exact ⟨_, rfl, F3u B8z hW' rfl (by kernel_rfl) Tryz.underlying4 rfl B3k hb⟩
theorem C6r : (laidOutB Tryz.pinned.checked.prog) = true := by kernel_rfl
theorem C6f : (mapsRowed Tryz.pinned.checked.prog) = true := by kernel_rfl
theorem C6w : (Rows.matrixAlgebraUptoRow.inPlace == Tryz.pinned.checked.prog.inPlace 10) = true := by kernel_rfl
theorem C6u : (Rows.matrixAlgebraUptoRow.unfollowed == Tryz.pinned.checked.prog.unfollowed 10) = true := by kernel_rfl
theorem C7f : (Rows.matrixAlgebraUptoRow.recurses == Tryz.pinned.checked.prog.recurses 10) = true := by kernel_rfl
theorem C7e : (Rows.matrixAlgebraUptoRow.named == Tryz.pinned.checked.prog.varsNamed 10) = true := by kernel_rfl
theorem C6t : (Rows.matrixAlgebraUptoRow.lifted == Tryz.pinned.checked.prog.liftsFinal) = true := by kernel_rfl
theorem C6g : (Tryz.pinned.checked.prog.stopsHeard) = true := by kernel_rfl
theorem C6e : (Tryz.pinned.checked.prog.mayEnter) = true := by kernel_rfl
theorem C5u : (Rows.matrixAlgebraUptoRow.plainKeys == Tryz.pinned.checked.prog.plainKeys) = true := by kernel_rfl
theorem C1j : (Tryz.pinned.checked.prog.make == some Rows.matrixAlgebraUptoRow.make) = true := by kernel_rfl
theorem B4a : joinedFacts Tryz.pinned.checked.prog 10 Tryz.f10 Rows.matrixAlgebraSpec Rows.matrixAlgebraUptoRow = true := by
  unfold joinedFacts
  rw [C6r, C6f, C6w, C6u, C7f, C7e, C6t, C6g, C6e, C5u, C1j]
  kernel_rfl
theorem B6z : Tryz.pinned.checked.prog.funcNamed Rows.matrixAlgebraUptoRow.func = some 10 := by kernel_rfl
theorem B8k : Tryz.f10.isInstance Tryz.pinned.checked.prog Rows.matrixAlgebraUptoRow.origin Rows.matrixAlgebraUptoRow.targs := of_decide_eq_true (by kernel_rfl)
theorem C0p : Tryz.f10.isWrapper Tryz.pinned.checked.prog Rows.matrixAlgebraUptoRow.wrapper Rows.matrixAlgebraUptoRow.mainSum := by unfold Func.isWrapper; first | (rw [if_pos (by decide +kernel)]; kernel_rfl) | (rw [if_neg (by decide +kernel)]; exact ⟨rfl, rfl⟩)
theorem matrixAlgebra_holds : Rows.MatrixAlgebraUptoSaid :=
  OpenClaim.holds_of_cond 10 Tryz.f10 rfl rfl rfl rfl rfl rfl rfl ⟨rfl, rfl, rfl, rfl, rfl⟩ rfl rfl rfl rfl rfl B6z Tryz.func10 B4a
    B8k C0p
    (fun os started H enc _ F => B4e os started H enc F)
#print axioms matrixAlgebra_holds
end Go.Proofs.YtkdmjgcjpmcjjaaGreat
