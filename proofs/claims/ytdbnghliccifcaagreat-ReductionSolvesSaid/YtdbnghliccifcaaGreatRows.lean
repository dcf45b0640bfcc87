/-
  No cell of these rows narrows 'for every input' (looked for: loops, veiled, ifaces, maps, wideKeys, modest, calm, conditions, laid).
  DERIVED. THE GIVEN ROWS OF THIS SEAT. 6 by the template 'for every input the law returns true; each argument reads behind the call as it read before'; 0 by the template 'total and deterministic' (their statements: YtdbnghliccifcaaGreatTotals.lean).
  GIVEN WITH THE SEED: the statements are not yours to turn. If you find one false, say at which input.
  Laid BY PROGRAM, IN A SANDBOX (cutbox-rows.mjs): the forced cells as the released guide's own fill.sh prints them over the translation de042093080b9ca8… (all of the seat's roots in one cut). By AI agents, Wed Nov 11 2026. No macro, syntax, notation, axiom, sorry.
-/
import Derived.Test.YtdbnghliccifcaaGreatChecked
import GoSem.Claim
import GoSem.ClaimJoined
import GoSem.ClaimMapViews
import Derived.JoinedTies
import Derived.KernelRfl
namespace Go.Proofs.YtdbnghliccifcaaGreat
/- THE CELL 'sum', in the pinned program and in every row, IS THE sha256 OF THE DUMP (.gsa) THAT YtdbnghliccifcaaGreatProg.lean LOADS. Nothing in Lean hashes anything: it is a label: what it is worth is what the hold of that sum in a sandbox is worth. -/
noncomputable def Tryz.pinned : Pinned := { name := "ytdbnghliccifcaagreat", sum := "de042093080b9ca8da75dd025b9adf35d20004368188cd3e7a0f69fc305a4d2a", checked := Tryz.checked }
namespace Rows
def none {H : Type} : Left H := { results := [], args := [] }

/-- 'gridmarketlaw21.ReductionExact': WHATEVER THE INPUT: true; the input reads as it did. -/
def reductionExactSpec : ChangeSpec := { name := "reductionExact", fn := fun _ => fun
  | [d1, d2, d3, d4] => { results := [.lit (.bool true)], args := [d1, d2, d3, d4] }
  | _ => none }
def reductionExactRow : OpenClaim := { program := "ytdbnghliccifcaagreat", sum := "de042093080b9ca8da75dd025b9adf35d20004368188cd3e7a0f69fc305a4d2a", func := "gridmarket/gridmarketlaw21.ReductionExact", spec := "reductionExact", unfollowed := true, recurses := true, apart := false }
def ReductionExactSaid : Prop := reductionExactRow.holds Tryz.pinned (OpenSpec.ofChange reductionExactSpec)

/-- ITS FALSE NEIGHBOUR: 'it returns false'. Refute it at one input. -/
def reductionExactWrong : ChangeSpec := { name := "reductionExact", fn := fun _ => fun
  | [d1, d2, d3, d4] => { results := [.lit (.bool false)], args := [d1, d2, d3, d4] }
  | _ => none }
def ReductionExactWrongFalsely : Prop := reductionExactRow.holds Tryz.pinned (OpenSpec.ofChange reductionExactWrong)

/-- 'gridmarketlaw21.ReductionStepwise': WHATEVER THE INPUT: true; the input reads as it did. -/
def reductionStepwiseSpec : ChangeSpec := { name := "reductionStepwise", fn := fun _ => fun
  | [d1, d2, d3] => { results := [.lit (.bool true)], args := [d1, d2, d3] }
  | _ => none }
def reductionStepwiseRow : OpenClaim := { program := "ytdbnghliccifcaagreat", sum := "de042093080b9ca8da75dd025b9adf35d20004368188cd3e7a0f69fc305a4d2a", func := "gridmarket/gridmarketlaw21.ReductionStepwise", spec := "reductionStepwise", unfollowed := true, recurses := true, apart := false }
def ReductionStepwiseSaid : Prop := reductionStepwiseRow.holds Tryz.pinned (OpenSpec.ofChange reductionStepwiseSpec)

/-- ITS FALSE NEIGHBOUR: 'it returns false'. Refute it at one input. -/
def reductionStepwiseWrong : ChangeSpec := { name := "reductionStepwise", fn := fun _ => fun
  | [d1, d2, d3] => { results := [.lit (.bool false)], args := [d1, d2, d3] }
  | _ => none }
def ReductionStepwiseWrongFalsely : Prop := reductionStepwiseRow.holds Tryz.pinned (OpenSpec.ofChange reductionStepwiseWrong)

/-- 'gridmarketlaw21.ReductionNetwork': WHATEVER THE INPUT: true; the input reads as it did. -/
def reductionNetworkSpec : ChangeSpec := { name := "reductionNetwork", fn := fun _ => fun
  | [d1, d2] => { results := [.lit (.bool true)], args := [d1, d2] }
  | _ => none }
def reductionNetworkRow : OpenClaim := { program := "ytdbnghliccifcaagreat", sum := "de042093080b9ca8da75dd025b9adf35d20004368188cd3e7a0f69fc305a4d2a", func := "gridmarket/gridmarketlaw21.ReductionNetwork", spec := "reductionNetwork", unfollowed := true, recurses := true, apart := false }
def ReductionNetworkSaid : Prop := reductionNetworkRow.holds Tryz.pinned (OpenSpec.ofChange reductionNetworkSpec)

/-- ITS FALSE NEIGHBOUR: 'it returns false'. Refute it at one input. -/
def reductionNetworkWrong : ChangeSpec := { name := "reductionNetwork", fn := fun _ => fun
  | [d1, d2] => { results := [.lit (.bool false)], args := [d1, d2] }
  | _ => none }
def ReductionNetworkWrongFalsely : Prop := reductionNetworkRow.holds Tryz.pinned (OpenSpec.ofChange reductionNetworkWrong)

/-- 'gridmarketlaw21.ReductionSolves': WHATEVER THE INPUT: true; the input reads as it did. -/
def reductionSolvesSpec : ChangeSpec := { name := "reductionSolves", fn := fun _ => fun
  | [d1, d2] => { results := [.lit (.bool true)], args := [d1, d2] }
  | _ => none }
def reductionSolvesRow : OpenClaim := { program := "ytdbnghliccifcaagreat", sum := "de042093080b9ca8da75dd025b9adf35d20004368188cd3e7a0f69fc305a4d2a", func := "gridmarket/gridmarketlaw21.ReductionSolves", spec := "reductionSolves", unfollowed := true, recurses := true, apart := false }
def ReductionSolvesSaid : Prop := reductionSolvesRow.holds Tryz.pinned (OpenSpec.ofChange reductionSolvesSpec)

/-- ITS FALSE NEIGHBOUR: 'it returns false'. Refute it at one input. -/
def reductionSolvesWrong : ChangeSpec := { name := "reductionSolves", fn := fun _ => fun
  | [d1, d2] => { results := [.lit (.bool false)], args := [d1, d2] }
  | _ => none }
def ReductionSolvesWrongFalsely : Prop := reductionSolvesRow.holds Tryz.pinned (OpenSpec.ofChange reductionSolvesWrong)

/-- 'gridmarketlaw21.ReductionFlow': WHATEVER THE INPUT: true; the input reads as it did. -/
def reductionFlowSpec : ChangeSpec := { name := "reductionFlow", fn := fun _ => fun
  | [d1, d2] => { results := [.lit (.bool true)], args := [d1, d2] }
  | _ => none }
def reductionFlowRow : OpenClaim := { program := "ytdbnghliccifcaagreat", sum := "de042093080b9ca8da75dd025b9adf35d20004368188cd3e7a0f69fc305a4d2a", func := "gridmarket/gridmarketlaw21.ReductionFlow", spec := "reductionFlow", unfollowed := true, recurses := true, apart := false }
def ReductionFlowSaid : Prop := reductionFlowRow.holds Tryz.pinned (OpenSpec.ofChange reductionFlowSpec)

/-- ITS FALSE NEIGHBOUR: 'it returns false'. Refute it at one input. -/
def reductionFlowWrong : ChangeSpec := { name := "reductionFlow", fn := fun _ => fun
  | [d1, d2] => { results := [.lit (.bool false)], args := [d1, d2] }
  | _ => none }
def ReductionFlowWrongFalsely : Prop := reductionFlowRow.holds Tryz.pinned (OpenSpec.ofChange reductionFlowWrong)

/-- 'gridmarketlaw21.ReductionExpands': WHATEVER THE INPUT: true; the input reads as it did. -/
def reductionExpandsSpec : ChangeSpec := { name := "reductionExpands", fn := fun _ => fun
  | [d1, d2, d3, d4] => { results := [.lit (.bool true)], args := [d1, d2, d3, d4] }
  | _ => none }
def reductionExpandsRow : OpenClaim := { program := "ytdbnghliccifcaagreat", sum := "de042093080b9ca8da75dd025b9adf35d20004368188cd3e7a0f69fc305a4d2a", func := "gridmarket/gridmarketlaw21.ReductionExpands", spec := "reductionExpands", unfollowed := true, recurses := true, apart := false }
def ReductionExpandsSaid : Prop := reductionExpandsRow.holds Tryz.pinned (OpenSpec.ofChange reductionExpandsSpec)

/-- ITS FALSE NEIGHBOUR: 'it returns false'. Refute it at one input. -/
def reductionExpandsWrong : ChangeSpec := { name := "reductionExpands", fn := fun _ => fun
  | [d1, d2, d3, d4] => { results := [.lit (.bool false)], args := [d1, d2, d3, d4] }
  | _ => none }
def ReductionExpandsWrongFalsely : Prop := reductionExpandsRow.holds Tryz.pinned (OpenSpec.ofChange reductionExpandsWrong)

/- THE SECOND FORM. 'bulk': how many values and letters a reading holds, each counted each time it is reached (what is shared counts as often as it is met; a slice's spare places count too). A statement '..UptoSaid' is the law's where the arguments, and the package variables that the reading takes, are together of bulk at most 1048576: NARROWER than '..Said'. Prove '..Said' where nothing that the law and all that it calls make is longer than what came in: it says more and counts as full. Else prove '..UptoSaid'. A law counts once. -/
mutual
def uptoBulk {H : Type} : DataW H → Nat
  | .lit (.string bytes) => bytes.length + 1
  | .lit _ => 1
  | .nil => 1
  | .ptr d => uptoBulk d + 1
  | .slice elems spare => uptoBulkAll elems + uptoBulkAll spare + 1
  | .agg parts => uptoBulkAll parts + 1
  | .iface _ d => uptoBulk d + 1
  | .map entries => uptoBulkEntries entries + 1
  | .held _ => 1
def uptoBulkAll {H : Type} : List (DataW H) → Nat
  | [] => 0
  | d :: r => uptoBulk d + uptoBulkAll r
def uptoBulkEntries {H : Type} : List (Lit × DataW H) → Nat
  | [] => 0
  | x :: r => uptoBulkEntry x + uptoBulkEntries r
def uptoBulkEntry {H : Type} : Lit × DataW H → Nat
  | (.string bytes, d) => bytes.length + uptoBulk d + 1
  | (_, d) => uptoBulk d + 1
 end
def uptoSmall : (H : Type) → List (DataW H) → Bool := fun _ ds => decide (uptoBulkAll ds ≤ 1048576)
def OpenSpec.upto (s : _root_.Go.ChangeSpec) : _root_.Go.OpenSpec := { _root_.Go.OpenSpec.ofChange s with cond := some uptoSmall }

/-- 'gridmarketlaw21.ReductionExact', WHERE WHAT IT READS IS OF BULK AT MOST 1048576: true; the input reads as it did. -/
def reductionExactUptoRow : OpenClaim := { program := "ytdbnghliccifcaagreat", sum := "de042093080b9ca8da75dd025b9adf35d20004368188cd3e7a0f69fc305a4d2a", func := "gridmarket/gridmarketlaw21.ReductionExact", spec := "reductionExact", unfollowed := true, recurses := true, apart := false, narrowed := true }
def ReductionExactUptoSaid : Prop := reductionExactUptoRow.holds Tryz.pinned (OpenSpec.upto reductionExactSpec)

/-- 'gridmarketlaw21.ReductionStepwise', WHERE WHAT IT READS IS OF BULK AT MOST 1048576: true; the input reads as it did. -/
def reductionStepwiseUptoRow : OpenClaim := { program := "ytdbnghliccifcaagreat", sum := "de042093080b9ca8da75dd025b9adf35d20004368188cd3e7a0f69fc305a4d2a", func := "gridmarket/gridmarketlaw21.ReductionStepwise", spec := "reductionStepwise", unfollowed := true, recurses := true, apart := false, narrowed := true }
def ReductionStepwiseUptoSaid : Prop := reductionStepwiseUptoRow.holds Tryz.pinned (OpenSpec.upto reductionStepwiseSpec)

/-- 'gridmarketlaw21.ReductionNetwork', WHERE WHAT IT READS IS OF BULK AT MOST 1048576: true; the input reads as it did. -/
def reductionNetworkUptoRow : OpenClaim := { program := "ytdbnghliccifcaagreat", sum := "de042093080b9ca8da75dd025b9adf35d20004368188cd3e7a0f69fc305a4d2a", func := "gridmarket/gridmarketlaw21.ReductionNetwork", spec := "reductionNetwork", unfollowed := true, recurses := true, apart := false, narrowed := true }
def ReductionNetworkUptoSaid : Prop := reductionNetworkUptoRow.holds Tryz.pinned (OpenSpec.upto reductionNetworkSpec)

/-- 'gridmarketlaw21.ReductionSolves', WHERE WHAT IT READS IS OF BULK AT MOST 1048576: true; the input reads as it did. -/
def reductionSolvesUptoRow : OpenClaim := { program := "ytdbnghliccifcaagreat", sum := "de042093080b9ca8da75dd025b9adf35d20004368188cd3e7a0f69fc305a4d2a", func := "gridmarket/gridmarketlaw21.ReductionSolves", spec := "reductionSolves", unfollowed := true, recurses := true, apart := false, narrowed := true }
def ReductionSolvesUptoSaid : Prop := reductionSolvesUptoRow.holds Tryz.pinned (OpenSpec.upto reductionSolvesSpec)

/-- 'gridmarketlaw21.ReductionFlow', WHERE WHAT IT READS IS OF BULK AT MOST 1048576: true; the input reads as it did. -/
def reductionFlowUptoRow : OpenClaim := { program := "ytdbnghliccifcaagreat", sum := "de042093080b9ca8da75dd025b9adf35d20004368188cd3e7a0f69fc305a4d2a", func := "gridmarket/gridmarketlaw21.ReductionFlow", spec := "reductionFlow", unfollowed := true, recurses := true, apart := false, narrowed := true }
def ReductionFlowUptoSaid : Prop := reductionFlowUptoRow.holds Tryz.pinned (OpenSpec.upto reductionFlowSpec)

/-- 'gridmarketlaw21.ReductionExpands', WHERE WHAT IT READS IS OF BULK AT MOST 1048576: true; the input reads as it did. -/
def reductionExpandsUptoRow : OpenClaim := { program := "ytdbnghliccifcaagreat", sum := "de042093080b9ca8da75dd025b9adf35d20004368188cd3e7a0f69fc305a4d2a", func := "gridmarket/gridmarketlaw21.ReductionExpands", spec := "reductionExpands", unfollowed := true, recurses := true, apart := false, narrowed := true }
def ReductionExpandsUptoSaid : Prop := reductionExpandsUptoRow.holds Tryz.pinned (OpenSpec.upto reductionExpandsSpec)

end Rows
end Go.Proofs.YtdbnghliccifcaaGreat
