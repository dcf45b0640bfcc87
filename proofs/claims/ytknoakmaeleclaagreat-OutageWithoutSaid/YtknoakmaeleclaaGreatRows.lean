/-
  No cell of these rows narrows 'for every input' (looked for: loops, veiled, ifaces, maps, wideKeys, modest, calm, conditions, laid).
  DERIVED. THE GIVEN ROWS OF THIS SEAT. 6 by the template 'for every input the law returns true; each argument reads behind the call as it read before'; 0 by the template 'total and deterministic' (their statements: YtknoakmaeleclaaGreatTotals.lean).
  GIVEN WITH THE SEED: the statements are not yours to turn. If you find one false, say at which input.
  Laid BY PROGRAM, IN A SANDBOX (cutbox-rows.mjs): the forced cells as the released guide's own fill.sh prints them over the translation be1cc265917325ae… (all of the seat's roots in one cut). By AI agents, Wed Nov 11 2026. No macro, syntax, notation, axiom, sorry.
-/
import Derived.Test.YtknoakmaeleclaaGreatChecked
import GoSem.Claim
import GoSem.ClaimJoined
import GoSem.ClaimMapViews
import Derived.JoinedTies
import Derived.KernelRfl
namespace Go.Proofs.YtknoakmaeleclaaGreat
/- THE CELL 'sum', in the pinned program and in every row, IS THE sha256 OF THE DUMP (.gsa) THAT YtknoakmaeleclaaGreatProg.lean LOADS. Nothing in Lean hashes anything: it is a label: what it is worth is what the hold of that sum in a sandbox is worth. -/
noncomputable def Tryz.pinned : Pinned := { name := "ytknoakmaeleclaagreat", sum := "be1cc265917325ae964f0ab1d6b1c097d05664297d76a746cf5a6b00476fff16", checked := Tryz.checked }
namespace Rows
def none {H : Type} : Left H := { results := [], args := [] }

/-- 'gridmarketlaw22.SensitivityExact': WHATEVER THE INPUT: true; the input reads as it did. -/
def sensitivityExactSpec : ChangeSpec := { name := "sensitivityExact", fn := fun _ => fun
  | [d1, d2] => { results := [.lit (.bool true)], args := [d1, d2] }
  | _ => none }
def sensitivityExactRow : OpenClaim := { program := "ytknoakmaeleclaagreat", sum := "be1cc265917325ae964f0ab1d6b1c097d05664297d76a746cf5a6b00476fff16", func := "gridmarket/gridmarketlaw22.SensitivityExact", spec := "sensitivityExact", unfollowed := true, recurses := true, apart := false }
def SensitivityExactSaid : Prop := sensitivityExactRow.holds Tryz.pinned (OpenSpec.ofChange sensitivityExactSpec)

/-- ITS FALSE NEIGHBOUR: 'it returns false'. Refute it at one input. -/
def sensitivityExactWrong : ChangeSpec := { name := "sensitivityExact", fn := fun _ => fun
  | [d1, d2] => { results := [.lit (.bool false)], args := [d1, d2] }
  | _ => none }
def SensitivityExactWrongFalsely : Prop := sensitivityExactRow.holds Tryz.pinned (OpenSpec.ofChange sensitivityExactWrong)

/-- 'gridmarketlaw20.DcflowExact': WHATEVER THE INPUT: true; the input reads as it did. -/
def dcflowExactSpec : ChangeSpec := { name := "dcflowExact", fn := fun _ => fun
  | [d1, d2, d3, d4] => { results := [.lit (.bool true)], args := [d1, d2, d3, d4] }
  | _ => none }
def dcflowExactRow : OpenClaim := { program := "ytknoakmaeleclaagreat", sum := "be1cc265917325ae964f0ab1d6b1c097d05664297d76a746cf5a6b00476fff16", func := "gridmarket/gridmarketlaw20.DcflowExact", spec := "dcflowExact", unfollowed := true, recurses := true, apart := false }
def DcflowExactSaid : Prop := dcflowExactRow.holds Tryz.pinned (OpenSpec.ofChange dcflowExactSpec)

/-- ITS FALSE NEIGHBOUR: 'it returns false'. Refute it at one input. -/
def dcflowExactWrong : ChangeSpec := { name := "dcflowExact", fn := fun _ => fun
  | [d1, d2, d3, d4] => { results := [.lit (.bool false)], args := [d1, d2, d3, d4] }
  | _ => none }
def DcflowExactWrongFalsely : Prop := dcflowExactRow.holds Tryz.pinned (OpenSpec.ofChange dcflowExactWrong)

/-- 'gridmarketlaw22.SensitivityFlows': WHATEVER THE INPUT: true; the input reads as it did. -/
def sensitivityFlowsSpec : ChangeSpec := { name := "sensitivityFlows", fn := fun _ => fun
  | [d1, d2, d3, d4, d5, d6, d7] => { results := [.lit (.bool true)], args := [d1, d2, d3, d4, d5, d6, d7] }
  | _ => none }
def sensitivityFlowsRow : OpenClaim := { program := "ytknoakmaeleclaagreat", sum := "be1cc265917325ae964f0ab1d6b1c097d05664297d76a746cf5a6b00476fff16", func := "gridmarket/gridmarketlaw22.SensitivityFlows", spec := "sensitivityFlows", unfollowed := true, recurses := true, apart := false }
def SensitivityFlowsSaid : Prop := sensitivityFlowsRow.holds Tryz.pinned (OpenSpec.ofChange sensitivityFlowsSpec)

/-- ITS FALSE NEIGHBOUR: 'it returns false'. Refute it at one input. -/
def sensitivityFlowsWrong : ChangeSpec := { name := "sensitivityFlows", fn := fun _ => fun
  | [d1, d2, d3, d4, d5, d6, d7] => { results := [.lit (.bool false)], args := [d1, d2, d3, d4, d5, d6, d7] }
  | _ => none }
def SensitivityFlowsWrongFalsely : Prop := sensitivityFlowsRow.holds Tryz.pinned (OpenSpec.ofChange sensitivityFlowsWrong)

/-- 'gridmarketlaw23.OutageExact': WHATEVER THE INPUT: true; the input reads as it did. -/
def outageExactSpec : ChangeSpec := { name := "outageExact", fn := fun _ => fun
  | [d1, d2, d3, d4] => { results := [.lit (.bool true)], args := [d1, d2, d3, d4] }
  | _ => none }
def outageExactRow : OpenClaim := { program := "ytknoakmaeleclaagreat", sum := "be1cc265917325ae964f0ab1d6b1c097d05664297d76a746cf5a6b00476fff16", func := "gridmarket/gridmarketlaw23.OutageExact", spec := "outageExact", unfollowed := true, recurses := true, apart := false }
def OutageExactSaid : Prop := outageExactRow.holds Tryz.pinned (OpenSpec.ofChange outageExactSpec)

/-- ITS FALSE NEIGHBOUR: 'it returns false'. Refute it at one input. -/
def outageExactWrong : ChangeSpec := { name := "outageExact", fn := fun _ => fun
  | [d1, d2, d3, d4] => { results := [.lit (.bool false)], args := [d1, d2, d3, d4] }
  | _ => none }
def OutageExactWrongFalsely : Prop := outageExactRow.holds Tryz.pinned (OpenSpec.ofChange outageExactWrong)

/-- 'gridmarketlaw23.OutageWithout': WHATEVER THE INPUT: true; the input reads as it did. -/
def outageWithoutSpec : ChangeSpec := { name := "outageWithout", fn := fun _ => fun
  | [d1, d2, d3] => { results := [.lit (.bool true)], args := [d1, d2, d3] }
  | _ => none }
def outageWithoutRow : OpenClaim := { program := "ytknoakmaeleclaagreat", sum := "be1cc265917325ae964f0ab1d6b1c097d05664297d76a746cf5a6b00476fff16", func := "gridmarket/gridmarketlaw23.OutageWithout", spec := "outageWithout", unfollowed := true, recurses := true, apart := false }
def OutageWithoutSaid : Prop := outageWithoutRow.holds Tryz.pinned (OpenSpec.ofChange outageWithoutSpec)

/-- ITS FALSE NEIGHBOUR: 'it returns false'. Refute it at one input. -/
def outageWithoutWrong : ChangeSpec := { name := "outageWithout", fn := fun _ => fun
  | [d1, d2, d3] => { results := [.lit (.bool false)], args := [d1, d2, d3] }
  | _ => none }
def OutageWithoutWrongFalsely : Prop := outageWithoutRow.holds Tryz.pinned (OpenSpec.ofChange outageWithoutWrong)

/-- 'gridmarketlaw23.OutageApplies': WHATEVER THE INPUT: true; the input reads as it did. -/
def outageAppliesSpec : ChangeSpec := { name := "outageApplies", fn := fun _ => fun
  | [d1, d2, d3, d4, d5] => { results := [.lit (.bool true)], args := [d1, d2, d3, d4, d5] }
  | _ => none }
def outageAppliesRow : OpenClaim := { program := "ytknoakmaeleclaagreat", sum := "be1cc265917325ae964f0ab1d6b1c097d05664297d76a746cf5a6b00476fff16", func := "gridmarket/gridmarketlaw23.OutageApplies", spec := "outageApplies", unfollowed := true, recurses := true, apart := false }
def OutageAppliesSaid : Prop := outageAppliesRow.holds Tryz.pinned (OpenSpec.ofChange outageAppliesSpec)

/-- ITS FALSE NEIGHBOUR: 'it returns false'. Refute it at one input. -/
def outageAppliesWrong : ChangeSpec := { name := "outageApplies", fn := fun _ => fun
  | [d1, d2, d3, d4, d5] => { results := [.lit (.bool false)], args := [d1, d2, d3, d4, d5] }
  | _ => none }
def OutageAppliesWrongFalsely : Prop := outageAppliesRow.holds Tryz.pinned (OpenSpec.ofChange outageAppliesWrong)

/- THE SECOND FORM. 'bulk': how many values and letters a reading holds, each counted each time it is reached (what is shared counts as often as it is met; a slice's spare places count too). A statement '..UptoSaid' is the law's where the arguments, and the package variables that the reading takes, are together of bulk at most 1048576: NARROWER than '..Said'. Prove '..Said' where nothing that the law and all that it calls make is longer than what came in: it says more and counts as full. Else prove '..UptoSaid'. A law counts once. -/
mutual
def uptoBulk {H : Type} : DataW H → Nat
  | .lit (.string bytes) => bytes.length + 1
  | .lit _ => 1
  | .nil => 1
  | .ptr d => uptoBulk d + 1
  | .slice elems spare => uptoBulkAll elems + uptoBulkAll spare + 1
  | .agg parts => uptoBulkAll parts + 1
  | .iface _ d => uptoBulk d + 1
  | .map entries => uptoBulkEntries entries + 1
  | .held _ => 1
def uptoBulkAll {H : Type} : List (DataW H) → Nat
  | [] => 0
  | d :: r => uptoBulk d + uptoBulkAll r
def uptoBulkEntries {H : Type} : List (Lit × DataW H) → Nat
  | [] => 0
  | x :: r => uptoBulkEntry x + uptoBulkEntries r
def uptoBulkEntry {H : Type} : Lit × DataW H → Nat
  | (.string bytes, d) => bytes.length + uptoBulk d + 1
  | (_, d) => uptoBulk d + 1
 end
def uptoSmall : (H : Type) → List (DataW H) → Bool := fun _ ds => decide (uptoBulkAll ds ≤ 1048576)
def OpenSpec.upto (s : _root_.Go.ChangeSpec) : _root_.Go.OpenSpec := { _root_.Go.OpenSpec.ofChange s with cond := some uptoSmall }

/-- 'gridmarketlaw22.SensitivityExact', WHERE WHAT IT READS IS OF BULK AT MOST 1048576: true; the input reads as it did. -/
def sensitivityExactUptoRow : OpenClaim := { program := "ytknoakmaeleclaagreat", sum := "be1cc265917325ae964f0ab1d6b1c097d05664297d76a746cf5a6b00476fff16", func := "gridmarket/gridmarketlaw22.SensitivityExact", spec := "sensitivityExact", unfollowed := true, recurses := true, apart := false, narrowed := true }
def SensitivityExactUptoSaid : Prop := sensitivityExactUptoRow.holds Tryz.pinned (OpenSpec.upto sensitivityExactSpec)

/-- 'gridmarketlaw20.DcflowExact', WHERE WHAT IT READS IS OF BULK AT MOST 1048576: true; the input reads as it did. -/
def dcflowExactUptoRow : OpenClaim := { program := "ytknoakmaeleclaagreat", sum := "be1cc265917325ae964f0ab1d6b1c097d05664297d76a746cf5a6b00476fff16", func := "gridmarket/gridmarketlaw20.DcflowExact", spec := "dcflowExact", unfollowed := true, recurses := true, apart := false, narrowed := true }
def DcflowExactUptoSaid : Prop := dcflowExactUptoRow.holds Tryz.pinned (OpenSpec.upto dcflowExactSpec)

/-- 'gridmarketlaw22.SensitivityFlows', WHERE WHAT IT READS IS OF BULK AT MOST 1048576: true; the input reads as it did. -/
def sensitivityFlowsUptoRow : OpenClaim := { program := "ytknoakmaeleclaagreat", sum := "be1cc265917325ae964f0ab1d6b1c097d05664297d76a746cf5a6b00476fff16", func := "gridmarket/gridmarketlaw22.SensitivityFlows", spec := "sensitivityFlows", unfollowed := true, recurses := true, apart := false, narrowed := true }
def SensitivityFlowsUptoSaid : Prop := sensitivityFlowsUptoRow.holds Tryz.pinned (OpenSpec.upto sensitivityFlowsSpec)

/-- 'gridmarketlaw23.OutageExact', WHERE WHAT IT READS IS OF BULK AT MOST 1048576: true; the input reads as it did. -/
def outageExactUptoRow : OpenClaim := { program := "ytknoakmaeleclaagreat", sum := "be1cc265917325ae964f0ab1d6b1c097d05664297d76a746cf5a6b00476fff16", func := "gridmarket/gridmarketlaw23.OutageExact", spec := "outageExact", unfollowed := true, recurses := true, apart := false, narrowed := true }
def OutageExactUptoSaid : Prop := outageExactUptoRow.holds Tryz.pinned (OpenSpec.upto outageExactSpec)

/-- 'gridmarketlaw23.OutageWithout', WHERE WHAT IT READS IS OF BULK AT MOST 1048576: true; the input reads as it did. -/
def outageWithoutUptoRow : OpenClaim := { program := "ytknoakmaeleclaagreat", sum := "be1cc265917325ae964f0ab1d6b1c097d05664297d76a746cf5a6b00476fff16", func := "gridmarket/gridmarketlaw23.OutageWithout", spec := "outageWithout", unfollowed := true, recurses := true, apart := false, narrowed := true }
def OutageWithoutUptoSaid : Prop := outageWithoutUptoRow.holds Tryz.pinned (OpenSpec.upto outageWithoutSpec)

/-- 'gridmarketlaw23.OutageApplies', WHERE WHAT IT READS IS OF BULK AT MOST 1048576: true; the input reads as it did. -/
def outageAppliesUptoRow : OpenClaim := { program := "ytknoakmaeleclaagreat", sum := "be1cc265917325ae964f0ab1d6b1c097d05664297d76a746cf5a6b00476fff16", func := "gridmarket/gridmarketlaw23.OutageApplies", spec := "outageApplies", unfollowed := true, recurses := true, apart := false, narrowed := true }
def OutageAppliesUptoSaid : Prop := outageAppliesUptoRow.holds Tryz.pinned (OpenSpec.upto outageAppliesSpec)

end Rows
end Go.Proofs.YtknoakmaeleclaaGreat
