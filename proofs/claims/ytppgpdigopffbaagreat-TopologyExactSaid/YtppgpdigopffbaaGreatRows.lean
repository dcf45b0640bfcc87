/-
  No cell of these rows narrows 'for every input' (looked for: loops, veiled, ifaces, maps, wideKeys, modest, calm, conditions, laid).
  DERIVED. THE GIVEN ROWS OF THIS SEAT. 4 by the template 'for every input the law returns true; each argument reads behind the call as it read before'; 0 by the template 'total and deterministic' (their statements: YtppgpdigopffbaaGreatTotals.lean).
  GIVEN WITH THE SEED: the statements are not yours to turn. If you find one false, say at which input.
  Laid BY PROGRAM, IN A SANDBOX (cutbox-rows.mjs): the forced cells as the released guide's own fill.sh prints them over the translation 0e6e6da44ff746cb… (all of the seat's roots in one cut). By AI agents, Wed Nov 11 2026. No macro, syntax, notation, axiom, sorry.
-/
import Derived.Test.YtppgpdigopffbaaGreatChecked
import GoSem.Claim
import GoSem.ClaimJoined
import GoSem.ClaimMapViews
import Derived.JoinedTies
import Derived.KernelRfl
namespace Go.Proofs.YtppgpdigopffbaaGreat
/- THE CELL 'sum', in the pinned program and in every row, IS THE sha256 OF THE DUMP (.gsa) THAT YtppgpdigopffbaaGreatProg.lean LOADS. Nothing in Lean hashes anything: it is a label: what it is worth is what the hold of that sum in a sandbox is worth. -/
noncomputable def Tryz.pinned : Pinned := { name := "ytppgpdigopffbaagreat", sum := "0e6e6da44ff746cb0a092de527ee926113d9c92ecc2f9bb21c19eac99ee38026", checked := Tryz.checked }
namespace Rows
def none {H : Type} : Left H := { results := [], args := [] }

/-- 'gridmarketlaw19.TopologyForest': WHATEVER THE INPUT: true; the input reads as it did. -/
def topologyForestSpec : ChangeSpec := { name := "topologyForest", fn := fun _ => fun
  | [d] => { results := [.lit (.bool true)], args := [d] }
  | _ => none }
def topologyForestRow : OpenClaim := { program := "ytppgpdigopffbaagreat", sum := "0e6e6da44ff746cb0a092de527ee926113d9c92ecc2f9bb21c19eac99ee38026", func := "gridmarket/gridmarketlaw19.TopologyForest", spec := "topologyForest", unfollowed := true, recurses := true, apart := false }
def TopologyForestSaid : Prop := topologyForestRow.holds Tryz.pinned (OpenSpec.ofChange topologyForestSpec)

/-- ITS FALSE NEIGHBOUR: 'it returns false'. Refute it at one input. -/
def topologyForestWrong : ChangeSpec := { name := "topologyForest", fn := fun _ => fun
  | [d] => { results := [.lit (.bool false)], args := [d] }
  | _ => none }
def TopologyForestWrongFalsely : Prop := topologyForestRow.holds Tryz.pinned (OpenSpec.ofChange topologyForestWrong)

/-- 'gridmarketlaw19.TopologyLoops': WHATEVER THE INPUT: true; the input reads as it did. -/
def topologyLoopsSpec : ChangeSpec := { name := "topologyLoops", fn := fun _ => fun
  | [d] => { results := [.lit (.bool true)], args := [d] }
  | _ => none }
def topologyLoopsRow : OpenClaim := { program := "ytppgpdigopffbaagreat", sum := "0e6e6da44ff746cb0a092de527ee926113d9c92ecc2f9bb21c19eac99ee38026", func := "gridmarket/gridmarketlaw19.TopologyLoops", spec := "topologyLoops", unfollowed := true, recurses := true, apart := false }
def TopologyLoopsSaid : Prop := topologyLoopsRow.holds Tryz.pinned (OpenSpec.ofChange topologyLoopsSpec)

/-- ITS FALSE NEIGHBOUR: 'it returns false'. Refute it at one input. -/
def topologyLoopsWrong : ChangeSpec := { name := "topologyLoops", fn := fun _ => fun
  | [d] => { results := [.lit (.bool false)], args := [d] }
  | _ => none }
def TopologyLoopsWrongFalsely : Prop := topologyLoopsRow.holds Tryz.pinned (OpenSpec.ofChange topologyLoopsWrong)

/-- 'gridmarketlaw19.TopologyExact': WHATEVER THE INPUT: true; the input reads as it did. -/
def topologyExactSpec : ChangeSpec := { name := "topologyExact", fn := fun _ => fun
  | [d1, d2, d3, d4, d5] => { results := [.lit (.bool true)], args := [d1, d2, d3, d4, d5] }
  | _ => none }
def topologyExactRow : OpenClaim := { program := "ytppgpdigopffbaagreat", sum := "0e6e6da44ff746cb0a092de527ee926113d9c92ecc2f9bb21c19eac99ee38026", func := "gridmarket/gridmarketlaw19.TopologyExact", spec := "topologyExact", unfollowed := true, recurses := true, apart := false }
def TopologyExactSaid : Prop := topologyExactRow.holds Tryz.pinned (OpenSpec.ofChange topologyExactSpec)

/-- ITS FALSE NEIGHBOUR: 'it returns false'. Refute it at one input. -/
def topologyExactWrong : ChangeSpec := { name := "topologyExact", fn := fun _ => fun
  | [d1, d2, d3, d4, d5] => { results := [.lit (.bool false)], args := [d1, d2, d3, d4, d5] }
  | _ => none }
def TopologyExactWrongFalsely : Prop := topologyExactRow.holds Tryz.pinned (OpenSpec.ofChange topologyExactWrong)

/-- 'gridmarketlaw19.TopologySeparates': WHATEVER THE INPUT: true; the input reads as it did. -/
def topologySeparatesSpec : ChangeSpec := { name := "topologySeparates", fn := fun _ => fun
  | [d1, d2] => { results := [.lit (.bool true)], args := [d1, d2] }
  | _ => none }
def topologySeparatesRow : OpenClaim := { program := "ytppgpdigopffbaagreat", sum := "0e6e6da44ff746cb0a092de527ee926113d9c92ecc2f9bb21c19eac99ee38026", func := "gridmarket/gridmarketlaw19.TopologySeparates", spec := "topologySeparates", unfollowed := true, recurses := true, apart := false }
def TopologySeparatesSaid : Prop := topologySeparatesRow.holds Tryz.pinned (OpenSpec.ofChange topologySeparatesSpec)

/-- ITS FALSE NEIGHBOUR: 'it returns false'. Refute it at one input. -/
def topologySeparatesWrong : ChangeSpec := { name := "topologySeparates", fn := fun _ => fun
  | [d1, d2] => { results := [.lit (.bool false)], args := [d1, d2] }
  | _ => none }
def TopologySeparatesWrongFalsely : Prop := topologySeparatesRow.holds Tryz.pinned (OpenSpec.ofChange topologySeparatesWrong)

/- THE SECOND FORM. 'bulk': how many values and letters a reading holds, each counted each time it is reached (what is shared counts as often as it is met; a slice's spare places count too). A statement '..UptoSaid' is the law's where the arguments, and the package variables that the reading takes, are together of bulk at most 1048576: NARROWER than '..Said'. Prove '..Said' where nothing that the law and all that it calls make is longer than what came in: it says more and counts as full. Else prove '..UptoSaid'. A law counts once. -/
mutual
def uptoBulk {H : Type} : DataW H → Nat
  | .lit (.string bytes) => bytes.length + 1
  | .lit _ => 1
  | .nil => 1
  | .ptr d => uptoBulk d + 1
  | .slice elems spare => uptoBulkAll elems + uptoBulkAll spare + 1
  | .agg parts => uptoBulkAll parts + 1
  | .iface _ d => uptoBulk d + 1
  | .map entries => uptoBulkEntries entries + 1
  | .held _ => 1
def uptoBulkAll {H : Type} : List (DataW H) → Nat
  | [] => 0
  | d :: r => uptoBulk d + uptoBulkAll r
def uptoBulkEntries {H : Type} : List (Lit × DataW H) → Nat
  | [] => 0
  | x :: r => uptoBulkEntry x + uptoBulkEntries r
def uptoBulkEntry {H : Type} : Lit × DataW H → Nat
  | (.string bytes, d) => bytes.length + uptoBulk d + 1
  | (_, d) => uptoBulk d + 1
 end
def uptoSmall : (H : Type) → List (DataW H) → Bool := fun _ ds => decide (uptoBulkAll ds ≤ 1048576)
def OpenSpec.upto (s : _root_.Go.ChangeSpec) : _root_.Go.OpenSpec := { _root_.Go.OpenSpec.ofChange s with cond := some uptoSmall }

/-- 'gridmarketlaw19.TopologyForest', WHERE WHAT IT READS IS OF BULK AT MOST 1048576: true; the input reads as it did. -/
def topologyForestUptoRow : OpenClaim := { program := "ytppgpdigopffbaagreat", sum := "0e6e6da44ff746cb0a092de527ee926113d9c92ecc2f9bb21c19eac99ee38026", func := "gridmarket/gridmarketlaw19.TopologyForest", spec := "topologyForest", unfollowed := true, recurses := true, apart := false, narrowed := true }
def TopologyForestUptoSaid : Prop := topologyForestUptoRow.holds Tryz.pinned (OpenSpec.upto topologyForestSpec)

/-- 'gridmarketlaw19.TopologyLoops', WHERE WHAT IT READS IS OF BULK AT MOST 1048576: true; the input reads as it did. -/
def topologyLoopsUptoRow : OpenClaim := { program := "ytppgpdigopffbaagreat", sum := "0e6e6da44ff746cb0a092de527ee926113d9c92ecc2f9bb21c19eac99ee38026", func := "gridmarket/gridmarketlaw19.TopologyLoops", spec := "topologyLoops", unfollowed := true, recurses := true, apart := false, narrowed := true }
def TopologyLoopsUptoSaid : Prop := topologyLoopsUptoRow.holds Tryz.pinned (OpenSpec.upto topologyLoopsSpec)

/-- 'gridmarketlaw19.TopologyExact', WHERE WHAT IT READS IS OF BULK AT MOST 1048576: true; the input reads as it did. -/
def topologyExactUptoRow : OpenClaim := { program := "ytppgpdigopffbaagreat", sum := "0e6e6da44ff746cb0a092de527ee926113d9c92ecc2f9bb21c19eac99ee38026", func := "gridmarket/gridmarketlaw19.TopologyExact", spec := "topologyExact", unfollowed := true, recurses := true, apart := false, narrowed := true }
def TopologyExactUptoSaid : Prop := topologyExactUptoRow.holds Tryz.pinned (OpenSpec.upto topologyExactSpec)

/-- 'gridmarketlaw19.TopologySeparates', WHERE WHAT IT READS IS OF BULK AT MOST 1048576: true; the input reads as it did. -/
def topologySeparatesUptoRow : OpenClaim := { program := "ytppgpdigopffbaagreat", sum := "0e6e6da44ff746cb0a092de527ee926113d9c92ecc2f9bb21c19eac99ee38026", func := "gridmarket/gridmarketlaw19.TopologySeparates", spec := "topologySeparates", unfollowed := true, recurses := true, apart := false, narrowed := true }
def TopologySeparatesUptoSaid : Prop := topologySeparatesUptoRow.holds Tryz.pinned (OpenSpec.upto topologySeparatesSpec)

end Rows
end Go.Proofs.YtppgpdigopffbaaGreat
