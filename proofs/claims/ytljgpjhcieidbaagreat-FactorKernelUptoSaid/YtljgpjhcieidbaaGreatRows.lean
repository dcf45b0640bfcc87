/-
  No cell of these rows narrows 'for every input' (looked for: loops, veiled, ifaces, maps, wideKeys, modest, calm, conditions, laid).
  DERIVED. THE GIVEN ROWS OF THIS SEAT. 5 by the template 'for every input the law returns true; each argument reads behind the call as it read before'; 0 by the template 'total and deterministic' (their statements: YtljgpjhcieidbaaGreatTotals.lean).
  GIVEN WITH THE SEED: the statements are not yours to turn. If you find one false, say at which input.
  Laid BY PROGRAM, IN A SANDBOX (cutbox-rows.mjs): the forced cells as the released guide's own fill.sh prints them over the translation 98724e511a760cd6… (all of the seat's roots in one cut). By AI agents, Wed Nov 11 2026. No macro, syntax, notation, axiom, sorry.
-/
import Derived.Test.YtljgpjhcieidbaaGreatChecked
import GoSem.Claim
import GoSem.ClaimJoined
import GoSem.ClaimMapViews
import Derived.JoinedTies
import Derived.KernelRfl
namespace Go.Proofs.YtljgpjhcieidbaaGreat
/- THE CELL 'sum', in the pinned program and in every row, IS THE sha256 OF THE DUMP (.gsa) THAT YtljgpjhcieidbaaGreatProg.lean LOADS. Nothing in Lean hashes anything: it is a label: what it is worth is what the hold of that sum in a sandbox is worth. -/
noncomputable def Tryz.pinned : Pinned := { name := "ytljgpjhcieidbaagreat", sum := "98724e511a760cd6943a8b285bc0991e316050f430da1407f29c9372c65a26ac", checked := Tryz.checked }
namespace Rows
def none {H : Type} : Left H := { results := [], args := [] }

/-- 'gridmarketlaw09.FactorDet': WHATEVER THE INPUT: true; the input reads as it did. -/
def factorDetSpec : ChangeSpec := { name := "factorDet", fn := fun _ => fun
  | [d1, d2, d3] => { results := [.lit (.bool true)], args := [d1, d2, d3] }
  | _ => none }
def factorDetRow : OpenClaim := { program := "ytljgpjhcieidbaagreat", sum := "98724e511a760cd6943a8b285bc0991e316050f430da1407f29c9372c65a26ac", func := "gridmarket/gridmarketlaw09.FactorDet", spec := "factorDet", unfollowed := true, recurses := true, apart := false }
def FactorDetSaid : Prop := factorDetRow.holds Tryz.pinned (OpenSpec.ofChange factorDetSpec)

/-- ITS FALSE NEIGHBOUR: 'it returns false'. Refute it at one input. -/
def factorDetWrong : ChangeSpec := { name := "factorDet", fn := fun _ => fun
  | [d1, d2, d3] => { results := [.lit (.bool false)], args := [d1, d2, d3] }
  | _ => none }
def FactorDetWrongFalsely : Prop := factorDetRow.holds Tryz.pinned (OpenSpec.ofChange factorDetWrong)

/-- 'gridmarketlaw09.FactorRank': WHATEVER THE INPUT: true; the input reads as it did. -/
def factorRankSpec : ChangeSpec := { name := "factorRank", fn := fun _ => fun
  | [d1, d2] => { results := [.lit (.bool true)], args := [d1, d2] }
  | _ => none }
def factorRankRow : OpenClaim := { program := "ytljgpjhcieidbaagreat", sum := "98724e511a760cd6943a8b285bc0991e316050f430da1407f29c9372c65a26ac", func := "gridmarket/gridmarketlaw09.FactorRank", spec := "factorRank", unfollowed := true, recurses := true, apart := false }
def FactorRankSaid : Prop := factorRankRow.holds Tryz.pinned (OpenSpec.ofChange factorRankSpec)

/-- ITS FALSE NEIGHBOUR: 'it returns false'. Refute it at one input. -/
def factorRankWrong : ChangeSpec := { name := "factorRank", fn := fun _ => fun
  | [d1, d2] => { results := [.lit (.bool false)], args := [d1, d2] }
  | _ => none }
def FactorRankWrongFalsely : Prop := factorRankRow.holds Tryz.pinned (OpenSpec.ofChange factorRankWrong)

/-- 'gridmarketlaw09.FactorLinear': WHATEVER THE INPUT: true; the input reads as it did. -/
def factorLinearSpec : ChangeSpec := { name := "factorLinear", fn := fun _ => fun
  | [d1, d2] => { results := [.lit (.bool true)], args := [d1, d2] }
  | _ => none }
def factorLinearRow : OpenClaim := { program := "ytljgpjhcieidbaagreat", sum := "98724e511a760cd6943a8b285bc0991e316050f430da1407f29c9372c65a26ac", func := "gridmarket/gridmarketlaw09.FactorLinear", spec := "factorLinear", unfollowed := true, recurses := true, apart := false }
def FactorLinearSaid : Prop := factorLinearRow.holds Tryz.pinned (OpenSpec.ofChange factorLinearSpec)

/-- ITS FALSE NEIGHBOUR: 'it returns false'. Refute it at one input. -/
def factorLinearWrong : ChangeSpec := { name := "factorLinear", fn := fun _ => fun
  | [d1, d2] => { results := [.lit (.bool false)], args := [d1, d2] }
  | _ => none }
def FactorLinearWrongFalsely : Prop := factorLinearRow.holds Tryz.pinned (OpenSpec.ofChange factorLinearWrong)

/-- 'gridmarketlaw09.FactorKernel': WHATEVER THE INPUT: true; the input reads as it did. -/
def factorKernelSpec : ChangeSpec := { name := "factorKernel", fn := fun _ => fun
  | [d1, d2] => { results := [.lit (.bool true)], args := [d1, d2] }
  | _ => none }
def factorKernelRow : OpenClaim := { program := "ytljgpjhcieidbaagreat", sum := "98724e511a760cd6943a8b285bc0991e316050f430da1407f29c9372c65a26ac", func := "gridmarket/gridmarketlaw09.FactorKernel", spec := "factorKernel", unfollowed := true, recurses := true, apart := false }
def FactorKernelSaid : Prop := factorKernelRow.holds Tryz.pinned (OpenSpec.ofChange factorKernelSpec)

/-- ITS FALSE NEIGHBOUR: 'it returns false'. Refute it at one input. -/
def factorKernelWrong : ChangeSpec := { name := "factorKernel", fn := fun _ => fun
  | [d1, d2] => { results := [.lit (.bool false)], args := [d1, d2] }
  | _ => none }
def FactorKernelWrongFalsely : Prop := factorKernelRow.holds Tryz.pinned (OpenSpec.ofChange factorKernelWrong)

/-- 'gridmarketlaw09.FactorFactors': WHATEVER THE INPUT: true; the input reads as it did. -/
def factorFactorsSpec : ChangeSpec := { name := "factorFactors", fn := fun _ => fun
  | [d1, d2] => { results := [.lit (.bool true)], args := [d1, d2] }
  | _ => none }
def factorFactorsRow : OpenClaim := { program := "ytljgpjhcieidbaagreat", sum := "98724e511a760cd6943a8b285bc0991e316050f430da1407f29c9372c65a26ac", func := "gridmarket/gridmarketlaw09.FactorFactors", spec := "factorFactors", unfollowed := true, recurses := true, apart := false }
def FactorFactorsSaid : Prop := factorFactorsRow.holds Tryz.pinned (OpenSpec.ofChange factorFactorsSpec)

/-- ITS FALSE NEIGHBOUR: 'it returns false'. Refute it at one input. -/
def factorFactorsWrong : ChangeSpec := { name := "factorFactors", fn := fun _ => fun
  | [d1, d2] => { results := [.lit (.bool false)], args := [d1, d2] }
  | _ => none }
def FactorFactorsWrongFalsely : Prop := factorFactorsRow.holds Tryz.pinned (OpenSpec.ofChange factorFactorsWrong)

/- THE SECOND FORM. 'bulk': how many values and letters a reading holds, each counted each time it is reached (what is shared counts as often as it is met; a slice's spare places count too). A statement '..UptoSaid' is the law's where the arguments, and the package variables that the reading takes, are together of bulk at most 1048576: NARROWER than '..Said'. Prove '..Said' where nothing that the law and all that it calls make is longer than what came in: it says more and counts as full. Else prove '..UptoSaid'. A law counts once. -/
mutual
def uptoBulk {H : Type} : DataW H → Nat
  | .lit (.string bytes) => bytes.length + 1
  | .lit _ => 1
  | .nil => 1
  | .ptr d => uptoBulk d + 1
  | .slice elems spare => uptoBulkAll elems + uptoBulkAll spare + 1
  | .agg parts => uptoBulkAll parts + 1
  | .iface _ d => uptoBulk d + 1
  | .map entries => uptoBulkEntries entries + 1
  | .held _ => 1
def uptoBulkAll {H : Type} : List (DataW H) → Nat
  | [] => 0
  | d :: r => uptoBulk d + uptoBulkAll r
def uptoBulkEntries {H : Type} : List (Lit × DataW H) → Nat
  | [] => 0
  | x :: r => uptoBulkEntry x + uptoBulkEntries r
def uptoBulkEntry {H : Type} : Lit × DataW H → Nat
  | (.string bytes, d) => bytes.length + uptoBulk d + 1
  | (_, d) => uptoBulk d + 1
 end
def uptoSmall : (H : Type) → List (DataW H) → Bool := fun _ ds => decide (uptoBulkAll ds ≤ 1048576)
def OpenSpec.upto (s : _root_.Go.ChangeSpec) : _root_.Go.OpenSpec := { _root_.Go.OpenSpec.ofChange s with cond := some uptoSmall }

/-- 'gridmarketlaw09.FactorDet', WHERE WHAT IT READS IS OF BULK AT MOST 1048576: true; the input reads as it did. -/
def factorDetUptoRow : OpenClaim := { program := "ytljgpjhcieidbaagreat", sum := "98724e511a760cd6943a8b285bc0991e316050f430da1407f29c9372c65a26ac", func := "gridmarket/gridmarketlaw09.FactorDet", spec := "factorDet", unfollowed := true, recurses := true, apart := false, narrowed := true }
def FactorDetUptoSaid : Prop := factorDetUptoRow.holds Tryz.pinned (OpenSpec.upto factorDetSpec)

/-- 'gridmarketlaw09.FactorRank', WHERE WHAT IT READS IS OF BULK AT MOST 1048576: true; the input reads as it did. -/
def factorRankUptoRow : OpenClaim := { program := "ytljgpjhcieidbaagreat", sum := "98724e511a760cd6943a8b285bc0991e316050f430da1407f29c9372c65a26ac", func := "gridmarket/gridmarketlaw09.FactorRank", spec := "factorRank", unfollowed := true, recurses := true, apart := false, narrowed := true }
def FactorRankUptoSaid : Prop := factorRankUptoRow.holds Tryz.pinned (OpenSpec.upto factorRankSpec)

/-- 'gridmarketlaw09.FactorLinear', WHERE WHAT IT READS IS OF BULK AT MOST 1048576: true; the input reads as it did. -/
def factorLinearUptoRow : OpenClaim := { program := "ytljgpjhcieidbaagreat", sum := "98724e511a760cd6943a8b285bc0991e316050f430da1407f29c9372c65a26ac", func := "gridmarket/gridmarketlaw09.FactorLinear", spec := "factorLinear", unfollowed := true, recurses := true, apart := false, narrowed := true }
def FactorLinearUptoSaid : Prop := factorLinearUptoRow.holds Tryz.pinned (OpenSpec.upto factorLinearSpec)

/-- 'gridmarketlaw09.FactorKernel', WHERE WHAT IT READS IS OF BULK AT MOST 1048576: true; the input reads as it did. -/
def factorKernelUptoRow : OpenClaim := { program := "ytljgpjhcieidbaagreat", sum := "98724e511a760cd6943a8b285bc0991e316050f430da1407f29c9372c65a26ac", func := "gridmarket/gridmarketlaw09.FactorKernel", spec := "factorKernel", unfollowed := true, recurses := true, apart := false, narrowed := true }
def FactorKernelUptoSaid : Prop := factorKernelUptoRow.holds Tryz.pinned (OpenSpec.upto factorKernelSpec)

/-- 'gridmarketlaw09.FactorFactors', WHERE WHAT IT READS IS OF BULK AT MOST 1048576: true; the input reads as it did. -/
def factorFactorsUptoRow : OpenClaim := { program := "ytljgpjhcieidbaagreat", sum := "98724e511a760cd6943a8b285bc0991e316050f430da1407f29c9372c65a26ac", func := "gridmarket/gridmarketlaw09.FactorFactors", spec := "factorFactors", unfollowed := true, recurses := true, apart := false, narrowed := true }
def FactorFactorsUptoSaid : Prop := factorFactorsUptoRow.holds Tryz.pinned (OpenSpec.upto factorFactorsSpec)

end Rows
end Go.Proofs.YtljgpjhcieidbaaGreat
