/-
  No cell of these rows narrows 'for every input' (looked for: loops, veiled, ifaces, maps, wideKeys, modest, calm, conditions, laid).
  DERIVED. THE GIVEN ROWS OF THIS SEAT. 5 by the template 'for every input the law returns true; each argument reads behind the call as it read before'; 0 by the template 'total and deterministic' (their statements: YtiflhbllbgajeaaGreatTotals.lean).
  GIVEN WITH THE SEED: the statements are not yours to turn. If you find one false, say at which input.
  Laid BY PROGRAM, IN A SANDBOX (cutbox-rows.mjs): the forced cells as the released guide's own fill.sh prints them over the translation aaf7bfcae8f885e0… (all of the seat's roots in one cut). By AI agents, Wed Nov 11 2026. No macro, syntax, notation, axiom, sorry.
-/
import Derived.Test.YtiflhbllbgajeaaGreatChecked
import GoSem.Claim
import GoSem.ClaimJoined
import GoSem.ClaimMapViews
import Derived.JoinedTies
import Derived.KernelRfl
namespace Go.Proofs.YtiflhbllbgajeaaGreat
/- THE CELL 'sum', in the pinned program and in every row, IS THE sha256 OF THE DUMP (.gsa) THAT YtiflhbllbgajeaaGreatProg.lean LOADS. Nothing in Lean hashes anything: it is a label: what it is worth is what the hold of that sum in a sandbox is worth. -/
noncomputable def Tryz.pinned : Pinned := { name := "ytiflhbllbgajeaagreat", sum := "aaf7bfcae8f885e06594026af119bb1e10ac06613ff1b1faf2138fc40423710d", checked := Tryz.checked }
namespace Rows
def none {H : Type} : Left H := { results := [], args := [] }

/-- 'gridmarketlaw22.SensitivityBridges': WHATEVER THE INPUT: true; the input reads as it did. -/
def sensitivityBridgesSpec : ChangeSpec := { name := "sensitivityBridges", fn := fun _ => fun
  | [d] => { results := [.lit (.bool true)], args := [d] }
  | _ => none }
def sensitivityBridgesRow : OpenClaim := { program := "ytiflhbllbgajeaagreat", sum := "aaf7bfcae8f885e06594026af119bb1e10ac06613ff1b1faf2138fc40423710d", func := "gridmarket/gridmarketlaw22.SensitivityBridges", spec := "sensitivityBridges", unfollowed := true, recurses := true, apart := false }
def SensitivityBridgesSaid : Prop := sensitivityBridgesRow.holds Tryz.pinned (OpenSpec.ofChange sensitivityBridgesSpec)

/-- ITS FALSE NEIGHBOUR: 'it returns false'. Refute it at one input. -/
def sensitivityBridgesWrong : ChangeSpec := { name := "sensitivityBridges", fn := fun _ => fun
  | [d] => { results := [.lit (.bool false)], args := [d] }
  | _ => none }
def SensitivityBridgesWrongFalsely : Prop := sensitivityBridgesRow.holds Tryz.pinned (OpenSpec.ofChange sensitivityBridgesWrong)

/-- 'gridmarketlaw22.SensitivityProjects': WHATEVER THE INPUT: true; the input reads as it did. -/
def sensitivityProjectsSpec : ChangeSpec := { name := "sensitivityProjects", fn := fun _ => fun
  | [d] => { results := [.lit (.bool true)], args := [d] }
  | _ => none }
def sensitivityProjectsRow : OpenClaim := { program := "ytiflhbllbgajeaagreat", sum := "aaf7bfcae8f885e06594026af119bb1e10ac06613ff1b1faf2138fc40423710d", func := "gridmarket/gridmarketlaw22.SensitivityProjects", spec := "sensitivityProjects", unfollowed := true, recurses := true, apart := false }
def SensitivityProjectsSaid : Prop := sensitivityProjectsRow.holds Tryz.pinned (OpenSpec.ofChange sensitivityProjectsSpec)

/-- ITS FALSE NEIGHBOUR: 'it returns false'. Refute it at one input. -/
def sensitivityProjectsWrong : ChangeSpec := { name := "sensitivityProjects", fn := fun _ => fun
  | [d] => { results := [.lit (.bool false)], args := [d] }
  | _ => none }
def SensitivityProjectsWrongFalsely : Prop := sensitivityProjectsRow.holds Tryz.pinned (OpenSpec.ofChange sensitivityProjectsWrong)

/-- 'gridmarketlaw22.SensitivityReciprocal': WHATEVER THE INPUT: true; the input reads as it did. -/
def sensitivityReciprocalSpec : ChangeSpec := { name := "sensitivityReciprocal", fn := fun _ => fun
  | [d] => { results := [.lit (.bool true)], args := [d] }
  | _ => none }
def sensitivityReciprocalRow : OpenClaim := { program := "ytiflhbllbgajeaagreat", sum := "aaf7bfcae8f885e06594026af119bb1e10ac06613ff1b1faf2138fc40423710d", func := "gridmarket/gridmarketlaw22.SensitivityReciprocal", spec := "sensitivityReciprocal", unfollowed := true, recurses := true, apart := false }
def SensitivityReciprocalSaid : Prop := sensitivityReciprocalRow.holds Tryz.pinned (OpenSpec.ofChange sensitivityReciprocalSpec)

/-- ITS FALSE NEIGHBOUR: 'it returns false'. Refute it at one input. -/
def sensitivityReciprocalWrong : ChangeSpec := { name := "sensitivityReciprocal", fn := fun _ => fun
  | [d] => { results := [.lit (.bool false)], args := [d] }
  | _ => none }
def SensitivityReciprocalWrongFalsely : Prop := sensitivityReciprocalRow.holds Tryz.pinned (OpenSpec.ofChange sensitivityReciprocalWrong)

/-- 'gridmarketlaw22.SensitivityShifts': WHATEVER THE INPUT: true; the input reads as it did. -/
def sensitivityShiftsSpec : ChangeSpec := { name := "sensitivityShifts", fn := fun _ => fun
  | [d] => { results := [.lit (.bool true)], args := [d] }
  | _ => none }
def sensitivityShiftsRow : OpenClaim := { program := "ytiflhbllbgajeaagreat", sum := "aaf7bfcae8f885e06594026af119bb1e10ac06613ff1b1faf2138fc40423710d", func := "gridmarket/gridmarketlaw22.SensitivityShifts", spec := "sensitivityShifts", unfollowed := true, recurses := true, apart := false }
def SensitivityShiftsSaid : Prop := sensitivityShiftsRow.holds Tryz.pinned (OpenSpec.ofChange sensitivityShiftsSpec)

/-- ITS FALSE NEIGHBOUR: 'it returns false'. Refute it at one input. -/
def sensitivityShiftsWrong : ChangeSpec := { name := "sensitivityShifts", fn := fun _ => fun
  | [d] => { results := [.lit (.bool false)], args := [d] }
  | _ => none }
def SensitivityShiftsWrongFalsely : Prop := sensitivityShiftsRow.holds Tryz.pinned (OpenSpec.ofChange sensitivityShiftsWrong)

/-- 'gridmarketlaw22.SensitivityAgrees': WHATEVER THE INPUT: true; the input reads as it did. -/
def sensitivityAgreesSpec : ChangeSpec := { name := "sensitivityAgrees", fn := fun _ => fun
  | [d1, d2] => { results := [.lit (.bool true)], args := [d1, d2] }
  | _ => none }
def sensitivityAgreesRow : OpenClaim := { program := "ytiflhbllbgajeaagreat", sum := "aaf7bfcae8f885e06594026af119bb1e10ac06613ff1b1faf2138fc40423710d", func := "gridmarket/gridmarketlaw22.SensitivityAgrees", spec := "sensitivityAgrees", unfollowed := true, recurses := true, apart := false }
def SensitivityAgreesSaid : Prop := sensitivityAgreesRow.holds Tryz.pinned (OpenSpec.ofChange sensitivityAgreesSpec)

/-- ITS FALSE NEIGHBOUR: 'it returns false'. Refute it at one input. -/
def sensitivityAgreesWrong : ChangeSpec := { name := "sensitivityAgrees", fn := fun _ => fun
  | [d1, d2] => { results := [.lit (.bool false)], args := [d1, d2] }
  | _ => none }
def SensitivityAgreesWrongFalsely : Prop := sensitivityAgreesRow.holds Tryz.pinned (OpenSpec.ofChange sensitivityAgreesWrong)

/- THE SECOND FORM. 'bulk': how many values and letters a reading holds, each counted each time it is reached (what is shared counts as often as it is met; a slice's spare places count too). A statement '..UptoSaid' is the law's where the arguments, and the package variables that the reading takes, are together of bulk at most 1048576: NARROWER than '..Said'. Prove '..Said' where nothing that the law and all that it calls make is longer than what came in: it says more and counts as full. Else prove '..UptoSaid'. A law counts once. -/
mutual
def uptoBulk {H : Type} : DataW H → Nat
  | .lit (.string bytes) => bytes.length + 1
  | .lit _ => 1
  | .nil => 1
  | .ptr d => uptoBulk d + 1
  | .slice elems spare => uptoBulkAll elems + uptoBulkAll spare + 1
  | .agg parts => uptoBulkAll parts + 1
  | .iface _ d => uptoBulk d + 1
  | .map entries => uptoBulkEntries entries + 1
  | .held _ => 1
def uptoBulkAll {H : Type} : List (DataW H) → Nat
  | [] => 0
  | d :: r => uptoBulk d + uptoBulkAll r
def uptoBulkEntries {H : Type} : List (Lit × DataW H) → Nat
  | [] => 0
  | x :: r => uptoBulkEntry x + uptoBulkEntries r
def uptoBulkEntry {H : Type} : Lit × DataW H → Nat
  | (.string bytes, d) => bytes.length + uptoBulk d + 1
  | (_, d) => uptoBulk d + 1
 end
def uptoSmall : (H : Type) → List (DataW H) → Bool := fun _ ds => decide (uptoBulkAll ds ≤ 1048576)
def OpenSpec.upto (s : _root_.Go.ChangeSpec) : _root_.Go.OpenSpec := { _root_.Go.OpenSpec.ofChange s with cond := some uptoSmall }

/-- 'gridmarketlaw22.SensitivityBridges', WHERE WHAT IT READS IS OF BULK AT MOST 1048576: true; the input reads as it did. -/
def sensitivityBridgesUptoRow : OpenClaim := { program := "ytiflhbllbgajeaagreat", sum := "aaf7bfcae8f885e06594026af119bb1e10ac06613ff1b1faf2138fc40423710d", func := "gridmarket/gridmarketlaw22.SensitivityBridges", spec := "sensitivityBridges", unfollowed := true, recurses := true, apart := false, narrowed := true }
def SensitivityBridgesUptoSaid : Prop := sensitivityBridgesUptoRow.holds Tryz.pinned (OpenSpec.upto sensitivityBridgesSpec)

/-- 'gridmarketlaw22.SensitivityProjects', WHERE WHAT IT READS IS OF BULK AT MOST 1048576: true; the input reads as it did. -/
def sensitivityProjectsUptoRow : OpenClaim := { program := "ytiflhbllbgajeaagreat", sum := "aaf7bfcae8f885e06594026af119bb1e10ac06613ff1b1faf2138fc40423710d", func := "gridmarket/gridmarketlaw22.SensitivityProjects", spec := "sensitivityProjects", unfollowed := true, recurses := true, apart := false, narrowed := true }
def SensitivityProjectsUptoSaid : Prop := sensitivityProjectsUptoRow.holds Tryz.pinned (OpenSpec.upto sensitivityProjectsSpec)

/-- 'gridmarketlaw22.SensitivityReciprocal', WHERE WHAT IT READS IS OF BULK AT MOST 1048576: true; the input reads as it did. -/
def sensitivityReciprocalUptoRow : OpenClaim := { program := "ytiflhbllbgajeaagreat", sum := "aaf7bfcae8f885e06594026af119bb1e10ac06613ff1b1faf2138fc40423710d", func := "gridmarket/gridmarketlaw22.SensitivityReciprocal", spec := "sensitivityReciprocal", unfollowed := true, recurses := true, apart := false, narrowed := true }
def SensitivityReciprocalUptoSaid : Prop := sensitivityReciprocalUptoRow.holds Tryz.pinned (OpenSpec.upto sensitivityReciprocalSpec)

/-- 'gridmarketlaw22.SensitivityShifts', WHERE WHAT IT READS IS OF BULK AT MOST 1048576: true; the input reads as it did. -/
def sensitivityShiftsUptoRow : OpenClaim := { program := "ytiflhbllbgajeaagreat", sum := "aaf7bfcae8f885e06594026af119bb1e10ac06613ff1b1faf2138fc40423710d", func := "gridmarket/gridmarketlaw22.SensitivityShifts", spec := "sensitivityShifts", unfollowed := true, recurses := true, apart := false, narrowed := true }
def SensitivityShiftsUptoSaid : Prop := sensitivityShiftsUptoRow.holds Tryz.pinned (OpenSpec.upto sensitivityShiftsSpec)

/-- 'gridmarketlaw22.SensitivityAgrees', WHERE WHAT IT READS IS OF BULK AT MOST 1048576: true; the input reads as it did. -/
def sensitivityAgreesUptoRow : OpenClaim := { program := "ytiflhbllbgajeaagreat", sum := "aaf7bfcae8f885e06594026af119bb1e10ac06613ff1b1faf2138fc40423710d", func := "gridmarket/gridmarketlaw22.SensitivityAgrees", spec := "sensitivityAgrees", unfollowed := true, recurses := true, apart := false, narrowed := true }
def SensitivityAgreesUptoSaid : Prop := sensitivityAgreesUptoRow.holds Tryz.pinned (OpenSpec.upto sensitivityAgreesSpec)

end Rows
end Go.Proofs.YtiflhbllbgajeaaGreat
