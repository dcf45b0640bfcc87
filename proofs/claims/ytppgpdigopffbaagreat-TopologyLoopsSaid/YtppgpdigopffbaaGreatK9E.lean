/- Parts: Vt, Vs, Ta, TPA, Tb, TPB, Td, Te, TPC, TPD, TPE, TPF, TPG, Tf, TPH, Tc, TPI. -/
import Derived.Test.YtppgpdigopffbaaGreatRows
import Derived.Test.YtppgpdigopffbaaGreatK9D
namespace Go.Proofs.YtppgpdigopffbaaGreat
open Go.Vc Go.Gw
abbrev In64 (a : Int) : Prop := IntKind.i64.min ≤ a ∧ a ≤ IntKind.i64.max
abbrev InU64 (a : Int) : Prop := IntKind.u64.min ≤ a ∧ a ≤ IntKind.u64.max
abbrev WfU (l : List Int) : Prop := List.length l ≤ (9223372036854775807 : Nat) ∧ ∀ (x : Int), x ∈ l → IntKind.u32.min ≤ x ∧ x ≤ IntKind.u32.max
abbrev WfI (l : List Int) : Prop := List.length l ≤ (9223372036854775807 : Nat) ∧ ∀ (x : Int), x ∈ l → IntKind.i64.min ≤ x ∧ x ≤ IntKind.i64.max
abbrev WfZ (z : Bool × List Int) : Prop := True ∧ WfU z.snd
abbrev WfQ (q : (Bool × List Int) × List Int) : Prop := WfZ q.fst ∧ WfU q.snd
abbrev WfE (e : Int × (Bool × List Int) × List Int) : Prop := In64 e.fst ∧ WfZ e.snd.fst ∧ WfU e.snd.snd
abbrev WfEs (l : List (Int × (Bool × List Int) × List Int)) : Prop := List.length l ≤ (9223372036854775807 : Nat) ∧ ∀ (x : Int × (Bool × List Int) × List Int), x ∈ l → WfE x
abbrev QQ := (Bool × List Int) × List Int
abbrev EE := Int × (Bool × List Int) × List Int
abbrev dQ : QQ := ((false, []), [])
abbrev dEE : EE := ((0 : Int), (false, []), [])
def tys : List (Nat × TI) := [(2, { ty := (.int .i64), agg := false }),
  (3, { ty := (.int .i64), agg := false }),
  (4, { ty := .bool, agg := false }),
  (22, { ty := (.sl (.int .i64)), agg := false, elem := 3, bytes := 8 }),
  (23, { ty := (.sl (.pair (.int .i64) (.int .i64))), agg := false, elem := 30, bytes := 16 }),
  (30, { ty := (.pair (.int .i64) (.int .i64)), agg := true, elem := 3, arr := 2 }),
  (33, { ty := (.sl .bool), agg := false, elem := 4, bytes := 1 }),
  (34, { ty := (.sl (.pair (.int .i64) (.pair (.pair .bool (.sl (.int .u32))) (.sl (.int .u32))))), agg := false, elem := 49, bytes := 64 }),
  (40, { ty := (.sl (.int .u32)), agg := false, elem := 87, bytes := 4 }),
  (42, { ty := (.pair .bool (.sl (.int .u32))), agg := true, fields := [(0, 1, false), (1, 1, false)] }),
  (44, { ty := (.pair (.pair .bool (.sl (.int .u32))) (.sl (.int .u32))), agg := true, fields := [(0, 2, true), (2, 1, false)] }),
  (47, { ty := (.sl (.pair (.pair .bool (.sl (.int .u32))) (.sl (.int .u32)))), agg := false, elem := 44, bytes := 56 }),
  (49, { ty := (.pair (.int .i64) (.pair (.pair .bool (.sl (.int .u32))) (.sl (.int .u32)))), agg := true, fields := [(0, 1, false), (1, 3, true)] }),
  (64, { ty := (.sl (.sl (.pair (.int .i64) (.int .i64)))), agg := false, elem := 23, bytes := 24 }),
  (67, { ty := (.sl (.int .i64)), agg := false, elem := 3, bytes := 8 }),
  (73, { ty := (.mp false (.int .i64) false .bool), agg := false, elem := 4, key := 3 }),
  (87, { ty := (.int .u32), agg := false }),
  (90, { ty := (.pair (.sl (.int .i64)) (.int .i64)), agg := true, fields := [(0, 1, false), (1, 1, false)] }),
  (93, { ty := (.int .u64), agg := false }),
  (96, { ty := (.int .u64), agg := false }),
  (130, { ty := (.sl (.sl (.pair (.int .i64) (.pair (.pair .bool (.sl (.int .u32))) (.sl (.int .u32)))))), agg := false, elem := 34, bytes := 24 })]
theorem tys_ok : tysOk Tryz.prog tys = true := by kernel_rfl
def tysR : List (Nat × TI) := [(2, { ty := (.int .i64), agg := false }),
  (3, { ty := (.int .i64), agg := false }),
  (4, { ty := .bool, agg := false }),
  (22, { ty := (.sl (.int .i64)), agg := false, elem := 3, bytes := 8 }),
  (23, { ty := (.sl (.pair (.int .i64) (.int .i64))), agg := false, elem := 30, bytes := 16 }),
  (30, { ty := (.pair (.int .i64) (.int .i64)), agg := true, elem := 3, arr := 2 }),
  (33, { ty := (.sl .bool), agg := false, elem := 4, bytes := 1 }),
  (34, { ty := (.sl (.pair (.int .i64) (.pair (.pair .bool (.sl (.int .u32))) (.sl (.int .u32))))), agg := false, elem := 49, bytes := 64 }),
  (40, { ty := (.sl (.int .u32)), agg := false, elem := 87, bytes := 4 }),
  (42, { ty := (.pair .bool (.sl (.int .u32))), agg := true, fields := [(0, 1, false), (1, 1, false)] }),
  (44, { ty := (.pair (.pair .bool (.sl (.int .u32))) (.sl (.int .u32))), agg := true, fields := [(0, 2, true), (2, 1, false)] }),
  (47, { ty := (.sl (.pair (.pair .bool (.sl (.int .u32))) (.sl (.int .u32)))), agg := false, elem := 44, bytes := 56 }),
  (49, { ty := (.pair (.int .i64) (.pair (.pair .bool (.sl (.int .u32))) (.sl (.int .u32)))), agg := true, fields := [(0, 1, false), (1, 3, true)] }),
  (64, { ty := (.sl (.sl (.pair (.int .i64) (.int .i64)))), agg := false, elem := 23, bytes := 24, rows := true }),
  (67, { ty := (.sl (.int .i64)), agg := false, elem := 3, bytes := 8 }),
  (73, { ty := (.mp false (.int .i64) false .bool), agg := false, elem := 4, key := 3 }),
  (87, { ty := (.int .u32), agg := false }),
  (90, { ty := (.pair (.sl (.int .i64)) (.int .i64)), agg := true, fields := [(0, 1, false), (1, 1, false)] }),
  (93, { ty := (.int .u64), agg := false }),
  (96, { ty := (.int .u64), agg := false }),
  (130, { ty := (.sl (.sl (.pair (.int .i64) (.pair (.pair .bool (.sl (.int .u32))) (.sl (.int .u32)))))), agg := false, elem := 34, bytes := 24 })]
theorem tysR_ok : tysOk Tryz.prog tysR = true := by kernel_rfl
end Go.Proofs.YtppgpdigopffbaaGreat
namespace Go.Proofs.YtppgpdigopffbaaGreat
open Go.Vc Go.Gw
def s_law19_TopologyLoops : FSpec := { args := [.val false (.sl (.int .i64))], res := [.val false .bool], shared := false, pre := fun (x : (List Int) × Unit) => True, post := fun (x : (List Int) × Unit) (r : Bool × Unit) => r.1 = true }
def s_law19_network : FSpec := { args := [.val false (.sl (.int .i64))], res := [.val false (.int .i64), .val false (.sl (.pair (.int .i64) (.int .i64)))], shared := true, pre := fun (x : (List Int) × Unit) => True, post := fun (x : (List Int) × Unit) (r : Int × (List (Int × Int)) × Unit) => netOk r.1 r.2.1 ∧ r.1 ≤ 7 ∧ r.2.1.length ≤ 12 }
def s_topology_Forest : FSpec := { args := [.val false (.int .i64), .val false (.sl (.pair (.int .i64) (.int .i64)))], res := [.val false (.sl (.int .i64)), .val false (.int .i64)], shared := true, pre := fun (x : Int × (List (Int × Int)) × Unit) => True, post := fun (x : Int × (List (Int × Int)) × Unit) (r : (List Int) × Int × Unit) => r.1 = (if netE x.1 x.2.1 = 0 then forestF x.1 x.2.1 else []) ∧ r.2.1 = netE x.1 x.2.1 }
def s_topology_Islands : FSpec := { args := [.val false (.int .i64), .val false (.sl (.pair (.int .i64) (.int .i64)))], res := [.val false (.sl (.int .i64)), .val false (.int .i64)], shared := true, pre := fun (x : Int × (List (Int × Int)) × Unit) => True, post := fun (x : Int × (List (Int × Int)) × Unit) (r : (List Int) × Int × Unit) => r.1 = (if netE x.1 x.2.1 = 0 then labs x.1 x.2.1 else []) ∧ r.2.1 = netE x.1 x.2.1 }
def s_law19_awake : FSpec := { args := [], res := [.val false .bool], shared := false, pre := fun (x : Unit) => True, post := fun (x : Unit) (r : Bool × Unit) => r.1 = true }
def s_topology_Bridges : FSpec := { args := [.val false (.int .i64), .val false (.sl (.pair (.int .i64) (.int .i64)))], res := [.val false (.sl (.int .i64)), .val false (.int .i64)], shared := true, pre := fun (x : Int × (List (Int × Int)) × Unit) => x.2.1.length ≤ 100000, post := fun (x : Int × (List (Int × Int)) × Unit) (r : (List Int) × Int × Unit) => (netE x.1 x.2.1 ≠ 0 → r.1 = [] ∧ r.2.1 = netE x.1 x.2.1) ∧ (netE x.1 x.2.1 = 0 → r.1 = bridgesF x.1 x.2.1 ∧ r.2.1 = 0) }
def s_help_Equal_int : FSpec := { args := [.val false (.sl (.int .i64)), .val false (.sl (.int .i64))], res := [.val false .bool], shared := false, pre := fun (x : (List Int) × (List Int) × Unit) => True, post := fun (x : (List Int) × (List Int) × Unit) (r : Bool × Unit) => r.1 = decide (x.1 = x.2.1) }
def s_topology_Loop : FSpec := { args := [.val false (.int .i64), .val false (.sl (.pair (.int .i64) (.int .i64))), .val false (.int .i64)], res := [.val false (.sl (.pair (.int .i64) (.pair (.pair .bool (.sl (.int .u32))) (.sl (.int .u32))))), .val false (.int .i64)], shared := true, pre := fun (x : Int × (List (Int × Int)) × Int × Unit) => x.2.1.length ≤ 20, post := fun (x : Int × (List (Int × Int)) × Int × Unit) (r : (List (Int × ((Bool × (List Int)) × (List Int)))) × Int × Unit) => (netE x.1 x.2.1 ≠ 0 → r.1 = [] ∧ r.2.1 = netE x.1 x.2.1) ∧ (netE x.1 x.2.1 = 0 → r.1 = loopP x.1 x.2.1 x.2.2.1 ∧ r.2.1 = loopE x.1 x.2.1 x.2.2.1) }
def s_law19_has : FSpec := { args := [.val false (.sl (.int .i64)), .val false (.int .i64)], res := [.val false .bool], shared := false, pre := fun (x : (List Int) × Int × Unit) => True, post := fun (x : (List Int) × Int × Unit) (r : Bool × Unit) => r.1 = decide (x.2.1 ∈ x.1) }
def s_r06_Valid : FSpec := { args := [.val false (.sl (.pair (.int .i64) (.pair (.pair .bool (.sl (.int .u32))) (.sl (.int .u32))))), .val false (.int .i64)], res := [.val false .bool], shared := false, pre := fun (x : (List (Int × ((Bool × (List Int)) × (List Int)))) × Int × Unit) => ∀ e ∈ x.1, whole e.2, post := fun (x : (List (Int × ((Bool × (List Int)) × (List Int)))) × Int × Unit) (r : Bool × Unit) => r.1 = decide (validV x.1 x.2.1) }
def s_r03_Equal : FSpec := { args := [.val true (.pair (.pair .bool (.sl (.int .u32))) (.sl (.int .u32))), .val true (.pair (.pair .bool (.sl (.int .u32))) (.sl (.int .u32)))], res := [.val false .bool], shared := false, pre := fun (x : ((Bool × (List Int)) × (List Int)) × ((Bool × (List Int)) × (List Int)) × Unit) => True, post := fun (x : ((Bool × (List Int)) × (List Int)) × ((Bool × (List Int)) × (List Int)) × Unit) (r : Bool × Unit) => r.1 = decide (x.1 = x.2.1) }
def s_r06_Get : FSpec := { args := [.val false (.sl (.pair (.int .i64) (.pair (.pair .bool (.sl (.int .u32))) (.sl (.int .u32))))), .val false (.int .i64)], res := [.val true (.pair (.pair .bool (.sl (.int .u32))) (.sl (.int .u32)))], shared := true, pre := fun (x : (List (Int × ((Bool × (List Int)) × (List Int)))) × Int × Unit) => pm x.1 ∧ x.1.length ≤ 1000, post := fun (x : (List (Int × ((Bool × (List Int)) × (List Int)))) × Int × Unit) (r : ((Bool × (List Int)) × (List Int)) × Unit) => r.1 = ri (isum x.1 x.2.1) }
def s_r03_FromInt : FSpec := { args := [.val false (.int .i64)], res := [.val true (.pair (.pair .bool (.sl (.int .u32))) (.sl (.int .u32)))], shared := true, pre := fun (x : Int × Unit) => True, post := fun (x : Int × Unit) (r : ((Bool × (List Int)) × (List Int)) × Unit) => r.1 = ri x.1 }
def s_r03_Add : FSpec := { args := [.val true (.pair (.pair .bool (.sl (.int .u32))) (.sl (.int .u32))), .val true (.pair (.pair .bool (.sl (.int .u32))) (.sl (.int .u32)))], res := [.val true (.pair (.pair .bool (.sl (.int .u32))) (.sl (.int .u32)))], shared := true, pre := fun (x : ((Bool × (List Int)) × (List Int)) × ((Bool × (List Int)) × (List Int)) × Unit) => whole x.1 ∧ whole x.2.1, post := fun (x : ((Bool × (List Int)) × (List Int)) × ((Bool × (List Int)) × (List Int)) × Unit) (r : ((Bool × (List Int)) × (List Int)) × Unit) => r.1 = rc (rv x.1 + rv x.2.1) }
def s_r03_Sub : FSpec := { args := [.val true (.pair (.pair .bool (.sl (.int .u32))) (.sl (.int .u32))), .val true (.pair (.pair .bool (.sl (.int .u32))) (.sl (.int .u32)))], res := [.val true (.pair (.pair .bool (.sl (.int .u32))) (.sl (.int .u32)))], shared := true, pre := fun (x : ((Bool × (List Int)) × (List Int)) × ((Bool × (List Int)) × (List Int)) × Unit) => whole x.1 ∧ whole x.2.1, post := fun (x : ((Bool × (List Int)) × (List Int)) × ((Bool × (List Int)) × (List Int)) × Unit) (r : ((Bool × (List Int)) × (List Int)) × Unit) => r.1 = rc (rv x.1 - rv x.2.1) }
def s_r03_Zero : FSpec := { args := [], res := [.val true (.pair (.pair .bool (.sl (.int .u32))) (.sl (.int .u32)))], shared := true, pre := fun (x : Unit) => True, post := fun (x : Unit) (r : ((Bool × (List Int)) × (List Int)) × Unit) => r.1 = rc 0 }
def s_r03_Sign : FSpec := { args := [.val true (.pair (.pair .bool (.sl (.int .u32))) (.sl (.int .u32)))], res := [.val false (.int .i64)], shared := false, pre := fun (x : ((Bool × (List Int)) × (List Int)) × Unit) => whole x.1, post := fun (x : ((Bool × (List Int)) × (List Int)) × Unit) (r : Int × Unit) => r.1 = (rv x.1).num.sign }
def s_make_New : FSpec := { args := [.val false (.sl (.int .i64))], res := [.obox 90 (.pair (.sl (.int .i64)) (.int .i64))], shared := true, pre := fun (x : (List Int) × Unit) => True, post := fun (x : (List Int) × Unit) (r : ((List Int) × Int) × Unit) => r.1 = (x.1, 0) }
def s_make_Tape_Next : FSpec := { args := [.box 90 (.pair (.sl (.int .i64)) (.int .i64)), .val false (.int .i64)], res := [.val false (.int .i64)], shared := true, pre := fun (x : ((List Int) × Int) × Int × Unit) => 0 < x.2.1 ∧ 0 ≤ x.1.2 ∧ x.1.2 ≤ (x.1.1.length : Int), post := fun (x : ((List Int) × Int) × Int × Unit) (r : Int × Unit) => 0 ≤ r.1 ∧ r.1 < x.2.1, mpost := fun (x : ((List Int) × Int) × Int × Unit) (r : Int × Unit) (o : ((List Int) × Int) × Unit) => o.1.1 = x.1.1 ∧ 0 ≤ o.1.2 ∧ o.1.2 ≤ (x.1.1.length : Int) }
def s_make_Mod : FSpec := { args := [.val false (.int .i64), .val false (.int .i64)], res := [.val false (.int .i64)], shared := false, pre := fun (x : Int × Int × Unit) => 0 < x.2.1, post := fun (x : Int × Int × Unit) (r : Int × Unit) => 0 < x.2.1 → 0 ≤ r.1 ∧ r.1 < x.2.1 }
def s_topology_check : FSpec := { args := [.val false (.int .i64), .val false (.sl (.pair (.int .i64) (.int .i64)))], res := [.val false (.int .i64)], shared := false, pre := fun (x : Int × (List (Int × Int)) × Unit) => True, post := fun (x : Int × (List (Int × Int)) × Unit) (r : Int × Unit) => r.1 = netE x.1 x.2.1 }
def s_topology_tree : FSpec := { args := [.val false (.int .i64), .val false (.sl (.pair (.int .i64) (.int .i64)))], res := [.own (.int .i64) 3, .val false (.sl (.sl (.pair (.int .i64) (.int .i64))))], shared := true, pre := fun (x : Int × (List (Int × Int)) × Unit) => netOk x.1 x.2.1, post := fun (x : Int × (List (Int × Int)) × Unit) (r : (List Int) × (List (List (Int × Int))) × Unit) => r.1 = forestF x.1 x.2.1 ∧ r.2.1 = nextT x.1 x.2.1 }
def s_topology_separate : FSpec := { args := [.val false (.int .i64)], res := [.own (.int .i64) 3], shared := false, pre := fun (x : Int × Unit) => 0 ≤ x.1 ∧ x.1 ≤ 16384, post := fun (x : Int × Unit) (r : (List Int) × Unit) => r.1 = idL x.1 }
def s_topology_sets_join : FSpec := { args := [.row (.int .i64) 3, .val true (.pair (.int .i64) (.int .i64))], res := [.val false .bool], shared := false, pre := fun (x : (List Int) × (Int × Int) × Unit) => UF x.1 ∧ inB x.1.length x.2.1 ∧ x.1.length ≤ 16384, post := fun (x : (List Int) × (Int × Int) × Unit) (r : Bool × Unit) => r.1 = decide (root x.1 x.2.1.1 ≠ root x.1 x.2.1.2), mpost := fun (x : (List Int) × (Int × Int) × Unit) (r : Bool × Unit) (o : (List Int) × Unit) => UF o.1 ∧ o.1.length = x.1.length ∧ ∀ i : Int, 0 ≤ i → i < (x.1.length : Int) → root o.1 i = if root x.1 i = max (root x.1 x.2.1.1) (root x.1 x.2.1.2) then min (root x.1 x.2.1.1) (root x.1 x.2.1.2) else root x.1 i }
def s_topology_sets_least : FSpec := { args := [.row (.int .i64) 3, .val false (.int .i64)], res := [.val false (.int .i64)], shared := false, pre := fun (x : (List Int) × Int × Unit) => UF x.1 ∧ 0 ≤ x.2.1 ∧ x.2.1 < (x.1.length : Int) ∧ x.1.length ≤ 16384, post := fun (x : (List Int) × Int × Unit) (r : Int × Unit) => r.1 = root x.1 x.2.1, mpost := fun (x : (List Int) × Int × Unit) (r : Int × Unit) (o : (List Int) × Unit) => UF o.1 ∧ o.1.length = x.1.length ∧ ∀ i : Int, 0 ≤ i → i < (x.1.length : Int) → root o.1 i = root x.1 i }
def s_r06_Identical : FSpec := { args := [.val false (.sl (.pair (.int .i64) (.pair (.pair .bool (.sl (.int .u32))) (.sl (.int .u32))))), .val false (.sl (.pair (.int .i64) (.pair (.pair .bool (.sl (.int .u32))) (.sl (.int .u32)))))], res := [.val false .bool], shared := false, pre := fun (x : (List (Int × ((Bool × (List Int)) × (List Int)))) × (List (Int × ((Bool × (List Int)) × (List Int)))) × Unit) => ∀ e ∈ x.1, whole e.2, post := fun (x : (List (Int × ((Bool × (List Int)) × (List Int)))) × (List (Int × ((Bool × (List Int)) × (List Int)))) × Unit) (r : Bool × Unit) => r.1 = decide (x.1 = x.2.1 ∧ ∀ e ∈ x.1, e.2 = rc (rv e.2)) }
def s_topology_roots : FSpec := { args := [.val false (.sl (.sl (.pair (.int .i64) (.int .i64))))], res := [.val false (.sl (.int .i64)), .val false (.sl (.pair (.int .i64) (.int .i64)))], shared := true, pre := fun (x : (List (List (Int × Int))) × Unit) => ∃ n ls, netOk n ls ∧ x.1 = nextT n ls, post := fun (x : (List (List (Int × Int))) × Unit) (r : (List Int) × (List (Int × Int)) × Unit) => ∀ n ls, netOk n ls → x.1 = nextT n ls → rootsP n ls r.1 r.2.1 }
def s_slices_BinarySearch_Sint_int : FSpec := { args := [.val false (.sl (.int .i64)), .val false (.int .i64)], res := [.val false (.int .i64), .val false .bool], shared := false, pre := fun (x : (List Int) × Int × Unit) => x.1.Pairwise (· < ·) ∧ x.1.length ≤ 100000, post := fun (x : (List Int) × Int × Unit) (r : Int × Bool × Unit) => r.2.1 = decide (x.2.1 ∈ x.1) }
def s_topology_Bridges_2 : FSpec := { args := [.val false (.int .i64), .val false (.ptr (.mp false (.int .i64) false .bool))], res := [.val false .bool], shared := false, pre := fun (x : Int × (List (Int × Bool)) × Unit) => True, post := fun (x : Int × (List (Int × Bool)) × Unit) (r : Bool × Unit) => r.1 = mB x.2.1 x.1 }
def s_rational_FromInt : FSpec := { args := [.val false (.int .i64)], res := [.val true (.pair (.pair .bool (.sl (.int .u32))) (.sl (.int .u32)))], shared := true, pre := fun (x : Int × Unit) => True, post := fun (x : Int × Unit) (r : ((Bool × (List Int)) × (List Int)) × Unit) => r.1 = ri x.1 }
def s_vector_Norm : FSpec := { args := [.val false (.sl (.pair (.int .i64) (.pair (.pair .bool (.sl (.int .u32))) (.sl (.int .u32)))))], res := [.val false (.sl (.pair (.int .i64) (.pair (.pair .bool (.sl (.int .u32))) (.sl (.int .u32)))))], shared := true, pre := fun (x : (List (Int × ((Bool × (List Int)) × (List Int)))) × Unit) => x.1.length ≤ 20 ∧ (x.1.map (·.1)).Nodup ∧ ∀ e ∈ x.1, e.2 = ri 1 ∨ e.2 = ri (-1), post := fun (x : (List (Int × ((Bool × (List Int)) × (List Int)))) × Unit) (r : (List (Int × ((Bool × (List Int)) × (List Int)))) × Unit) => r.1.Perm x.1 ∧ byIx r.1 }
def s_r02_Equal : FSpec := { args := [.val true (.pair .bool (.sl (.int .u32))), .val true (.pair .bool (.sl (.int .u32)))], res := [.val false .bool], shared := false, pre := fun (x : (Bool × (List Int)) × (Bool × (List Int)) × Unit) => True, post := fun (x : (Bool × (List Int)) × (Bool × (List Int)) × Unit) (r : Bool × Unit) => r.1 = decide (x.1 = x.2.1) }
def s_r01_Equal : FSpec := { args := [.val false (.sl (.int .u32)), .val false (.sl (.int .u32))], res := [.val false .bool], shared := false, pre := fun (x : (List Int) × (List Int) × Unit) => True, post := fun (x : (List Int) × (List Int) × Unit) (r : Bool × Unit) => r.1 = decide (x.1 = x.2.1) }
def s_r03_Make : FSpec := { args := [.val true (.pair .bool (.sl (.int .u32))), .val true (.pair .bool (.sl (.int .u32)))], res := [.val true (.pair (.pair .bool (.sl (.int .u32))) (.sl (.int .u32)))], shared := true, pre := fun (x : (Bool × (List Int)) × (Bool × (List Int)) × Unit) => (iv x.2.1 = 0 ∨ iv x.2.1 = 1) ∧ sh2 x.1.2 ∧ sh2 x.2.1.2, post := fun (x : (Bool × (List Int)) × (Bool × (List Int)) × Unit) (r : ((Bool × (List Int)) × (List Int)) × Unit) => r.1 = rc (divI x.1 x.2.1) }
def s_r02_FromInt : FSpec := { args := [.val false (.int .i64)], res := [.val true (.pair .bool (.sl (.int .u32)))], shared := true, pre := fun (x : Int × Unit) => True, post := fun (x : Int × Unit) (r : (Bool × (List Int)) × Unit) => r.1 = ic x.1 }
def s_r03_Norm : FSpec := { args := [.val true (.pair (.pair .bool (.sl (.int .u32))) (.sl (.int .u32)))], res := [.val true (.pair (.pair .bool (.sl (.int .u32))) (.sl (.int .u32)))], shared := true, pre := fun (x : ((Bool × (List Int)) × (List Int)) × Unit) => whole x.1, post := fun (x : ((Bool × (List Int)) × (List Int)) × Unit) (r : ((Bool × (List Int)) × (List Int)) × Unit) => r.1 = rc (rv x.1) }
def s_r02_Add : FSpec := { args := [.val true (.pair .bool (.sl (.int .u32))), .val true (.pair .bool (.sl (.int .u32)))], res := [.val true (.pair .bool (.sl (.int .u32)))], shared := true, pre := fun (x : (Bool × (List Int)) × (Bool × (List Int)) × Unit) => sh2 x.1.2 ∧ sh2 x.2.1.2, post := fun (x : (Bool × (List Int)) × (Bool × (List Int)) × Unit) (r : (Bool × (List Int)) × Unit) => r.1 = ic (iv x.1 + iv x.2.1) }
def s_r02_Mul : FSpec := { args := [.val true (.pair .bool (.sl (.int .u32))), .val true (.pair .bool (.sl (.int .u32)))], res := [.val true (.pair .bool (.sl (.int .u32)))], shared := true, pre := fun (x : (Bool × (List Int)) × (Bool × (List Int)) × Unit) => sh2 x.1.2 ∧ sh2 x.2.1.2, post := fun (x : (Bool × (List Int)) × (Bool × (List Int)) × Unit) (r : (Bool × (List Int)) × Unit) => r.1 = ic (iv x.1 * iv x.2.1) }
def s_r03_den : FSpec := { args := [.val true (.pair (.pair .bool (.sl (.int .u32))) (.sl (.int .u32)))], res := [.val true (.pair .bool (.sl (.int .u32)))], shared := true, pre := fun (x : ((Bool × (List Int)) × (List Int)) × Unit) => whole x.1, post := fun (x : ((Bool × (List Int)) × (List Int)) × Unit) (r : (Bool × (List Int)) × Unit) => r.1 = ic ((rv x.1).den : Int) }
def s_r03_Neg : FSpec := { args := [.val true (.pair (.pair .bool (.sl (.int .u32))) (.sl (.int .u32)))], res := [.val true (.pair (.pair .bool (.sl (.int .u32))) (.sl (.int .u32)))], shared := true, pre := fun (x : ((Bool × (List Int)) × (List Int)) × Unit) => whole x.1, post := fun (x : ((Bool × (List Int)) × (List Int)) × Unit) (r : ((Bool × (List Int)) × (List Int)) × Unit) => r.1 = rc (-(rv x.1)) }
def s_r02_Sign : FSpec := { args := [.val true (.pair .bool (.sl (.int .u32)))], res := [.val false (.int .i64)], shared := false, pre := fun (x : (Bool × (List Int)) × Unit) => sh1 x.1.2, post := fun (x : (Bool × (List Int)) × Unit) (r : Int × Unit) => r.1 = (iv x.1).sign }
def s_r03_Canonical : FSpec := { args := [.val true (.pair (.pair .bool (.sl (.int .u32))) (.sl (.int .u32)))], res := [.val false .bool], shared := false, pre := fun (x : ((Bool × (List Int)) × (List Int)) × Unit) => whole x.1, post := fun (x : ((Bool × (List Int)) × (List Int)) × Unit) (r : Bool × Unit) => r.1 = decide (x.1 = rc (rv x.1)) }
def s_cmp_Less_int : FSpec := { args := [.val false (.int .i64), .val false (.int .i64)], res := [.val false .bool], shared := false, pre := fun (x : Int × Int × Unit) => True, post := fun (x : Int × Int × Unit) (r : Bool × Unit) => r.1 = decide (x.1 < x.2.1) }
def s_slices_isNaN_int : FSpec := { args := [.val false (.int .i64)], res := [.val false .bool], shared := false, pre := fun (x : Int × Unit) => True, post := fun (x : Int × Unit) (r : Bool × Unit) => r.1 = false }
def s_slices_IndexFunc_Sint_int : FSpec := { args := [.val false (.sl (.int .i64)), .fn [(false, (.int .i64))] false .bool], res := [.val false (.int .i64)], shared := false, pre := fun (x : (List Int) × (((Int × Unit) → Prop) × ((Int × Unit) → Bool)) × Unit) => ∀ i ∈ x.1, x.2.1.1 (i, ()), post := fun (x : (List Int) × (((Int × Unit) → Prop) × ((Int × Unit) → Bool)) × Unit) (r : Int × Unit) => r.1 = idxF (fun i => x.2.1.2 (i, ())) x.1 }
def s_integer_FromInt : FSpec := { args := [.val false (.int .i64)], res := [.val true (.pair .bool (.sl (.int .u32)))], shared := true, pre := fun (x : Int × Unit) => True, post := fun (x : Int × Unit) (r : (Bool × (List Int)) × Unit) => r.1 = ic x.1 }
def s_vector_merge : FSpec := { args := [.val false (.sl (.pair (.int .i64) (.pair (.pair .bool (.sl (.int .u32))) (.sl (.int .u32))))), .val false (.sl (.pair (.int .i64) (.pair (.pair .bool (.sl (.int .u32))) (.sl (.int .u32))))), .fn [(true, (.pair (.pair .bool (.sl (.int .u32))) (.sl (.int .u32)))), (true, (.pair (.pair .bool (.sl (.int .u32))) (.sl (.int .u32))))] true (.pair (.pair .bool (.sl (.int .u32))) (.sl (.int .u32)))], res := [.val false (.sl (.pair (.int .i64) (.pair (.pair .bool (.sl (.int .u32))) (.sl (.int .u32)))))], shared := true, pre := fun (x : (List (Int × ((Bool × (List Int)) × (List Int)))) × (List (Int × ((Bool × (List Int)) × (List Int)))) × (((((Bool × (List Int)) × (List Int)) × ((Bool × (List Int)) × (List Int)) × Unit) → Prop) × ((((Bool × (List Int)) × (List Int)) × ((Bool × (List Int)) × (List Int)) × Unit) → ((Bool × (List Int)) × (List Int)))) × Unit) => x.2.1 = [] ∧ x.1.length ≤ 100000 ∧ ∀ e ∈ x.1, x.2.2.1.1 (e.2, zr, ()) ∧ x.2.2.1.2 (e.2, zr, ()) = e.2 ∧ rsgn e.2 ≠ 0, post := fun (x : (List (Int × ((Bool × (List Int)) × (List Int)))) × (List (Int × ((Bool × (List Int)) × (List Int)))) × (((((Bool × (List Int)) × (List Int)) × ((Bool × (List Int)) × (List Int)) × Unit) → Prop) × ((((Bool × (List Int)) × (List Int)) × ((Bool × (List Int)) × (List Int)) × Unit) → ((Bool × (List Int)) × (List Int)))) × Unit) (r : (List (Int × ((Bool × (List Int)) × (List Int)))) × Unit) => r.1 = x.1 }
def s_vector_arrange : FSpec := { args := [.val false (.sl (.pair (.int .i64) (.pair (.pair .bool (.sl (.int .u32))) (.sl (.int .u32)))))], res := [.val false (.sl (.pair (.int .i64) (.pair (.pair .bool (.sl (.int .u32))) (.sl (.int .u32)))))], shared := true, pre := fun (x : (List (Int × ((Bool × (List Int)) × (List Int)))) × Unit) => x.1.length ≤ 20 ∧ (x.1.map (·.1)).Nodup, post := fun (x : (List (Int × ((Bool × (List Int)) × (List Int)))) × Unit) (r : (List (Int × ((Bool × (List Int)) × (List Int)))) × Unit) => r.1.Perm x.1 ∧ byIx r.1 }
def s_vector_Norm_1 : FSpec := { args := [.val true (.pair (.pair .bool (.sl (.int .u32))) (.sl (.int .u32))), .val true (.pair (.pair .bool (.sl (.int .u32))) (.sl (.int .u32)))], res := [.val true (.pair (.pair .bool (.sl (.int .u32))) (.sl (.int .u32)))], shared := true, pre := fun (x : ((Bool × (List Int)) × (List Int)) × ((Bool × (List Int)) × (List Int)) × Unit) => smallR x.1, post := fun (x : ((Bool × (List Int)) × (List Int)) × ((Bool × (List Int)) × (List Int)) × Unit) (r : ((Bool × (List Int)) × (List Int)) × Unit) => r.1 = rc (rv x.1) }
def s_rational_Norm : FSpec := { args := [.val true (.pair (.pair .bool (.sl (.int .u32))) (.sl (.int .u32)))], res := [.val true (.pair (.pair .bool (.sl (.int .u32))) (.sl (.int .u32)))], shared := true, pre := fun (x : ((Bool × (List Int)) × (List Int)) × Unit) => smallR x.1, post := fun (x : ((Bool × (List Int)) × (List Int)) × Unit) (r : ((Bool × (List Int)) × (List Int)) × Unit) => r.1 = rc (rv x.1) }
def s_r02_Norm : FSpec := { args := [.val true (.pair .bool (.sl (.int .u32)))], res := [.val true (.pair .bool (.sl (.int .u32)))], shared := true, pre := fun (x : (Bool × (List Int)) × Unit) => sh1 x.1.2, post := fun (x : (Bool × (List Int)) × Unit) (r : (Bool × (List Int)) × Unit) => r.1 = ic (iv x.1) }
def s_r02_GCD : FSpec := { args := [.val true (.pair .bool (.sl (.int .u32))), .val true (.pair .bool (.sl (.int .u32)))], res := [.val true (.pair .bool (.sl (.int .u32)))], shared := true, pre := fun (x : (Bool × (List Int)) × (Bool × (List Int)) × Unit) => False, post := fun (x : (Bool × (List Int)) × (Bool × (List Int)) × Unit) (r : (Bool × (List Int)) × Unit) => True }
def s_r02_DivMod : FSpec := { args := [.val true (.pair .bool (.sl (.int .u32))), .val true (.pair .bool (.sl (.int .u32)))], res := [.val true (.pair .bool (.sl (.int .u32))), .val true (.pair .bool (.sl (.int .u32))), .val false .bool], shared := true, pre := fun (x : (Bool × (List Int)) × (Bool × (List Int)) × Unit) => False, post := fun (x : (Bool × (List Int)) × (Bool × (List Int)) × Unit) (r : (Bool × (List Int)) × (Bool × (List Int)) × Bool × Unit) => True }
def s_r02_Neg : FSpec := { args := [.val true (.pair .bool (.sl (.int .u32)))], res := [.val true (.pair .bool (.sl (.int .u32)))], shared := true, pre := fun (x : (Bool × (List Int)) × Unit) => sh1 x.1.2, post := fun (x : (Bool × (List Int)) × Unit) (r : (Bool × (List Int)) × Unit) => r.1 = ic (- iv x.1) }
def s_r02_Make : FSpec := { args := [.val false .bool, .val false (.sl (.int .u32))], res := [.val true (.pair .bool (.sl (.int .u32)))], shared := true, pre := fun (x : Bool × (List Int) × Unit) => sh1 x.2.1, post := fun (x : Bool × (List Int) × Unit) (r : (Bool × (List Int)) × Unit) => r.1 = ic (iv (x.1, x.2.1)) }
def s_r01_FromUint64 : FSpec := { args := [.val false (.int .u64)], res := [.val false (.sl (.int .u32))], shared := true, pre := fun (x : Int × Unit) => True, post := fun (x : Int × Unit) (r : (List Int) × Unit) => r.1 = nc x.1.toNat }
def s_r01_Add : FSpec := { args := [.val false (.sl (.int .u32)), .val false (.sl (.int .u32))], res := [.val false (.sl (.int .u32))], shared := true, pre := fun (x : (List Int) × (List Int) × Unit) => sh1 x.1 ∧ sh1 x.2.1, post := fun (x : (List Int) × (List Int) × Unit) (r : (List Int) × Unit) => r.1 = nc (nv x.1 + nv x.2.1) }
def s_r01_Sub : FSpec := { args := [.val false (.sl (.int .u32)), .val false (.sl (.int .u32))], res := [.val false (.sl (.int .u32)), .val false .bool], shared := true, pre := fun (x : (List Int) × (List Int) × Unit) => sh1 x.1 ∧ sh1 x.2.1, post := fun (x : (List Int) × (List Int) × Unit) (r : (List Int) × Bool × Unit) => (nv x.1 < nv x.2.1 → r.1 = [] ∧ r.2.1 = false) ∧ (nv x.2.1 ≤ nv x.1 → r.1 = nc (nv x.1 - nv x.2.1) ∧ r.2.1 = true) }
def s_r01_Mul : FSpec := { args := [.val false (.sl (.int .u32)), .val false (.sl (.int .u32))], res := [.val false (.sl (.int .u32))], shared := true, pre := fun (x : (List Int) × (List Int) × Unit) => sh1 x.1 ∧ sh1 x.2.1, post := fun (x : (List Int) × (List Int) × Unit) (r : (List Int) × Unit) => r.1 = nc (nv x.1 * nv x.2.1) }
def s_cmp_isNaN_int : FSpec := { args := [.val false (.int .i64)], res := [.val false .bool], shared := false, pre := fun (x : Int × Unit) => True, post := fun (x : Int × Unit) (r : Bool × Unit) => r.1 = false }
def s_integer_signed : FSpec := { args := [.val false .bool, .val false (.sl (.int .u32))], res := [.val true (.pair .bool (.sl (.int .u32)))], shared := true, pre := fun (x : Bool × (List Int) × Unit) => True, post := fun (x : Bool × (List Int) × Unit) (r : (Bool × (List Int)) × Unit) => r.1 = (x.1 && decide (x.2.1 ≠ []), x.2.1) }
def s_natural_FromUint64 : FSpec := { args := [.val false (.int .u64)], res := [.val false (.sl (.int .u32))], shared := true, pre := fun (x : Int × Unit) => True, post := fun (x : Int × Unit) (r : (List Int) × Unit) => r.1 = nc x.1.toNat }
def s_rational_Sign : FSpec := { args := [.val true (.pair (.pair .bool (.sl (.int .u32))) (.sl (.int .u32)))], res := [.val false (.int .i64)], shared := false, pre := fun (x : ((Bool × (List Int)) × (List Int)) × Unit) => True, post := fun (x : ((Bool × (List Int)) × (List Int)) × Unit) (r : Int × Unit) => r.1 = rsgn x.1 }
def s_vector_ascending : FSpec := { args := [.val false (.sl (.pair (.int .i64) (.pair (.pair .bool (.sl (.int .u32))) (.sl (.int .u32)))))], res := [.val false .bool], shared := false, pre := fun (x : (List (Int × ((Bool × (List Int)) × (List Int)))) × Unit) => True, post := fun (x : (List (Int × ((Bool × (List Int)) × (List Int)))) × Unit) (r : Bool × Unit) => r.1 = decide (byIx x.1) }
def s_slices_SortStableFunc_SEntry_Entry : FSpec := { args := [.row (.pair (.int .i64) (.pair (.pair .bool (.sl (.int .u32))) (.sl (.int .u32)))) 49, .fn [(true, (.pair (.int .i64) (.pair (.pair .bool (.sl (.int .u32))) (.sl (.int .u32))))), (true, (.pair (.int .i64) (.pair (.pair .bool (.sl (.int .u32))) (.sl (.int .u32)))))] false (.int .i64)], res := [], shared := true, pre := fun (x : (List (Int × ((Bool × (List Int)) × (List Int)))) × ((((Int × ((Bool × (List Int)) × (List Int))) × (Int × ((Bool × (List Int)) × (List Int))) × Unit) → Prop) × (((Int × ((Bool × (List Int)) × (List Int))) × (Int × ((Bool × (List Int)) × (List Int))) × Unit) → Int)) × Unit) => okCmp x.2.1.1 x.2.1.2 ∧ x.1.length ≤ 20, post := fun (x : (List (Int × ((Bool × (List Int)) × (List Int)))) × ((((Int × ((Bool × (List Int)) × (List Int))) × (Int × ((Bool × (List Int)) × (List Int))) × Unit) → Prop) × (((Int × ((Bool × (List Int)) × (List Int))) × (Int × ((Bool × (List Int)) × (List Int))) × Unit) → Int)) × Unit) (r : Unit) => True, mpost := fun (x : (List (Int × ((Bool × (List Int)) × (List Int)))) × ((((Int × ((Bool × (List Int)) × (List Int))) × (Int × ((Bool × (List Int)) × (List Int))) × Unit) → Prop) × (((Int × ((Bool × (List Int)) × (List Int))) × (Int × ((Bool × (List Int)) × (List Int))) × Unit) → Int)) × Unit) (r : Unit) (o : (List (Int × ((Bool × (List Int)) × (List Int)))) × Unit) => o.1.Perm x.1 ∧ srtd x.2.1.2 o.1 }
def s_vector_byIndex : FSpec := { args := [.val true (.pair (.int .i64) (.pair (.pair .bool (.sl (.int .u32))) (.sl (.int .u32)))), .val true (.pair (.int .i64) (.pair (.pair .bool (.sl (.int .u32))) (.sl (.int .u32))))], res := [.val false (.int .i64)], shared := false, pre := fun (x : (Int × ((Bool × (List Int)) × (List Int))) × (Int × ((Bool × (List Int)) × (List Int))) × Unit) => True, post := fun (x : (Int × ((Bool × (List Int)) × (List Int))) × (Int × ((Bool × (List Int)) × (List Int))) × Unit) (r : Int × Unit) => r.1 = cmpI x.1.1 x.2.1.1 }
def s_rational_Add : FSpec := { args := [.val true (.pair (.pair .bool (.sl (.int .u32))) (.sl (.int .u32))), .val true (.pair (.pair .bool (.sl (.int .u32))) (.sl (.int .u32)))], res := [.val true (.pair (.pair .bool (.sl (.int .u32))) (.sl (.int .u32)))], shared := true, pre := fun (x : ((Bool × (List Int)) × (List Int)) × ((Bool × (List Int)) × (List Int)) × Unit) => False, post := fun (x : ((Bool × (List Int)) × (List Int)) × ((Bool × (List Int)) × (List Int)) × Unit) (r : ((Bool × (List Int)) × (List Int)) × Unit) => True }
def s_rational_small : FSpec := { args := [.val true (.pair (.pair .bool (.sl (.int .u32))) (.sl (.int .u32)))], res := [.val false (.int .i64), .val false (.int .i64), .val false .bool], shared := false, pre := fun (x : ((Bool × (List Int)) × (List Int)) × Unit) => True, post := fun (x : ((Bool × (List Int)) × (List Int)) × Unit) (r : Int × Int × Bool × Unit) => (smallR x.1 → r.1 = numS x.1 ∧ r.2.1 = denS x.1 ∧ r.2.2.1 = true) ∧ (¬ smallR x.1 → r.2.2.1 = false) }
def s_rational_quotient : FSpec := { args := [.val false (.int .i64), .val false (.int .i64)], res := [.val true (.pair (.pair .bool (.sl (.int .u32))) (.sl (.int .u32)))], shared := true, pre := fun (x : Int × Int × Unit) => 0 < x.2.1 ∧ x.2.1 ≤ 4611686018427387904 ∧ -4611686018427387904 ≤ x.1 ∧ x.1 ≤ 4611686018427387904, post := fun (x : Int × Int × Unit) (r : ((Bool × (List Int)) × (List Int)) × Unit) => r.1 = rc (mkRat x.1 x.2.1.toNat) }
def s_rational_lowest : FSpec := { args := [.val true (.pair .bool (.sl (.int .u32))), .val false (.sl (.int .u32))], res := [.val true (.pair (.pair .bool (.sl (.int .u32))) (.sl (.int .u32)))], shared := true, pre := fun (x : (Bool × (List Int)) × (List Int) × Unit) => False, post := fun (x : (Bool × (List Int)) × (List Int) × Unit) (r : ((Bool × (List Int)) × (List Int)) × Unit) => True }
def s_rational_parts : FSpec := { args := [.val true (.pair (.pair .bool (.sl (.int .u32))) (.sl (.int .u32)))], res := [.val true (.pair .bool (.sl (.int .u32))), .val false (.sl (.int .u32))], shared := true, pre := fun (x : ((Bool × (List Int)) × (List Int)) × Unit) => True, post := fun (x : ((Bool × (List Int)) × (List Int)) × Unit) (r : (Bool × (List Int)) × (List Int) × Unit) => (nv x.1.2 = 0 → r.1 = zi ∧ r.2.1 = [1]) ∧ (nv x.1.2 ≠ 0 → r.1 = x.1.1 ∧ r.2.1 = x.1.2) }
def s_r01_Trim : FSpec := { args := [.val false (.sl (.int .u32))], res := [.val false (.sl (.int .u32))], shared := true, pre := fun (x : (List Int) × Unit) => x.1.length ≤ 4000000000, post := fun (x : (List Int) × Unit) (r : (List Int) × Unit) => r.1 = nc (nv x.1) }
def s_r01_Compare : FSpec := { args := [.val false (.sl (.int .u32)), .val false (.sl (.int .u32))], res := [.val false (.int .i64)], shared := false, pre := fun (x : (List Int) × (List Int) × Unit) => sh1 x.1 ∧ sh1 x.2.1, post := fun (x : (List Int) × (List Int) × Unit) (r : Int × Unit) => r.1 = ncmp (nv x.1) (nv x.2.1) }
def s_natural_cut : FSpec := { args := [.val false (.sl (.int .u32))], res := [.val false (.sl (.int .u32))], shared := true, pre := fun (x : (List Int) × Unit) => True, post := fun (x : (List Int) × Unit) (r : (List Int) × Unit) => r.1 = nc (nv x.1) }
def s_integer_Sign : FSpec := { args := [.val true (.pair .bool (.sl (.int .u32)))], res := [.val false (.int .i64)], shared := false, pre := fun (x : (Bool × (List Int)) × Unit) => True, post := fun (x : (Bool × (List Int)) × Unit) (r : Int × Unit) => r.1 = (iv x.1).sign }
def s_slices_stableCmpFunc_Entry : FSpec := { args := [.row (.pair (.int .i64) (.pair (.pair .bool (.sl (.int .u32))) (.sl (.int .u32)))) 49, .val false (.int .i64), .fn [(true, (.pair (.int .i64) (.pair (.pair .bool (.sl (.int .u32))) (.sl (.int .u32))))), (true, (.pair (.int .i64) (.pair (.pair .bool (.sl (.int .u32))) (.sl (.int .u32)))))] false (.int .i64)], res := [], shared := true, pre := fun (x : (List (Int × ((Bool × (List Int)) × (List Int)))) × Int × ((((Int × ((Bool × (List Int)) × (List Int))) × (Int × ((Bool × (List Int)) × (List Int))) × Unit) → Prop) × (((Int × ((Bool × (List Int)) × (List Int))) × (Int × ((Bool × (List Int)) × (List Int))) × Unit) → Int)) × Unit) => okCmp x.2.2.1.1 x.2.2.1.2 ∧ x.2.1 = (x.1.length : Int) ∧ x.1.length ≤ 20, post := fun (x : (List (Int × ((Bool × (List Int)) × (List Int)))) × Int × ((((Int × ((Bool × (List Int)) × (List Int))) × (Int × ((Bool × (List Int)) × (List Int))) × Unit) → Prop) × (((Int × ((Bool × (List Int)) × (List Int))) × (Int × ((Bool × (List Int)) × (List Int))) × Unit) → Int)) × Unit) (r : Unit) => True, mpost := fun (x : (List (Int × ((Bool × (List Int)) × (List Int)))) × Int × ((((Int × ((Bool × (List Int)) × (List Int))) × (Int × ((Bool × (List Int)) × (List Int))) × Unit) → Prop) × (((Int × ((Bool × (List Int)) × (List Int))) × (Int × ((Bool × (List Int)) × (List Int))) × Unit) → Int)) × Unit) (r : Unit) (o : (List (Int × ((Bool × (List Int)) × (List Int)))) × Unit) => o.1.Perm x.1 ∧ srtd x.2.2.1.2 o.1 }
def s_cmp_Compare_int : FSpec := { args := [.val false (.int .i64), .val false (.int .i64)], res := [.val false (.int .i64)], shared := false, pre := fun (x : Int × Int × Unit) => True, post := fun (x : Int × Int × Unit) (r : Int × Unit) => r.1 = cmpI x.1 x.2.1 }
def s_natural_Compare : FSpec := { args := [.val false (.sl (.int .u32)), .val false (.sl (.int .u32))], res := [.val false (.int .i64)], shared := false, pre := fun (x : (List Int) × (List Int) × Unit) => True, post := fun (x : (List Int) × (List Int) × Unit) (r : Int × Unit) => r.1 = ncmp (nv x.1) (nv x.2.1) }
def s_natural_Uint64 : FSpec := { args := [.val false (.sl (.int .u32))], res := [.val false (.int .u64), .val false .bool], shared := false, pre := fun (x : (List Int) × Unit) => True, post := fun (x : (List Int) × Unit) (r : Int × Bool × Unit) => (nv x.1 < 18446744073709551616 → r.1 = (nv x.1 : Int) ∧ r.2.1 = true) ∧ (18446744073709551616 ≤ nv x.1 → r.2.1 = false) }
def s_slices_insertionSortCmpFunc_Entry : FSpec := { args := [.row (.pair (.int .i64) (.pair (.pair .bool (.sl (.int .u32))) (.sl (.int .u32)))) 49, .val false (.int .i64), .val false (.int .i64), .fn [(true, (.pair (.int .i64) (.pair (.pair .bool (.sl (.int .u32))) (.sl (.int .u32))))), (true, (.pair (.int .i64) (.pair (.pair .bool (.sl (.int .u32))) (.sl (.int .u32)))))] false (.int .i64)], res := [], shared := true, pre := fun (x : (List (Int × ((Bool × (List Int)) × (List Int)))) × Int × Int × ((((Int × ((Bool × (List Int)) × (List Int))) × (Int × ((Bool × (List Int)) × (List Int))) × Unit) → Prop) × (((Int × ((Bool × (List Int)) × (List Int))) × (Int × ((Bool × (List Int)) × (List Int))) × Unit) → Int)) × Unit) => okCmp x.2.2.2.1.1 x.2.2.2.1.2 ∧ 0 ≤ x.2.1 ∧ x.2.1 ≤ x.2.2.1 ∧ x.2.2.1 ≤ (x.1.length : Int) ∧ x.1.length ≤ 100000, post := fun (x : (List (Int × ((Bool × (List Int)) × (List Int)))) × Int × Int × ((((Int × ((Bool × (List Int)) × (List Int))) × (Int × ((Bool × (List Int)) × (List Int))) × Unit) → Prop) × (((Int × ((Bool × (List Int)) × (List Int))) × (Int × ((Bool × (List Int)) × (List Int))) × Unit) → Int)) × Unit) (r : Unit) => True, mpost := fun (x : (List (Int × ((Bool × (List Int)) × (List Int)))) × Int × Int × ((((Int × ((Bool × (List Int)) × (List Int))) × (Int × ((Bool × (List Int)) × (List Int))) × Unit) → Prop) × (((Int × ((Bool × (List Int)) × (List Int))) × (Int × ((Bool × (List Int)) × (List Int))) × Unit) → Int)) × Unit) (r : Unit) (o : (List (Int × ((Bool × (List Int)) × (List Int)))) × Unit) => o.1.Perm x.1 ∧ o.1.take x.2.1.toNat = x.1.take x.2.1.toNat ∧ o.1.drop x.2.2.1.toNat = x.1.drop x.2.2.1.toNat ∧ srtd x.2.2.2.1.2 ((o.1.drop x.2.1.toNat).take (x.2.2.1.toNat - x.2.1.toNat)) }
def s_slices_symMergeCmpFunc_Entry : FSpec := { args := [.row (.pair (.int .i64) (.pair (.pair .bool (.sl (.int .u32))) (.sl (.int .u32)))) 49, .val false (.int .i64), .val false (.int .i64), .val false (.int .i64), .fn [(true, (.pair (.int .i64) (.pair (.pair .bool (.sl (.int .u32))) (.sl (.int .u32))))), (true, (.pair (.int .i64) (.pair (.pair .bool (.sl (.int .u32))) (.sl (.int .u32)))))] false (.int .i64)], res := [], shared := true, pre := fun (x : (List (Int × ((Bool × (List Int)) × (List Int)))) × Int × Int × Int × ((((Int × ((Bool × (List Int)) × (List Int))) × (Int × ((Bool × (List Int)) × (List Int))) × Unit) → Prop) × (((Int × ((Bool × (List Int)) × (List Int))) × (Int × ((Bool × (List Int)) × (List Int))) × Unit) → Int)) × Unit) => False, post := fun (x : (List (Int × ((Bool × (List Int)) × (List Int)))) × Int × Int × Int × ((((Int × ((Bool × (List Int)) × (List Int))) × (Int × ((Bool × (List Int)) × (List Int))) × Unit) → Prop) × (((Int × ((Bool × (List Int)) × (List Int))) × (Int × ((Bool × (List Int)) × (List Int))) × Unit) → Int)) × Unit) (r : Unit) => True }
def s_natural_word : FSpec := { args := [.val false (.sl (.int .u32))], res := [.val false (.int .u64)], shared := false, pre := fun (x : (List Int) × Unit) => x.1.length ≤ 2, post := fun (x : (List Int) × Unit) (r : Int × Unit) => r.1 = (nv x.1 : Int) }
end Go.Proofs.YtppgpdigopffbaaGreat
namespace Go.Proofs.YtppgpdigopffbaaGreat
open Go.Vc Go.Gw
def an_topology_check : An := { loop := [(4, ⟨[0, 13, 14], [], [(15, false, [.val (.int .i64)])], [], []⟩)] }
def sp_topology_check : Specs := []
def an_topology_separate : An := { loop := [(3, ⟨[3, 8], [], [(9, false, [.val (.int .i64)])], [], [(0, .row (.int .i64) 3)]⟩)] }
def sp_topology_separate : Specs := []
def an_topology_sets_least : An := { loop := [(1, ⟨[0], [], [(1, false, [.val (.int .i64)])], [], [(0, .row (.int .i64) 3)]⟩)] }
def sp_topology_sets_least : Specs := []
def an_topology_sets_join : An := { plan := [(1, [2], [3, 7], false, (.p 0 (.p 1 (.q 2 (.p 4 (.p 5 (.or 3 (.e 6 (.e 7 (.p 8 (.p 9 .done)))) (.e 6 (.e 3 (.e 7 (.p 8 (.p 9 .done))))))))))))] }
def sp_topology_sets_join : Specs := [(34, s_topology_sets_least)]
def vc_topology_check : dens s_topology_check.args → Prop := fun (x : Int × List (Int × Int) × Unit) => (sel (decide (x.fst < (0 : Int))) true (decide ((16384 : Int) < x.fst)) = true → (3 : Int) = netE x.fst x.snd.fst) ∧ (sel (decide (x.fst < (0 : Int))) true (decide ((16384 : Int) < x.fst)) = false → ∃ (I : Int × Unit → Prop), ∃ (μ : Int × Unit → Nat), I ((0 : Int), ()) ∧ ∀ (p : Int × Unit), In64 p.fst ∧ True → I p → (decide (p.fst < (↑(List.length x.snd.fst) : Int)) = true → ((0 : Int) ≤ p.fst ∧ p.fst < (↑(List.length x.snd.fst) : Int)) ∧ ((0 : Int) ≤ (0 : Int) ∧ (0 : Int) < (↑(2 : Nat) : Int)) ∧ (decide ((gx ((0 : Int), (0 : Int)) x.snd.fst p.fst).fst < (0 : Int)) = false → (0 : Int) ≤ (0 : Int) ∧ (0 : Int) < (↑(2 : Nat) : Int)) ∧ (sel (decide ((gx ((0 : Int), (0 : Int)) x.snd.fst p.fst).fst < (0 : Int))) true (decide (x.fst ≤ (gx ((0 : Int), (0 : Int)) x.snd.fst p.fst).fst)) = false → (0 : Int) ≤ (1 : Int) ∧ (1 : Int) < (↑(2 : Nat) : Int)) ∧ (sel (sel (decide ((gx ((0 : Int), (0 : Int)) x.snd.fst p.fst).fst < (0 : Int))) true (decide (x.fst ≤ (gx ((0 : Int), (0 : Int)) x.snd.fst p.fst).fst))) true (decide ((gx ((0 : Int), (0 : Int)) x.snd.fst p.fst).snd < (0 : Int))) = false → (0 : Int) ≤ (1 : Int) ∧ (1 : Int) < (↑(2 : Nat) : Int)) ∧ (sel (sel (sel (decide ((gx ((0 : Int), (0 : Int)) x.snd.fst p.fst).fst < (0 : Int))) true (decide (x.fst ≤ (gx ((0 : Int), (0 : Int)) x.snd.fst p.fst).fst))) true (decide ((gx ((0 : Int), (0 : Int)) x.snd.fst p.fst).snd < (0 : Int)))) true (decide (x.fst ≤ (gx ((0 : Int), (0 : Int)) x.snd.fst p.fst).snd)) = true → (12 : Int) = netE x.fst x.snd.fst) ∧ (sel (sel (sel (decide ((gx ((0 : Int), (0 : Int)) x.snd.fst p.fst).fst < (0 : Int))) true (decide (x.fst ≤ (gx ((0 : Int), (0 : Int)) x.snd.fst p.fst).fst))) true (decide ((gx ((0 : Int), (0 : Int)) x.snd.fst p.fst).snd < (0 : Int)))) true (decide (x.fst ≤ (gx ((0 : Int), (0 : Int)) x.snd.fst p.fst).snd)) = false → I (IntKind.i64.wrap (p.fst + (1 : Int)), ()) ∧ μ (IntKind.i64.wrap (p.fst + (1 : Int)), ()) < μ p)) ∧ (decide (p.fst < (↑(List.length x.snd.fst) : Int)) = false → (0 : Int) = netE x.fst x.snd.fst))
theorem vc_topology_check_eq (x : dens s_topology_check.args) : semF ⟨Tryz.prog, tys⟩ sp_topology_check an_topology_check s_topology_check Tryz.f30.results.toList (Tryz.f30.body.getD .skip) x = vc_topology_check x := by kernel_rfl
theorem m_topology_check (hsp : SpOk Tryz.prog sp_topology_check) (h : ∀ x, awf s_topology_check.args x → s_topology_check.pre x → vc_topology_check x) : Meets Tryz.prog 30 s_topology_check := meets_vc (cx := ⟨Tryz.prog, tys⟩) (sp := sp_topology_check) (an := an_topology_check) (s := s_topology_check) (fn := Tryz.f30) (c := Tryz.f30.body.getD .skip) Tryz.func30 (by kernel_rfl) (Nat.le_of_ble_eq_true (by kernel_rfl)) (by kernel_rfl) tys_ok hsp vc_topology_check_eq h
def vc_topology_separate : dens s_topology_separate.args → Prop := fun (x : Int × Unit) => ((0 : Int) ≤ x.fst ∧ x.fst ≤ x.fst ∧ (↑(8 : Nat) : Int) * x.fst ≤ (281474976710656 : Int) ∧ x.fst ≤ (9223372036854775807 : Int)) ∧ ∃ (I : Int × List Int × Unit → Prop), ∃ (μ : Int × List Int × Unit → Nat), I ((0 : Int), List.replicate (Int.toNat x.fst) (0 : Int), ()) ∧ ∀ (p : Int × List Int × Unit), In64 p.fst ∧ WfI p.snd.fst ∧ True → I p → (decide (p.fst < (↑(List.replicate (Int.toNat x.fst) (0 : Int)).length : Int)) = true → ((0 : Int) ≤ p.fst ∧ p.fst < (↑(List.length p.snd.fst) : Int)) ∧ I (IntKind.i64.wrap (p.fst + (1 : Int)), List.set p.snd.fst (Int.toNat p.fst) p.fst, ()) ∧ μ (IntKind.i64.wrap (p.fst + (1 : Int)), List.set p.snd.fst (Int.toNat p.fst) p.fst, ()) < μ p) ∧ (decide (p.fst < (↑(List.replicate (Int.toNat x.fst) (0 : Int)).length : Int)) = false → p.snd.fst = idL x.fst)
theorem vc_topology_separate_eq (x : dens s_topology_separate.args) : semF ⟨Tryz.prog, tys⟩ sp_topology_separate an_topology_separate s_topology_separate Tryz.f32.results.toList (Tryz.f32.body.getD .skip) x = vc_topology_separate x := by kernel_rfl
theorem m_topology_separate (hsp : SpOk Tryz.prog sp_topology_separate) (h : ∀ x, awf s_topology_separate.args x → s_topology_separate.pre x → vc_topology_separate x) : Meets Tryz.prog 32 s_topology_separate := meets_vc (cx := ⟨Tryz.prog, tys⟩) (sp := sp_topology_separate) (an := an_topology_separate) (s := s_topology_separate) (fn := Tryz.f32) (c := Tryz.f32.body.getD .skip) Tryz.func32 (by kernel_rfl) (Nat.le_of_ble_eq_true (by kernel_rfl)) (by kernel_rfl) tys_ok hsp vc_topology_separate_eq h
def vc_topology_sets_least : dens s_topology_sets_least.args → Prop := fun (x : List Int × Int × Unit) => ∃ (I : Int × List Int × Unit → Prop), ∃ (μ : Int × List Int × Unit → Nat), I (x.snd.fst, x.fst, ()) ∧ ∀ (p : Int × List Int × Unit), In64 p.fst ∧ WfI p.snd.fst ∧ True → I p → ((0 : Int) ≤ p.fst ∧ p.fst < (↑(List.length p.snd.fst) : Int)) ∧ (decide (List.getD p.snd.fst (Int.toNat p.fst) (0 : Int) ≠ p.fst) = true → ((0 : Int) ≤ p.fst ∧ p.fst < (↑(List.length p.snd.fst) : Int)) ∧ ((0 : Int) ≤ List.getD p.snd.fst (Int.toNat p.fst) (0 : Int) ∧ List.getD p.snd.fst (Int.toNat p.fst) (0 : Int) < (↑(List.length p.snd.fst) : Int)) ∧ ((0 : Int) ≤ p.fst ∧ p.fst < (↑(List.length p.snd.fst) : Int)) ∧ ((0 : Int) ≤ p.fst ∧ p.fst < (↑(List.set p.snd.fst (Int.toNat p.fst) (List.getD p.snd.fst (List.getD p.snd.fst (Int.toNat p.fst) (0 : Int)).toNat (0 : Int))).length : Int)) ∧ I ((List.set p.snd.fst (Int.toNat p.fst) (List.getD p.snd.fst (List.getD p.snd.fst (Int.toNat p.fst) (0 : Int)).toNat (0 : Int))).getD (Int.toNat p.fst) (0 : Int), List.set p.snd.fst (Int.toNat p.fst) (List.getD p.snd.fst (List.getD p.snd.fst (Int.toNat p.fst) (0 : Int)).toNat (0 : Int)), ()) ∧ μ ((List.set p.snd.fst (Int.toNat p.fst) (List.getD p.snd.fst (List.getD p.snd.fst (Int.toNat p.fst) (0 : Int)).toNat (0 : Int))).getD (Int.toNat p.fst) (0 : Int), List.set p.snd.fst (Int.toNat p.fst) (List.getD p.snd.fst (List.getD p.snd.fst (Int.toNat p.fst) (0 : Int)).toNat (0 : Int)), ()) < μ p) ∧ (decide (List.getD p.snd.fst (Int.toNat p.fst) (0 : Int) ≠ p.fst) = false → p.fst = root x.fst x.snd.fst ∧ UF p.snd.fst ∧ List.length p.snd.fst = x.fst.length ∧ ∀ (i : Int), (0 : Int) ≤ i → i < (↑x.fst.length : Int) → root p.snd.fst i = root x.fst i)
theorem vc_topology_sets_least_eq (x : dens s_topology_sets_least.args) : semF ⟨Tryz.prog, tys⟩ sp_topology_sets_least an_topology_sets_least s_topology_sets_least Tryz.f34.results.toList (Tryz.f34.body.getD .skip) x = vc_topology_sets_least x := by kernel_rfl
theorem m_topology_sets_least (hsp : SpOk Tryz.prog sp_topology_sets_least) (h : ∀ x, awf s_topology_sets_least.args x → s_topology_sets_least.pre x → vc_topology_sets_least x) : Meets Tryz.prog 34 s_topology_sets_least := meets_vc (cx := ⟨Tryz.prog, tys⟩) (sp := sp_topology_sets_least) (an := an_topology_sets_least) (s := s_topology_sets_least) (fn := Tryz.f34) (c := Tryz.f34.body.getD .skip) Tryz.func34 (by kernel_rfl) (Nat.le_of_ble_eq_true (by kernel_rfl)) (by kernel_rfl) tys_ok hsp vc_topology_sets_least_eq h
def vc_topology_sets_join : dens s_topology_sets_join.args → Prop := fun (x : List Int × (Int × Int) × Unit) => ((0 : Int) ≤ (0 : Int) ∧ (0 : Int) < (↑(2 : Nat) : Int)) ∧ ((0 : Int) ≤ (1 : Int) ∧ (1 : Int) < (↑(2 : Nat) : Int)) ∧ ((UF x.fst ∧ (0 : Int) ≤ x.snd.fst.fst ∧ x.snd.fst.fst < (↑(List.length x.fst) : Int) ∧ List.length x.fst ≤ (16384 : Nat)) ∧ ∀ (r : Int × Unit) (o : List Int × Unit), In64 r.fst ∧ True → (Ty.int IntKind.i64).sl.wf o.fst ∧ True → r.fst = root x.fst x.snd.fst.fst → (UF o.fst ∧ o.fst.length = List.length x.fst ∧ ∀ (i : Int), (0 : Int) ≤ i → i < (↑(List.length x.fst) : Int) → root o.fst i = root x.fst i) → (UF o.fst ∧ (0 : Int) ≤ x.snd.fst.snd ∧ x.snd.fst.snd < (↑o.fst.length : Int) ∧ o.fst.length ≤ (16384 : Nat)) ∧ ∀ (r_1 : Int × Unit) (o_1 : List Int × Unit), In64 r_1.fst ∧ True → (Ty.int IntKind.i64).sl.wf o_1.fst ∧ True → r_1.fst = root o.fst x.snd.fst.snd → (UF o_1.fst ∧ o_1.fst.length = o.fst.length ∧ ∀ (i : Int), (0 : Int) ≤ i → i < (↑o.fst.length : Int) → root o_1.fst i = root o.fst i) → ((0 : Int) ≤ Max.max r.fst r_1.fst ∧ Max.max r.fst r_1.fst < (↑o_1.fst.length : Int)) ∧ decide (r.fst ≠ r_1.fst) = decide (root x.fst x.snd.fst.fst ≠ root x.fst x.snd.fst.snd) ∧ UF (o_1.fst.set (Max.max r.fst r_1.fst).toNat (Min.min r.fst r_1.fst)) ∧ (o_1.fst.set (Max.max r.fst r_1.fst).toNat (Min.min r.fst r_1.fst)).length = x.fst.length ∧ ∀ (i : Int), (0 : Int) ≤ i → i < (↑x.fst.length : Int) → root (o_1.fst.set (Max.max r.fst r_1.fst).toNat (Min.min r.fst r_1.fst)) i = if root x.fst i = Max.max (root x.fst x.snd.fst.fst) (root x.fst x.snd.fst.snd) then Min.min (root x.fst x.snd.fst.fst) (root x.fst x.snd.fst.snd) else root x.fst i) ∧ (UF x.fst ∧ (0 : Int) ≤ x.snd.fst.fst ∧ x.snd.fst.fst < (↑(List.length x.fst) : Int) ∧ List.length x.fst ≤ (16384 : Nat)) ∧ ∀ (r : Int × Unit) (o : List Int × Unit), In64 r.fst ∧ True → (Ty.int IntKind.i64).sl.wf o.fst ∧ True → r.fst = root x.fst x.snd.fst.fst → (UF o.fst ∧ o.fst.length = List.length x.fst ∧ ∀ (i : Int), (0 : Int) ≤ i → i < (↑(List.length x.fst) : Int) → root o.fst i = root x.fst i) → (UF o.fst ∧ (0 : Int) ≤ x.snd.fst.snd ∧ x.snd.fst.snd < (↑o.fst.length : Int) ∧ o.fst.length ≤ (16384 : Nat)) ∧ ∀ (r_1 : Int × Unit) (o_1 : List Int × Unit), In64 r_1.fst ∧ True → (Ty.int IntKind.i64).sl.wf o_1.fst ∧ True → r_1.fst = root o.fst x.snd.fst.snd → (UF o_1.fst ∧ o_1.fst.length = o.fst.length ∧ ∀ (i : Int), (0 : Int) ≤ i → i < (↑o.fst.length : Int) → root o_1.fst i = root o.fst i) → ((0 : Int) ≤ Max.max r.fst r_1.fst ∧ Max.max r.fst r_1.fst < (↑o_1.fst.length : Int)) ∧ decide (r.fst ≠ r_1.fst) = decide (root x.fst x.snd.fst.fst ≠ root x.fst x.snd.fst.snd) ∧ UF (o_1.fst.set (Max.max r.fst r_1.fst).toNat (Min.min r.fst r_1.fst)) ∧ (o_1.fst.set (Max.max r.fst r_1.fst).toNat (Min.min r.fst r_1.fst)).length = x.fst.length ∧ ∀ (i : Int), (0 : Int) ≤ i → i < (↑x.fst.length : Int) → root (o_1.fst.set (Max.max r.fst r_1.fst).toNat (Min.min r.fst r_1.fst)) i = if root x.fst i = Max.max (root x.fst x.snd.fst.fst) (root x.fst x.snd.fst.snd) then Min.min (root x.fst x.snd.fst.fst) (root x.fst x.snd.fst.snd) else root x.fst i
theorem vc_topology_sets_join_eq (x : dens s_topology_sets_join.args) : semF ⟨Tryz.prog, tys⟩ sp_topology_sets_join an_topology_sets_join s_topology_sets_join Tryz.f33.results.toList (Tryz.f33.body.getD .skip) x = vc_topology_sets_join x := by kernel_rfl
theorem m_topology_sets_join (hsp : SpOk Tryz.prog sp_topology_sets_join) (h : ∀ x, awf s_topology_sets_join.args x → s_topology_sets_join.pre x → vc_topology_sets_join x) : Meets Tryz.prog 33 s_topology_sets_join := meets_vc (cx := ⟨Tryz.prog, tys⟩) (sp := sp_topology_sets_join) (an := an_topology_sets_join) (s := s_topology_sets_join) (fn := Tryz.f33) (c := Tryz.f33.body.getD .skip) Tryz.func33 (by kernel_rfl) (Nat.le_of_ble_eq_true (by kernel_rfl)) (by kernel_rfl) tys_ok hsp vc_topology_sets_join_eq h
end Go.Proofs.YtppgpdigopffbaaGreat
namespace Go.Proofs.YtppgpdigopffbaaGreat
open Go.Vc Go.Gw
theorem vc_topology_check_ok (x : dens s_topology_check.args) (hw : awf s_topology_check.args x) (_ : s_topology_check.pre x) : vc_topology_check x := by
  obtain ⟨n, ls, _⟩ := x
  have hl : ls.length ≤ 9223372036854775807 := hw.2.1.1
  change Int at n
  simp only [vc_topology_check, sel_or, Bool.or_eq_true, Bool.or_eq_false_iff, decide_eq_true_eq, decide_eq_false_iff_not]
  refine ⟨fun h => by rw [netE, if_pos h], fun h => ?_⟩
  refine ⟨fun p => 0 ≤ p.1 ∧ p.1 ≤ (ls.length : Int) ∧ ∀ l ∈ ls.take p.1.toNat, inB n l, fun p => ((ls.length : Int) - p.1).toNat, ⟨by omega, by omega, by simp⟩, ?_⟩
  rintro ⟨i, _⟩ _ ⟨h0, h1, h2⟩
  change Int at i
  simp only at h0 h1 h2 ⊢
  refine ⟨fun hi => ⟨⟨h0, hi⟩, by omega, fun _ => by omega, fun _ => by omega, fun _ => by omega, fun hb => ?_, fun hb => ?_⟩, fun hi => ?_⟩
  · rw [netE, if_neg (by omega), if_neg]
    intro hall
    have := hall _ (gx_mem (d := ((0 : Int), (0 : Int))) h0 hi)
    unfold inB at this
    omega
  · rw [wr (by omega) (by omega)]
    refine ⟨⟨by omega, by omega, before_step (d := ((0 : Int), (0 : Int))) h0 hi h2 ?_⟩, by omega⟩
    unfold inB
    omega
  · rw [take_all (by omega)] at h2
    rw [netE, if_neg (by omega), if_pos h2]
theorem vc_topology_separate_ok (x : dens s_topology_separate.args) (hw : awf s_topology_separate.args x) (hp : s_topology_separate.pre x) : vc_topology_separate x := by
  obtain ⟨n, _⟩ := x
  change Int at n
  obtain ⟨p0, p1⟩ : 0 ≤ n ∧ n ≤ 16384 := hp
  simp only [vc_topology_separate, List.length_replicate]
  refine ⟨by omega, fun p => 0 ≤ p.1 ∧ p.1 ≤ n ∧ p.2.1.length = n.toNat ∧ ∀ i : Nat, (i : Int) < p.1 → p.2.1[i]? = some (i : Int), fun p => (n - p.1).toNat, ⟨by omega, by omega, by simp, fun i hi => by omega⟩, ?_⟩
  rintro ⟨i, t, _⟩ _ ⟨h0, h1, h2, h3⟩
  change Int at i
  change List Int at t
  simp only at h0 h1 h2 h3 ⊢
  refine ⟨fun h => ?_, fun h => ?_⟩
  · have h := of_decide_eq_true h
    rw [wr (by omega) (by omega)]
    refine ⟨⟨h0, by omega⟩, ⟨by omega, by omega, by rw [List.length_set]; exact h2, fun j hj => ?_⟩, by omega⟩
    rw [List.getElem?_set]
    by_cases hij : i.toNat = j
    · rw [if_pos hij, if_pos (by omega)]
      congr 1; omega
    · rw [if_neg hij]; exact h3 j (by omega)
  · have h := of_decide_eq_false h
    unfold idL
    apply List.ext_getElem?
    intro j
    by_cases hj : j < n.toNat
    · rw [h3 j (by omega), List.getElem?_map, List.getElem?_range hj]; rfl
    · rw [List.getElem?_eq_none (by omega), List.getElem?_eq_none (by simp; omega)]
theorem vc_topology_sets_least_ok (x : dens s_topology_sets_least.args) (hw : awf s_topology_sets_least.args x) (hp : s_topology_sets_least.pre x) : vc_topology_sets_least x := by
  obtain ⟨s, b, _⟩ := x
  change List Int at s
  change Int at b
  obtain ⟨hu, b0, b1, hl⟩ : UF s ∧ 0 ≤ b ∧ b < (s.length : Int) ∧ s.length ≤ 16384 := hp
  simp only [vc_topology_sets_least]
  refine ⟨fun p => UF p.2.1 ∧ p.2.1.length = s.length ∧ 0 ≤ p.1 ∧ p.1 < (s.length : Int) ∧ root s p.1 = root s b ∧ ∀ i : Int, 0 ≤ i → i < (s.length : Int) → root p.2.1 i = root s i, fun p => p.1.toNat, ⟨hu, rfl, b0, b1, rfl, fun _ _ _ => rfl⟩, ?_⟩
  rintro ⟨c, t, _⟩ _ ⟨h1, h2, h3, h4, h5, h6⟩
  change Int at c
  change List Int at t
  simp only at h1 h2 h3 h4 h5 h6 ⊢
  have hle := h1.le h3 (by omega : c < (t.length : Int))
  have hlc : t.getD c.toNat 0 = lat t c := rfl
  rw [hlc]
  refine ⟨⟨h3, by omega⟩, fun h => ?_, fun h => ?_⟩
  · have hne : lat t c ≠ c := of_decide_eq_true h
    have hle2 := h1.le hle.1 (by omega : lat t c < (t.length : Int))
    have hlc2 : t.getD (lat t c).toNat 0 = lat t (lat t c) := rfl
    rw [hlc2]
    obtain ⟨g1, g2⟩ := halve h1 h3 (by omega : c < (t.length : Int))
    have hk : c.toNat < t.length := by omega
    have hlc3 : (t.set c.toNat (lat t (lat t c))).getD c.toNat 0 = lat t (lat t c) := by
      have := lat_set (v := lat t (lat t c)) (i := c) hk
      rw [if_pos rfl] at this
      exact this
    rw [hlc3, List.length_set]
    refine ⟨⟨h3, by omega⟩, ⟨hle.1, by omega⟩, ⟨h3, by omega⟩, ⟨h3, by omega⟩, ⟨g1, h2, hle2.1, by omega, ?_, fun i i0 i1 => by rw [g2 i i0 (by omega)]; exact h6 i i0 i1⟩, by omega⟩
    rw [← h5, ← h6 _ hle2.1 (by omega), ← h6 c h3 h4, root_step h1 hle.1 (by omega), root_step h1 h3 (by omega)]
  · have he : lat t c = c := by simpa using h
    refine ⟨?_, h1, h2, h6⟩
    rw [← h5, ← h6 c h3 h4, root_fix h1 h3 (by omega) he]
theorem vc_topology_sets_join_ok (x : dens s_topology_sets_join.args) (hw : awf s_topology_sets_join.args x) (hp : s_topology_sets_join.pre x) : vc_topology_sets_join x := by
  obtain ⟨s, ⟨a, b⟩, _⟩ := x
  change List Int at s
  change Int at a b
  obtain ⟨hu, ⟨a0, a1, b0, b1⟩, hl⟩ : UF s ∧ inB s.length (a, b) ∧ s.length ≤ 16384 := hp
  simp only at a0 a1 b0 b1
  simp only [vc_topology_sets_join]
  refine ⟨by omega, by omega, ?_, ?_⟩
  all_goals
    refine ⟨⟨hu, a0, a1, hl⟩, ?_⟩
    rintro ⟨r, _⟩ ⟨o, _⟩ _ _ e1 ⟨h1, h2, h3⟩
    simp only at e1 h1 h2 h3 ⊢
    refine ⟨⟨h1, b0, by omega, by omega⟩, ?_⟩
    rintro ⟨r1, _⟩ ⟨o1, _⟩ _ _ e2 ⟨g1, g2, g3⟩
    simp only at e2 g1 g2 g3 ⊢
    rw [h3 b b0 b1] at e2
    subst e1 e2
    obtain ⟨ra0, ra1, ra2⟩ := root_le hu a0 a1
    obtain ⟨rb0, rb1, rb2⟩ := root_le hu b0 b1
    have hall : ∀ i : Int, 0 ≤ i → i < (s.length : Int) → root o1 i = root s i := fun i i0 i1 => by rw [g3 i i0 (by omega), h3 i i0 i1]
    have hfix : ∀ c : Int, 0 ≤ c → c < (s.length : Int) → lat s c = c → lat o1 c = c := fun c c0 c1 hc => by
      have e := hall c c0 c1
      rw [root_fix hu c0 c1 hc] at e
      have := (root_le g1 c0 (by omega)).2.2
      rw [e] at this
      exact this
    have fa := hfix _ ra0 (by omega) ra2
    have fb := hfix _ rb0 (by omega) rb2
    have hmax : (max (root s a) (root s b) = root s a ∧ min (root s a) (root s b) = root s b ∧ root s b ≤ root s a) ∨ (max (root s a) (root s b) = root s b ∧ min (root s a) (root s b) = root s a ∧ root s a ≤ root s b) := by omega
    have hj : UF (o1.set (max (root s a) (root s b)).toNat (min (root s a) (root s b))) ∧ ∀ i : Int, 0 ≤ i → i < (o1.length : Int) → root (o1.set (max (root s a) (root s b)).toNat (min (root s a) (root s b))) i = if root o1 i = max (root s a) (root s b) then min (root s a) (root s b) else root o1 i := by
      rcases hmax with ⟨e1, e2, e3⟩ | ⟨e1, e2, e3⟩
      · rw [e1, e2]; exact joined g1 rb0 e3 (by omega) fb fa
      · rw [e1, e2]; exact joined g1 ra0 e3 (by omega) fa fb
    refine ⟨⟨by omega, by omega⟩, rfl, hj.1, by rw [List.length_set]; omega, fun i i0 i1 => ?_⟩
    rw [hj.2 i i0 (by omega), hall i i0 i1]
end Go.Proofs.YtppgpdigopffbaaGreat
namespace Go.Proofs.YtppgpdigopffbaaGreat
open Go.Vc Go.Gw
def an_topology_tree : An := { join := [(11, ⟨[6, 7, 15, 16, 17], [], [(8, false, [.own (.int .i64) 3])], [], [(0, .row (.int .i64) 3), (1, .rows (.pair (.int .i64) (.int .i64)) 23 30)]⟩)], loop := [(5, ⟨[6, 7, 15, 16], [], [(8, false, [.own (.int .i64) 3]), (17, false, [.val (.int .i64)])], [], [(0, .row (.int .i64) 3), (1, .rows (.pair (.int .i64) (.int .i64)) 23 30)]⟩)], plan := [(9, [5, 7, 10], [13, 15], false, (.p 0 (.p 1 (.p 3 (.p 4 (.q 5 (.p 6 (.q 7 (.p 8 (.p 9 (.q 10 (.p 11 (.or 2 (.e 12 (.e 13 (.p 14 (.e 15 .done)))) (.e 12 (.or 2 (.e 13 (.p 14 (.e 15 .done))) (.e 13 (.e 2 (.p 14 (.e 15 .done))))))))))))))))))), (10, [5, 7, 10], [13, 15], false, (.p 0 (.p 1 (.p 3 (.p 4 (.q 5 (.p 6 (.q 7 (.p 8 (.p 9 (.q 10 (.p 11 (.or 2 (.e 12 (.e 13 (.p 14 (.e 15 .done)))) (.e 12 (.or 2 (.e 13 (.p 14 (.e 15 .done))) (.e 13 (.e 2 (.p 14 (.e 15 .done)))))))))))))))))))] }
def sp_topology_tree : Specs := [(32, s_topology_separate), (33, s_topology_sets_join)]
def an_topology_Islands : An := { loop := [(6, ⟨[0, 7, 20, 21], [], [(22, false, [.val (.int .i64)])], [], [(0, .row (.int .i64) 3)]⟩), (12, ⟨[7, 10, 33], [], [(34, false, [.val (.int .i64)])], [], [(0, .row (.int .i64) 3), (1, .row (.int .i64) 3)]⟩)] }
def sp_topology_Islands : Specs := [(30, s_topology_check), (32, s_topology_separate), (33, s_topology_sets_join), (34, s_topology_sets_least)]
def an_topology_Forest : An := {}
def sp_topology_Forest : Specs := [(30, s_topology_check), (31, s_topology_tree)]
def vc_topology_tree : dens s_topology_tree.args → Prop := fun (x : Int × List (Int × Int) × Unit) => ((0 : Int) ≤ x.fst ∧ x.fst ≤ (16384 : Int)) ∧ ∀ (r : List Int × Unit), WfI r.fst ∧ True → r.fst = idL x.fst → ((0 : Int) ≤ x.fst ∧ x.fst ≤ x.fst ∧ (↑(24 : Nat) : Int) * x.fst ≤ (281474976710656 : Int) ∧ x.fst ≤ (9223372036854775807 : Int)) ∧ ∃ (I : List Int × Int × List Int × List (List (Int × Int)) × Unit → Prop), ∃ (μ : List Int × Int × List Int × List (List (Int × Int)) × Unit → Nat), I ([], (0 : Int), r.fst, List.replicate (Int.toNat x.fst) [], ()) ∧ ∀ (p : List Int × Int × List Int × List (List (Int × Int)) × Unit), WfI p.fst ∧ In64 p.snd.fst ∧ WfI p.snd.snd.fst ∧ (List.length p.snd.snd.snd.fst ≤ 9223372036854775807 ∧ ∀ (x : List (Int × Int)), x ∈ p.snd.snd.snd.fst → x.length ≤ 9223372036854775807 ∧ ∀ (x_1 : Int × Int), x_1 ∈ x → In64 x_1.fst ∧ In64 x_1.snd) ∧ True → I p → (decide (p.snd.fst < (↑(List.length x.snd.fst) : Int)) = true → ∃ (J : List Int × List Int × List (List (Int × Int)) × Unit → Prop), (((0 : Int) ≤ p.snd.fst ∧ p.snd.fst < (↑(List.length x.snd.fst) : Int)) ∧ (UF p.snd.snd.fst ∧ inB (↑(List.length p.snd.snd.fst) : Int) (gx ((0 : Int), (0 : Int)) x.snd.fst p.snd.fst) ∧ List.length p.snd.snd.fst ≤ (16384 : Nat)) ∧ ∀ (r_1 : Bool × Unit) (o : List Int × Unit), True ∧ True → (Ty.int IntKind.i64).sl.wf o.fst ∧ True → r_1.fst = decide (root p.snd.snd.fst (gx ((0 : Int), (0 : Int)) x.snd.fst p.snd.fst).fst ≠ root p.snd.snd.fst (gx ((0 : Int), (0 : Int)) x.snd.fst p.snd.fst).snd) → (UF o.fst ∧ o.fst.length = List.length p.snd.snd.fst ∧ ∀ (i : Int), (0 : Int) ≤ i → i < (↑(List.length p.snd.snd.fst) : Int) → root o.fst i = if root p.snd.snd.fst i = Max.max (root p.snd.snd.fst (gx ((0 : Int), (0 : Int)) x.snd.fst p.snd.fst).fst) (root p.snd.snd.fst (gx ((0 : Int), (0 : Int)) x.snd.fst p.snd.fst).snd) then Min.min (root p.snd.snd.fst (gx ((0 : Int), (0 : Int)) x.snd.fst p.snd.fst).fst) (root p.snd.snd.fst (gx ((0 : Int), (0 : Int)) x.snd.fst p.snd.fst).snd) else root p.snd.snd.fst i) → (r_1.fst = true → ((List.length p.fst + [p.snd.fst].length) * (8 : Nat) ≤ (140737488355328 : Nat) ∧ List.length p.fst + [p.snd.fst].length ≤ 9223372036854775807) ∧ ((0 : Int) ≤ (0 : Int) ∧ (0 : Int) < (↑(2 : Nat) : Int)) ∧ ((0 : Int) ≤ (0 : Int) ∧ (0 : Int) < (↑(2 : Nat) : Int)) ∧ ((0 : Int) ≤ (gx ((0 : Int), (0 : Int)) x.snd.fst p.snd.fst).fst ∧ (gx ((0 : Int), (0 : Int)) x.snd.fst p.snd.fst).fst < (↑(List.length p.snd.snd.snd.fst) : Int)) ∧ ((0 : Int) ≤ (1 : Int) ∧ (1 : Int) < (↑(2 : Nat) : Int)) ∧ ((((List.getD p.snd.snd.snd.fst (Int.toNat (gx ((0 : Int), (0 : Int)) x.snd.fst p.snd.fst).fst) []).length + [(p.snd.fst, (gx ((0 : Int), (0 : Int)) x.snd.fst p.snd.fst).snd)].length) * (16 : Nat) ≤ (140737488355328 : Nat) ∧ (List.getD p.snd.snd.snd.fst (Int.toNat (gx ((0 : Int), (0 : Int)) x.snd.fst p.snd.fst).fst) []).length + [(p.snd.fst, (gx ((0 : Int), (0 : Int)) x.snd.fst p.snd.fst).snd)].length ≤ 9223372036854775807) ∧ ((0 : Int) ≤ (gx ((0 : Int), (0 : Int)) x.snd.fst p.snd.fst).fst ∧ (gx ((0 : Int), (0 : Int)) x.snd.fst p.snd.fst).fst < (↑(List.length p.snd.snd.snd.fst) : Int)) ∧ Int.toNat (gx ((0 : Int), (0 : Int)) x.snd.fst p.snd.fst).fst = Int.toNat (gx ((0 : Int), (0 : Int)) x.snd.fst p.snd.fst).fst ∧ ((0 : Int) ≤ (1 : Int) ∧ (1 : Int) < (↑(2 : Nat) : Int)) ∧ ((0 : Int) ≤ (1 : Int) ∧ (1 : Int) < (↑(2 : Nat) : Int)) ∧ ((0 : Int) ≤ (gx ((0 : Int), (0 : Int)) x.snd.fst p.snd.fst).snd ∧ (gx ((0 : Int), (0 : Int)) x.snd.fst p.snd.fst).snd < (↑(List.set p.snd.snd.snd.fst (Int.toNat (gx ((0 : Int), (0 : Int)) x.snd.fst p.snd.fst).fst) (List.getD p.snd.snd.snd.fst (Int.toNat (gx ((0 : Int), (0 : Int)) x.snd.fst p.snd.fst).fst) [] ++ [(p.snd.fst, (gx ((0 : Int), (0 : Int)) x.snd.fst p.snd.fst).snd)])).length : Int)) ∧ ((0 : Int) ≤ (0 : Int) ∧ (0 : Int) < (↑(2 : Nat) : Int)) ∧ (((((List.set p.snd.snd.snd.fst (Int.toNat (gx ((0 : Int), (0 : Int)) x.snd.fst p.snd.fst).fst) (List.getD p.snd.snd.snd.fst (Int.toNat (gx ((0 : Int), (0 : Int)) x.snd.fst p.snd.fst).fst) [] ++ [(p.snd.fst, (gx ((0 : Int), (0 : Int)) x.snd.fst p.snd.fst).snd)])).getD (Int.toNat (gx ((0 : Int), (0 : Int)) x.snd.fst p.snd.fst).snd) []).length + [(p.snd.fst, (gx ((0 : Int), (0 : Int)) x.snd.fst p.snd.fst).fst)].length) * (16 : Nat) ≤ (140737488355328 : Nat) ∧ ((List.set p.snd.snd.snd.fst (Int.toNat (gx ((0 : Int), (0 : Int)) x.snd.fst p.snd.fst).fst) (List.getD p.snd.snd.snd.fst (Int.toNat (gx ((0 : Int), (0 : Int)) x.snd.fst p.snd.fst).fst) [] ++ [(p.snd.fst, (gx ((0 : Int), (0 : Int)) x.snd.fst p.snd.fst).snd)])).getD (Int.toNat (gx ((0 : Int), (0 : Int)) x.snd.fst p.snd.fst).snd) []).length + [(p.snd.fst, (gx ((0 : Int), (0 : Int)) x.snd.fst p.snd.fst).fst)].length ≤ 9223372036854775807) ∧ ((0 : Int) ≤ (gx ((0 : Int), (0 : Int)) x.snd.fst p.snd.fst).snd ∧ (gx ((0 : Int), (0 : Int)) x.snd.fst p.snd.fst).snd < (↑(List.set p.snd.snd.snd.fst (Int.toNat (gx ((0 : Int), (0 : Int)) x.snd.fst p.snd.fst).fst) (List.getD p.snd.snd.snd.fst (Int.toNat (gx ((0 : Int), (0 : Int)) x.snd.fst p.snd.fst).fst) [] ++ [(p.snd.fst, (gx ((0 : Int), (0 : Int)) x.snd.fst p.snd.fst).snd)])).length : Int)) ∧ Int.toNat (gx ((0 : Int), (0 : Int)) x.snd.fst p.snd.fst).snd = Int.toNat (gx ((0 : Int), (0 : Int)) x.snd.fst p.snd.fst).snd ∧ J (p.fst ++ [p.snd.fst], o.fst, (List.set p.snd.snd.snd.fst (Int.toNat (gx ((0 : Int), (0 : Int)) x.snd.fst p.snd.fst).fst) (List.getD p.snd.snd.snd.fst (Int.toNat (gx ((0 : Int), (0 : Int)) x.snd.fst p.snd.fst).fst) [] ++ [(p.snd.fst, (gx ((0 : Int), (0 : Int)) x.snd.fst p.snd.fst).snd)])).set (Int.toNat (gx ((0 : Int), (0 : Int)) x.snd.fst p.snd.fst).snd) ((List.set p.snd.snd.snd.fst (Int.toNat (gx ((0 : Int), (0 : Int)) x.snd.fst p.snd.fst).fst) (List.getD p.snd.snd.snd.fst (Int.toNat (gx ((0 : Int), (0 : Int)) x.snd.fst p.snd.fst).fst) [] ++ [(p.snd.fst, (gx ((0 : Int), (0 : Int)) x.snd.fst p.snd.fst).snd)])).getD (Int.toNat (gx ((0 : Int), (0 : Int)) x.snd.fst p.snd.fst).snd) [] ++ [(p.snd.fst, (gx ((0 : Int), (0 : Int)) x.snd.fst p.snd.fst).fst)]), ())) ∧ (((((List.set p.snd.snd.snd.fst (Int.toNat (gx ((0 : Int), (0 : Int)) x.snd.fst p.snd.fst).fst) (List.getD p.snd.snd.snd.fst (Int.toNat (gx ((0 : Int), (0 : Int)) x.snd.fst p.snd.fst).fst) [] ++ [(p.snd.fst, (gx ((0 : Int), (0 : Int)) x.snd.fst p.snd.fst).snd)])).getD (Int.toNat (gx ((0 : Int), (0 : Int)) x.snd.fst p.snd.fst).snd) []).length + [(p.snd.fst, (gx ((0 : Int), (0 : Int)) x.snd.fst p.snd.fst).fst)].length) * (16 : Nat) ≤ (140737488355328 : Nat) ∧ ((List.set p.snd.snd.snd.fst (Int.toNat (gx ((0 : Int), (0 : Int)) x.snd.fst p.snd.fst).fst) (List.getD p.snd.snd.snd.fst (Int.toNat (gx ((0 : Int), (0 : Int)) x.snd.fst p.snd.fst).fst) [] ++ [(p.snd.fst, (gx ((0 : Int), (0 : Int)) x.snd.fst p.snd.fst).snd)])).getD (Int.toNat (gx ((0 : Int), (0 : Int)) x.snd.fst p.snd.fst).snd) []).length + [(p.snd.fst, (gx ((0 : Int), (0 : Int)) x.snd.fst p.snd.fst).fst)].length ≤ 9223372036854775807) ∧ ((0 : Int) ≤ (gx ((0 : Int), (0 : Int)) x.snd.fst p.snd.fst).snd ∧ (gx ((0 : Int), (0 : Int)) x.snd.fst p.snd.fst).snd < (↑(List.set p.snd.snd.snd.fst (Int.toNat (gx ((0 : Int), (0 : Int)) x.snd.fst p.snd.fst).fst) (List.getD p.snd.snd.snd.fst (Int.toNat (gx ((0 : Int), (0 : Int)) x.snd.fst p.snd.fst).fst) [] ++ [(p.snd.fst, (gx ((0 : Int), (0 : Int)) x.snd.fst p.snd.fst).snd)])).length : Int)) ∧ Int.toNat (gx ((0 : Int), (0 : Int)) x.snd.fst p.snd.fst).snd = Int.toNat (gx ((0 : Int), (0 : Int)) x.snd.fst p.snd.fst).snd ∧ J (p.fst ++ [p.snd.fst], o.fst, (List.set p.snd.snd.snd.fst (Int.toNat (gx ((0 : Int), (0 : Int)) x.snd.fst p.snd.fst).fst) (List.getD p.snd.snd.snd.fst (Int.toNat (gx ((0 : Int), (0 : Int)) x.snd.fst p.snd.fst).fst) [] ++ [(p.snd.fst, (gx ((0 : Int), (0 : Int)) x.snd.fst p.snd.fst).snd)])).set (Int.toNat (gx ((0 : Int), (0 : Int)) x.snd.fst p.snd.fst).snd) ((List.set p.snd.snd.snd.fst (Int.toNat (gx ((0 : Int), (0 : Int)) x.snd.fst p.snd.fst).fst) (List.getD p.snd.snd.snd.fst (Int.toNat (gx ((0 : Int), (0 : Int)) x.snd.fst p.snd.fst).fst) [] ++ [(p.snd.fst, (gx ((0 : Int), (0 : Int)) x.snd.fst p.snd.fst).snd)])).getD (Int.toNat (gx ((0 : Int), (0 : Int)) x.snd.fst p.snd.fst).snd) [] ++ [(p.snd.fst, (gx ((0 : Int), (0 : Int)) x.snd.fst p.snd.fst).fst)]), ())) ∧ ((((List.set p.snd.snd.snd.fst (Int.toNat (gx ((0 : Int), (0 : Int)) x.snd.fst p.snd.fst).fst) (List.getD p.snd.snd.snd.fst (Int.toNat (gx ((0 : Int), (0 : Int)) x.snd.fst p.snd.fst).fst) [] ++ [(p.snd.fst, (gx ((0 : Int), (0 : Int)) x.snd.fst p.snd.fst).snd)])).getD (Int.toNat (gx ((0 : Int), (0 : Int)) x.snd.fst p.snd.fst).snd) []).length + [(p.snd.fst, (gx ((0 : Int), (0 : Int)) x.snd.fst p.snd.fst).fst)].length) * (16 : Nat) ≤ (140737488355328 : Nat) ∧ ((List.set p.snd.snd.snd.fst (Int.toNat (gx ((0 : Int), (0 : Int)) x.snd.fst p.snd.fst).fst) (List.getD p.snd.snd.snd.fst (Int.toNat (gx ((0 : Int), (0 : Int)) x.snd.fst p.snd.fst).fst) [] ++ [(p.snd.fst, (gx ((0 : Int), (0 : Int)) x.snd.fst p.snd.fst).snd)])).getD (Int.toNat (gx ((0 : Int), (0 : Int)) x.snd.fst p.snd.fst).snd) []).length + [(p.snd.fst, (gx ((0 : Int), (0 : Int)) x.snd.fst p.snd.fst).fst)].length ≤ 9223372036854775807) ∧ ((0 : Int) ≤ (gx ((0 : Int), (0 : Int)) x.snd.fst p.snd.fst).snd ∧ (gx ((0 : Int), (0 : Int)) x.snd.fst p.snd.fst).snd < (↑(List.set p.snd.snd.snd.fst (Int.toNat (gx ((0 : Int), (0 : Int)) x.snd.fst p.snd.fst).fst) (List.getD p.snd.snd.snd.fst (Int.toNat (gx ((0 : Int), (0 : Int)) x.snd.fst p.snd.fst).fst) [] ++ [(p.snd.fst, (gx ((0 : Int), (0 : Int)) x.snd.fst p.snd.fst).snd)])).length : Int)) ∧ Int.toNat (gx ((0 : Int), (0 : Int)) x.snd.fst p.snd.fst).snd = Int.toNat (gx ((0 : Int), (0 : Int)) x.snd.fst p.snd.fst).snd ∧ J (p.fst ++ [p.snd.fst], o.fst, (List.set p.snd.snd.snd.fst (Int.toNat (gx ((0 : Int), (0 : Int)) x.snd.fst p.snd.fst).fst) (List.getD p.snd.snd.snd.fst (Int.toNat (gx ((0 : Int), (0 : Int)) x.snd.fst p.snd.fst).fst) [] ++ [(p.snd.fst, (gx ((0 : Int), (0 : Int)) x.snd.fst p.snd.fst).snd)])).set (Int.toNat (gx ((0 : Int), (0 : Int)) x.snd.fst p.snd.fst).snd) ((List.set p.snd.snd.snd.fst (Int.toNat (gx ((0 : Int), (0 : Int)) x.snd.fst p.snd.fst).fst) (List.getD p.snd.snd.snd.fst (Int.toNat (gx ((0 : Int), (0 : Int)) x.snd.fst p.snd.fst).fst) [] ++ [(p.snd.fst, (gx ((0 : Int), (0 : Int)) x.snd.fst p.snd.fst).snd)])).getD (Int.toNat (gx ((0 : Int), (0 : Int)) x.snd.fst p.snd.fst).snd) [] ++ [(p.snd.fst, (gx ((0 : Int), (0 : Int)) x.snd.fst p.snd.fst).fst)]), ())) ∧ ((((List.getD p.snd.snd.snd.fst (Int.toNat (gx ((0 : Int), (0 : Int)) x.snd.fst p.snd.fst).fst) []).length + [(p.snd.fst, (gx ((0 : Int), (0 : Int)) x.snd.fst p.snd.fst).snd)].length) * (16 : Nat) ≤ (140737488355328 : Nat) ∧ (List.getD p.snd.snd.snd.fst (Int.toNat (gx ((0 : Int), (0 : Int)) x.snd.fst p.snd.fst).fst) []).length + [(p.snd.fst, (gx ((0 : Int), (0 : Int)) x.snd.fst p.snd.fst).snd)].length ≤ 9223372036854775807) ∧ ((0 : Int) ≤ (gx ((0 : Int), (0 : Int)) x.snd.fst p.snd.fst).fst ∧ (gx ((0 : Int), (0 : Int)) x.snd.fst p.snd.fst).fst < (↑(List.length p.snd.snd.snd.fst) : Int)) ∧ Int.toNat (gx ((0 : Int), (0 : Int)) x.snd.fst p.snd.fst).fst = Int.toNat (gx ((0 : Int), (0 : Int)) x.snd.fst p.snd.fst).fst ∧ ((0 : Int) ≤ (1 : Int) ∧ (1 : Int) < (↑(2 : Nat) : Int)) ∧ ((0 : Int) ≤ (1 : Int) ∧ (1 : Int) < (↑(2 : Nat) : Int)) ∧ ((0 : Int) ≤ (gx ((0 : Int), (0 : Int)) x.snd.fst p.snd.fst).snd ∧ (gx ((0 : Int), (0 : Int)) x.snd.fst p.snd.fst).snd < (↑(List.set p.snd.snd.snd.fst (Int.toNat (gx ((0 : Int), (0 : Int)) x.snd.fst p.snd.fst).fst) (List.getD p.snd.snd.snd.fst (Int.toNat (gx ((0 : Int), (0 : Int)) x.snd.fst p.snd.fst).fst) [] ++ [(p.snd.fst, (gx ((0 : Int), (0 : Int)) x.snd.fst p.snd.fst).snd)])).length : Int)) ∧ ((0 : Int) ≤ (0 : Int) ∧ (0 : Int) < (↑(2 : Nat) : Int)) ∧ (((((List.set p.snd.snd.snd.fst (Int.toNat (gx ((0 : Int), (0 : Int)) x.snd.fst p.snd.fst).fst) (List.getD p.snd.snd.snd.fst (Int.toNat (gx ((0 : Int), (0 : Int)) x.snd.fst p.snd.fst).fst) [] ++ [(p.snd.fst, (gx ((0 : Int), (0 : Int)) x.snd.fst p.snd.fst).snd)])).getD (Int.toNat (gx ((0 : Int), (0 : Int)) x.snd.fst p.snd.fst).snd) []).length + [(p.snd.fst, (gx ((0 : Int), (0 : Int)) x.snd.fst p.snd.fst).fst)].length) * (16 : Nat) ≤ (140737488355328 : Nat) ∧ ((List.set p.snd.snd.snd.fst (Int.toNat (gx ((0 : Int), (0 : Int)) x.snd.fst p.snd.fst).fst) (List.getD p.snd.snd.snd.fst (Int.toNat (gx ((0 : Int), (0 : Int)) x.snd.fst p.snd.fst).fst) [] ++ [(p.snd.fst, (gx ((0 : Int), (0 : Int)) x.snd.fst p.snd.fst).snd)])).getD (Int.toNat (gx ((0 : Int), (0 : Int)) x.snd.fst p.snd.fst).snd) []).length + [(p.snd.fst, (gx ((0 : Int), (0 : Int)) x.snd.fst p.snd.fst).fst)].length ≤ 9223372036854775807) ∧ ((0 : Int) ≤ (gx ((0 : Int), (0 : Int)) x.snd.fst p.snd.fst).snd ∧ (gx ((0 : Int), (0 : Int)) x.snd.fst p.snd.fst).snd < (↑(List.set p.snd.snd.snd.fst (Int.toNat (gx ((0 : Int), (0 : Int)) x.snd.fst p.snd.fst).fst) (List.getD p.snd.snd.snd.fst (Int.toNat (gx ((0 : Int), (0 : Int)) x.snd.fst p.snd.fst).fst) [] ++ [(p.snd.fst, (gx ((0 : Int), (0 : Int)) x.snd.fst p.snd.fst).snd)])).length : Int)) ∧ Int.toNat (gx ((0 : Int), (0 : Int)) x.snd.fst p.snd.fst).snd = Int.toNat (gx ((0 : Int), (0 : Int)) x.snd.fst p.snd.fst).snd ∧ J (p.fst ++ [p.snd.fst], o.fst, (List.set p.snd.snd.snd.fst (Int.toNat (gx ((0 : Int), (0 : Int)) x.snd.fst p.snd.fst).fst) (List.getD p.snd.snd.snd.fst (Int.toNat (gx ((0 : Int), (0 : Int)) x.snd.fst p.snd.fst).fst) [] ++ [(p.snd.fst, (gx ((0 : Int), (0 : Int)) x.snd.fst p.snd.fst).snd)])).set (Int.toNat (gx ((0 : Int), (0 : Int)) x.snd.fst p.snd.fst).snd) ((List.set p.snd.snd.snd.fst (Int.toNat (gx ((0 : Int), (0 : Int)) x.snd.fst p.snd.fst).fst) (List.getD p.snd.snd.snd.fst (Int.toNat (gx ((0 : Int), (0 : Int)) x.snd.fst p.snd.fst).fst) [] ++ [(p.snd.fst, (gx ((0 : Int), (0 : Int)) x.snd.fst p.snd.fst).snd)])).getD (Int.toNat (gx ((0 : Int), (0 : Int)) x.snd.fst p.snd.fst).snd) [] ++ [(p.snd.fst, (gx ((0 : Int), (0 : Int)) x.snd.fst p.snd.fst).fst)]), ())) ∧ (((((List.set p.snd.snd.snd.fst (Int.toNat (gx ((0 : Int), (0 : Int)) x.snd.fst p.snd.fst).fst) (List.getD p.snd.snd.snd.fst (Int.toNat (gx ((0 : Int), (0 : Int)) x.snd.fst p.snd.fst).fst) [] ++ [(p.snd.fst, (gx ((0 : Int), (0 : Int)) x.snd.fst p.snd.fst).snd)])).getD (Int.toNat (gx ((0 : Int), (0 : Int)) x.snd.fst p.snd.fst).snd) []).length + [(p.snd.fst, (gx ((0 : Int), (0 : Int)) x.snd.fst p.snd.fst).fst)].length) * (16 : Nat) ≤ (140737488355328 : Nat) ∧ ((List.set p.snd.snd.snd.fst (Int.toNat (gx ((0 : Int), (0 : Int)) x.snd.fst p.snd.fst).fst) (List.getD p.snd.snd.snd.fst (Int.toNat (gx ((0 : Int), (0 : Int)) x.snd.fst p.snd.fst).fst) [] ++ [(p.snd.fst, (gx ((0 : Int), (0 : Int)) x.snd.fst p.snd.fst).snd)])).getD (Int.toNat (gx ((0 : Int), (0 : Int)) x.snd.fst p.snd.fst).snd) []).length + [(p.snd.fst, (gx ((0 : Int), (0 : Int)) x.snd.fst p.snd.fst).fst)].length ≤ 9223372036854775807) ∧ ((0 : Int) ≤ (gx ((0 : Int), (0 : Int)) x.snd.fst p.snd.fst).snd ∧ (gx ((0 : Int), (0 : Int)) x.snd.fst p.snd.fst).snd < (↑(List.set p.snd.snd.snd.fst (Int.toNat (gx ((0 : Int), (0 : Int)) x.snd.fst p.snd.fst).fst) (List.getD p.snd.snd.snd.fst (Int.toNat (gx ((0 : Int), (0 : Int)) x.snd.fst p.snd.fst).fst) [] ++ [(p.snd.fst, (gx ((0 : Int), (0 : Int)) x.snd.fst p.snd.fst).snd)])).length : Int)) ∧ Int.toNat (gx ((0 : Int), (0 : Int)) x.snd.fst p.snd.fst).snd = Int.toNat (gx ((0 : Int), (0 : Int)) x.snd.fst p.snd.fst).snd ∧ J (p.fst ++ [p.snd.fst], o.fst, (List.set p.snd.snd.snd.fst (Int.toNat (gx ((0 : Int), (0 : Int)) x.snd.fst p.snd.fst).fst) (List.getD p.snd.snd.snd.fst (Int.toNat (gx ((0 : Int), (0 : Int)) x.snd.fst p.snd.fst).fst) [] ++ [(p.snd.fst, (gx ((0 : Int), (0 : Int)) x.snd.fst p.snd.fst).snd)])).set (Int.toNat (gx ((0 : Int), (0 : Int)) x.snd.fst p.snd.fst).snd) ((List.set p.snd.snd.snd.fst (Int.toNat (gx ((0 : Int), (0 : Int)) x.snd.fst p.snd.fst).fst) (List.getD p.snd.snd.snd.fst (Int.toNat (gx ((0 : Int), (0 : Int)) x.snd.fst p.snd.fst).fst) [] ++ [(p.snd.fst, (gx ((0 : Int), (0 : Int)) x.snd.fst p.snd.fst).snd)])).getD (Int.toNat (gx ((0 : Int), (0 : Int)) x.snd.fst p.snd.fst).snd) [] ++ [(p.snd.fst, (gx ((0 : Int), (0 : Int)) x.snd.fst p.snd.fst).fst)]), ())) ∧ ((((List.set p.snd.snd.snd.fst (Int.toNat (gx ((0 : Int), (0 : Int)) x.snd.fst p.snd.fst).fst) (List.getD p.snd.snd.snd.fst (Int.toNat (gx ((0 : Int), (0 : Int)) x.snd.fst p.snd.fst).fst) [] ++ [(p.snd.fst, (gx ((0 : Int), (0 : Int)) x.snd.fst p.snd.fst).snd)])).getD (Int.toNat (gx ((0 : Int), (0 : Int)) x.snd.fst p.snd.fst).snd) []).length + [(p.snd.fst, (gx ((0 : Int), (0 : Int)) x.snd.fst p.snd.fst).fst)].length) * (16 : Nat) ≤ (140737488355328 : Nat) ∧ ((List.set p.snd.snd.snd.fst (Int.toNat (gx ((0 : Int), (0 : Int)) x.snd.fst p.snd.fst).fst) (List.getD p.snd.snd.snd.fst (Int.toNat (gx ((0 : Int), (0 : Int)) x.snd.fst p.snd.fst).fst) [] ++ [(p.snd.fst, (gx ((0 : Int), (0 : Int)) x.snd.fst p.snd.fst).snd)])).getD (Int.toNat (gx ((0 : Int), (0 : Int)) x.snd.fst p.snd.fst).snd) []).length + [(p.snd.fst, (gx ((0 : Int), (0 : Int)) x.snd.fst p.snd.fst).fst)].length ≤ 9223372036854775807) ∧ ((0 : Int) ≤ (gx ((0 : Int), (0 : Int)) x.snd.fst p.snd.fst).snd ∧ (gx ((0 : Int), (0 : Int)) x.snd.fst p.snd.fst).snd < (↑(List.set p.snd.snd.snd.fst (Int.toNat (gx ((0 : Int), (0 : Int)) x.snd.fst p.snd.fst).fst) (List.getD p.snd.snd.snd.fst (Int.toNat (gx ((0 : Int), (0 : Int)) x.snd.fst p.snd.fst).fst) [] ++ [(p.snd.fst, (gx ((0 : Int), (0 : Int)) x.snd.fst p.snd.fst).snd)])).length : Int)) ∧ Int.toNat (gx ((0 : Int), (0 : Int)) x.snd.fst p.snd.fst).snd = Int.toNat (gx ((0 : Int), (0 : Int)) x.snd.fst p.snd.fst).snd ∧ J (p.fst ++ [p.snd.fst], o.fst, (List.set p.snd.snd.snd.fst (Int.toNat (gx ((0 : Int), (0 : Int)) x.snd.fst p.snd.fst).fst) (List.getD p.snd.snd.snd.fst (Int.toNat (gx ((0 : Int), (0 : Int)) x.snd.fst p.snd.fst).fst) [] ++ [(p.snd.fst, (gx ((0 : Int), (0 : Int)) x.snd.fst p.snd.fst).snd)])).set (Int.toNat (gx ((0 : Int), (0 : Int)) x.snd.fst p.snd.fst).snd) ((List.set p.snd.snd.snd.fst (Int.toNat (gx ((0 : Int), (0 : Int)) x.snd.fst p.snd.fst).fst) (List.getD p.snd.snd.snd.fst (Int.toNat (gx ((0 : Int), (0 : Int)) x.snd.fst p.snd.fst).fst) [] ++ [(p.snd.fst, (gx ((0 : Int), (0 : Int)) x.snd.fst p.snd.fst).snd)])).getD (Int.toNat (gx ((0 : Int), (0 : Int)) x.snd.fst p.snd.fst).snd) [] ++ [(p.snd.fst, (gx ((0 : Int), (0 : Int)) x.snd.fst p.snd.fst).fst)]), ())) ∧ (((List.getD p.snd.snd.snd.fst (Int.toNat (gx ((0 : Int), (0 : Int)) x.snd.fst p.snd.fst).fst) []).length + [(p.snd.fst, (gx ((0 : Int), (0 : Int)) x.snd.fst p.snd.fst).snd)].length) * (16 : Nat) ≤ (140737488355328 : Nat) ∧ (List.getD p.snd.snd.snd.fst (Int.toNat (gx ((0 : Int), (0 : Int)) x.snd.fst p.snd.fst).fst) []).length + [(p.snd.fst, (gx ((0 : Int), (0 : Int)) x.snd.fst p.snd.fst).snd)].length ≤ 9223372036854775807) ∧ ((0 : Int) ≤ (gx ((0 : Int), (0 : Int)) x.snd.fst p.snd.fst).fst ∧ (gx ((0 : Int), (0 : Int)) x.snd.fst p.snd.fst).fst < (↑(List.length p.snd.snd.snd.fst) : Int)) ∧ Int.toNat (gx ((0 : Int), (0 : Int)) x.snd.fst p.snd.fst).fst = Int.toNat (gx ((0 : Int), (0 : Int)) x.snd.fst p.snd.fst).fst ∧ ((0 : Int) ≤ (1 : Int) ∧ (1 : Int) < (↑(2 : Nat) : Int)) ∧ ((0 : Int) ≤ (1 : Int) ∧ (1 : Int) < (↑(2 : Nat) : Int)) ∧ ((0 : Int) ≤ (gx ((0 : Int), (0 : Int)) x.snd.fst p.snd.fst).snd ∧ (gx ((0 : Int), (0 : Int)) x.snd.fst p.snd.fst).snd < (↑(List.set p.snd.snd.snd.fst (Int.toNat (gx ((0 : Int), (0 : Int)) x.snd.fst p.snd.fst).fst) (List.getD p.snd.snd.snd.fst (Int.toNat (gx ((0 : Int), (0 : Int)) x.snd.fst p.snd.fst).fst) [] ++ [(p.snd.fst, (gx ((0 : Int), (0 : Int)) x.snd.fst p.snd.fst).snd)])).length : Int)) ∧ ((0 : Int) ≤ (0 : Int) ∧ (0 : Int) < (↑(2 : Nat) : Int)) ∧ (((((List.set p.snd.snd.snd.fst (Int.toNat (gx ((0 : Int), (0 : Int)) x.snd.fst p.snd.fst).fst) (List.getD p.snd.snd.snd.fst (Int.toNat (gx ((0 : Int), (0 : Int)) x.snd.fst p.snd.fst).fst) [] ++ [(p.snd.fst, (gx ((0 : Int), (0 : Int)) x.snd.fst p.snd.fst).snd)])).getD (Int.toNat (gx ((0 : Int), (0 : Int)) x.snd.fst p.snd.fst).snd) []).length + [(p.snd.fst, (gx ((0 : Int), (0 : Int)) x.snd.fst p.snd.fst).fst)].length) * (16 : Nat) ≤ (140737488355328 : Nat) ∧ ((List.set p.snd.snd.snd.fst (Int.toNat (gx ((0 : Int), (0 : Int)) x.snd.fst p.snd.fst).fst) (List.getD p.snd.snd.snd.fst (Int.toNat (gx ((0 : Int), (0 : Int)) x.snd.fst p.snd.fst).fst) [] ++ [(p.snd.fst, (gx ((0 : Int), (0 : Int)) x.snd.fst p.snd.fst).snd)])).getD (Int.toNat (gx ((0 : Int), (0 : Int)) x.snd.fst p.snd.fst).snd) []).length + [(p.snd.fst, (gx ((0 : Int), (0 : Int)) x.snd.fst p.snd.fst).fst)].length ≤ 9223372036854775807) ∧ ((0 : Int) ≤ (gx ((0 : Int), (0 : Int)) x.snd.fst p.snd.fst).snd ∧ (gx ((0 : Int), (0 : Int)) x.snd.fst p.snd.fst).snd < (↑(List.set p.snd.snd.snd.fst (Int.toNat (gx ((0 : Int), (0 : Int)) x.snd.fst p.snd.fst).fst) (List.getD p.snd.snd.snd.fst (Int.toNat (gx ((0 : Int), (0 : Int)) x.snd.fst p.snd.fst).fst) [] ++ [(p.snd.fst, (gx ((0 : Int), (0 : Int)) x.snd.fst p.snd.fst).snd)])).length : Int)) ∧ Int.toNat (gx ((0 : Int), (0 : Int)) x.snd.fst p.snd.fst).snd = Int.toNat (gx ((0 : Int), (0 : Int)) x.snd.fst p.snd.fst).snd ∧ J (p.fst ++ [p.snd.fst], o.fst, (List.set p.snd.snd.snd.fst (Int.toNat (gx ((0 : Int), (0 : Int)) x.snd.fst p.snd.fst).fst) (List.getD p.snd.snd.snd.fst (Int.toNat (gx ((0 : Int), (0 : Int)) x.snd.fst p.snd.fst).fst) [] ++ [(p.snd.fst, (gx ((0 : Int), (0 : Int)) x.snd.fst p.snd.fst).snd)])).set (Int.toNat (gx ((0 : Int), (0 : Int)) x.snd.fst p.snd.fst).snd) ((List.set p.snd.snd.snd.fst (Int.toNat (gx ((0 : Int), (0 : Int)) x.snd.fst p.snd.fst).fst) (List.getD p.snd.snd.snd.fst (Int.toNat (gx ((0 : Int), (0 : Int)) x.snd.fst p.snd.fst).fst) [] ++ [(p.snd.fst, (gx ((0 : Int), (0 : Int)) x.snd.fst p.snd.fst).snd)])).getD (Int.toNat (gx ((0 : Int), (0 : Int)) x.snd.fst p.snd.fst).snd) [] ++ [(p.snd.fst, (gx ((0 : Int), (0 : Int)) x.snd.fst p.snd.fst).fst)]), ())) ∧ (((((List.set p.snd.snd.snd.fst (Int.toNat (gx ((0 : Int), (0 : Int)) x.snd.fst p.snd.fst).fst) (List.getD p.snd.snd.snd.fst (Int.toNat (gx ((0 : Int), (0 : Int)) x.snd.fst p.snd.fst).fst) [] ++ [(p.snd.fst, (gx ((0 : Int), (0 : Int)) x.snd.fst p.snd.fst).snd)])).getD (Int.toNat (gx ((0 : Int), (0 : Int)) x.snd.fst p.snd.fst).snd) []).length + [(p.snd.fst, (gx ((0 : Int), (0 : Int)) x.snd.fst p.snd.fst).fst)].length) * (16 : Nat) ≤ (140737488355328 : Nat) ∧ ((List.set p.snd.snd.snd.fst (Int.toNat (gx ((0 : Int), (0 : Int)) x.snd.fst p.snd.fst).fst) (List.getD p.snd.snd.snd.fst (Int.toNat (gx ((0 : Int), (0 : Int)) x.snd.fst p.snd.fst).fst) [] ++ [(p.snd.fst, (gx ((0 : Int), (0 : Int)) x.snd.fst p.snd.fst).snd)])).getD (Int.toNat (gx ((0 : Int), (0 : Int)) x.snd.fst p.snd.fst).snd) []).length + [(p.snd.fst, (gx ((0 : Int), (0 : Int)) x.snd.fst p.snd.fst).fst)].length ≤ 9223372036854775807) ∧ ((0 : Int) ≤ (gx ((0 : Int), (0 : Int)) x.snd.fst p.snd.fst).snd ∧ (gx ((0 : Int), (0 : Int)) x.snd.fst p.snd.fst).snd < (↑(List.set p.snd.snd.snd.fst (Int.toNat (gx ((0 : Int), (0 : Int)) x.snd.fst p.snd.fst).fst) (List.getD p.snd.snd.snd.fst (Int.toNat (gx ((0 : Int), (0 : Int)) x.snd.fst p.snd.fst).fst) [] ++ [(p.snd.fst, (gx ((0 : Int), (0 : Int)) x.snd.fst p.snd.fst).snd)])).length : Int)) ∧ Int.toNat (gx ((0 : Int), (0 : Int)) x.snd.fst p.snd.fst).snd = Int.toNat (gx ((0 : Int), (0 : Int)) x.snd.fst p.snd.fst).snd ∧ J (p.fst ++ [p.snd.fst], o.fst, (List.set p.snd.snd.snd.fst (Int.toNat (gx ((0 : Int), (0 : Int)) x.snd.fst p.snd.fst).fst) (List.getD p.snd.snd.snd.fst (Int.toNat (gx ((0 : Int), (0 : Int)) x.snd.fst p.snd.fst).fst) [] ++ [(p.snd.fst, (gx ((0 : Int), (0 : Int)) x.snd.fst p.snd.fst).snd)])).set (Int.toNat (gx ((0 : Int), (0 : Int)) x.snd.fst p.snd.fst).snd) ((List.set p.snd.snd.snd.fst (Int.toNat (gx ((0 : Int), (0 : Int)) x.snd.fst p.snd.fst).fst) (List.getD p.snd.snd.snd.fst (Int.toNat (gx ((0 : Int), (0 : Int)) x.snd.fst p.snd.fst).fst) [] ++ [(p.snd.fst, (gx ((0 : Int), (0 : Int)) x.snd.fst p.snd.fst).snd)])).getD (Int.toNat (gx ((0 : Int), (0 : Int)) x.snd.fst p.snd.fst).snd) [] ++ [(p.snd.fst, (gx ((0 : Int), (0 : Int)) x.snd.fst p.snd.fst).fst)]), ())) ∧ ((((List.set p.snd.snd.snd.fst (Int.toNat (gx ((0 : Int), (0 : Int)) x.snd.fst p.snd.fst).fst) (List.getD p.snd.snd.snd.fst (Int.toNat (gx ((0 : Int), (0 : Int)) x.snd.fst p.snd.fst).fst) [] ++ [(p.snd.fst, (gx ((0 : Int), (0 : Int)) x.snd.fst p.snd.fst).snd)])).getD (Int.toNat (gx ((0 : Int), (0 : Int)) x.snd.fst p.snd.fst).snd) []).length + [(p.snd.fst, (gx ((0 : Int), (0 : Int)) x.snd.fst p.snd.fst).fst)].length) * (16 : Nat) ≤ (140737488355328 : Nat) ∧ ((List.set p.snd.snd.snd.fst (Int.toNat (gx ((0 : Int), (0 : Int)) x.snd.fst p.snd.fst).fst) (List.getD p.snd.snd.snd.fst (Int.toNat (gx ((0 : Int), (0 : Int)) x.snd.fst p.snd.fst).fst) [] ++ [(p.snd.fst, (gx ((0 : Int), (0 : Int)) x.snd.fst p.snd.fst).snd)])).getD (Int.toNat (gx ((0 : Int), (0 : Int)) x.snd.fst p.snd.fst).snd) []).length + [(p.snd.fst, (gx ((0 : Int), (0 : Int)) x.snd.fst p.snd.fst).fst)].length ≤ 9223372036854775807) ∧ ((0 : Int) ≤ (gx ((0 : Int), (0 : Int)) x.snd.fst p.snd.fst).snd ∧ (gx ((0 : Int), (0 : Int)) x.snd.fst p.snd.fst).snd < (↑(List.set p.snd.snd.snd.fst (Int.toNat (gx ((0 : Int), (0 : Int)) x.snd.fst p.snd.fst).fst) (List.getD p.snd.snd.snd.fst (Int.toNat (gx ((0 : Int), (0 : Int)) x.snd.fst p.snd.fst).fst) [] ++ [(p.snd.fst, (gx ((0 : Int), (0 : Int)) x.snd.fst p.snd.fst).snd)])).length : Int)) ∧ Int.toNat (gx ((0 : Int), (0 : Int)) x.snd.fst p.snd.fst).snd = Int.toNat (gx ((0 : Int), (0 : Int)) x.snd.fst p.snd.fst).snd ∧ J (p.fst ++ [p.snd.fst], o.fst, (List.set p.snd.snd.snd.fst (Int.toNat (gx ((0 : Int), (0 : Int)) x.snd.fst p.snd.fst).fst) (List.getD p.snd.snd.snd.fst (Int.toNat (gx ((0 : Int), (0 : Int)) x.snd.fst p.snd.fst).fst) [] ++ [(p.snd.fst, (gx ((0 : Int), (0 : Int)) x.snd.fst p.snd.fst).snd)])).set (Int.toNat (gx ((0 : Int), (0 : Int)) x.snd.fst p.snd.fst).snd) ((List.set p.snd.snd.snd.fst (Int.toNat (gx ((0 : Int), (0 : Int)) x.snd.fst p.snd.fst).fst) (List.getD p.snd.snd.snd.fst (Int.toNat (gx ((0 : Int), (0 : Int)) x.snd.fst p.snd.fst).fst) [] ++ [(p.snd.fst, (gx ((0 : Int), (0 : Int)) x.snd.fst p.snd.fst).snd)])).getD (Int.toNat (gx ((0 : Int), (0 : Int)) x.snd.fst p.snd.fst).snd) [] ++ [(p.snd.fst, (gx ((0 : Int), (0 : Int)) x.snd.fst p.snd.fst).fst)]), ())) ∧ (r_1.fst = false → J (p.fst, o.fst, p.snd.snd.snd.fst, ()))) ∧ ∀ (p_1 : List Int × List Int × List (List (Int × Int)) × Unit), WfI p_1.fst ∧ WfI p_1.snd.fst ∧ (List.length p_1.snd.snd.fst ≤ 9223372036854775807 ∧ ∀ (x : List (Int × Int)), x ∈ p_1.snd.snd.fst → x.length ≤ 9223372036854775807 ∧ ∀ (x_1 : Int × Int), x_1 ∈ x → In64 x_1.fst ∧ In64 x_1.snd) ∧ True → J p_1 → I (p_1.fst, IntKind.i64.wrap (p.snd.fst + (1 : Int)), p_1.snd.fst, p_1.snd.snd.fst, ()) ∧ μ (p_1.fst, IntKind.i64.wrap (p.snd.fst + (1 : Int)), p_1.snd.fst, p_1.snd.snd.fst, ()) < μ p) ∧ (decide (p.snd.fst < (↑(List.length x.snd.fst) : Int)) = false → p.fst = forestF x.fst x.snd.fst ∧ p.snd.snd.snd.fst = nextT x.fst x.snd.fst)
theorem vc_topology_tree_eq (x : dens s_topology_tree.args) : semF ⟨Tryz.prog, tysR⟩ sp_topology_tree an_topology_tree s_topology_tree Tryz.f31.results.toList (Tryz.f31.body.getD .skip) x = vc_topology_tree x := by kernel_rfl
theorem m_topology_tree (hsp : SpOk Tryz.prog sp_topology_tree) (h : ∀ x, awf s_topology_tree.args x → s_topology_tree.pre x → vc_topology_tree x) : Meets Tryz.prog 31 s_topology_tree := meets_vc (cx := ⟨Tryz.prog, tysR⟩) (sp := sp_topology_tree) (an := an_topology_tree) (s := s_topology_tree) (fn := Tryz.f31) (c := Tryz.f31.body.getD .skip) Tryz.func31 (by kernel_rfl) (Nat.le_of_ble_eq_true (by kernel_rfl)) (by kernel_rfl) tysR_ok hsp vc_topology_tree_eq h
def vc_topology_Islands : dens s_topology_Islands.args → Prop := fun (x : Int × List (Int × Int) × Unit) => True ∧ ∀ (r : Int × Unit), In64 r.fst ∧ True → r.fst = netE x.fst x.snd.fst → (decide (r.fst ≠ (0 : Int)) = true → (nilL Int = if netE x.fst x.snd.fst = (0 : Int) then labs x.fst x.snd.fst else []) ∧ r.fst = netE x.fst x.snd.fst) ∧ (decide (r.fst ≠ (0 : Int)) = false → ((0 : Int) ≤ x.fst ∧ x.fst ≤ (16384 : Int)) ∧ ∀ (r_1 : List Int × Unit), WfI r_1.fst ∧ True → r_1.fst = idL x.fst → ∃ (I : Int × List Int × Unit → Prop), ∃ (μ : Int × List Int × Unit → Nat), I ((0 : Int), r_1) ∧ ∀ (p : Int × List Int × Unit), In64 p.fst ∧ WfI p.snd.fst ∧ True → I p → (decide (p.fst < (↑(List.length x.snd.fst) : Int)) = true → ((0 : Int) ≤ p.fst ∧ p.fst < (↑(List.length x.snd.fst) : Int)) ∧ (UF p.snd.fst ∧ inB (↑(List.length p.snd.fst) : Int) (gx ((0 : Int), (0 : Int)) x.snd.fst p.fst) ∧ List.length p.snd.fst ≤ (16384 : Nat)) ∧ ∀ (r_2 : Bool × Unit) (o : List Int × Unit), True ∧ True → (Ty.int IntKind.i64).sl.wf o.fst ∧ True → r_2.fst = decide (root p.snd.fst (gx ((0 : Int), (0 : Int)) x.snd.fst p.fst).fst ≠ root p.snd.fst (gx ((0 : Int), (0 : Int)) x.snd.fst p.fst).snd) → (UF o.fst ∧ o.fst.length = List.length p.snd.fst ∧ ∀ (i : Int), (0 : Int) ≤ i → i < (↑(List.length p.snd.fst) : Int) → root o.fst i = if root p.snd.fst i = Max.max (root p.snd.fst (gx ((0 : Int), (0 : Int)) x.snd.fst p.fst).fst) (root p.snd.fst (gx ((0 : Int), (0 : Int)) x.snd.fst p.fst).snd) then Min.min (root p.snd.fst (gx ((0 : Int), (0 : Int)) x.snd.fst p.fst).fst) (root p.snd.fst (gx ((0 : Int), (0 : Int)) x.snd.fst p.fst).snd) else root p.snd.fst i) → I (IntKind.i64.wrap (p.fst + (1 : Int)), o) ∧ μ (IntKind.i64.wrap (p.fst + (1 : Int)), o) < μ p) ∧ (decide (p.fst < (↑(List.length x.snd.fst) : Int)) = false → ((0 : Int) ≤ x.fst ∧ x.fst ≤ x.fst ∧ (↑(8 : Nat) : Int) * x.fst ≤ (281474976710656 : Int) ∧ x.fst ≤ (9223372036854775807 : Int)) ∧ ∃ (I : Int × List Int × List Int × Unit → Prop), ∃ (μ : Int × List Int × List Int × Unit → Nat), I ((0 : Int), p.snd.fst, List.replicate (Int.toNat x.fst) (0 : Int), ()) ∧ ∀ (p : Int × List Int × List Int × Unit), In64 p.fst ∧ WfI p.snd.fst ∧ WfI p.snd.snd.fst ∧ True → I p → (decide (p.fst < (↑(List.replicate (Int.toNat x.fst) (0 : Int)).length : Int)) = true → (UF p.snd.fst ∧ (0 : Int) ≤ p.fst ∧ p.fst < (↑(List.length p.snd.fst) : Int) ∧ List.length p.snd.fst ≤ (16384 : Nat)) ∧ ∀ (r : Int × Unit) (o : List Int × Unit), In64 r.fst ∧ True → (Ty.int IntKind.i64).sl.wf o.fst ∧ True → r.fst = root p.snd.fst p.fst → (UF o.fst ∧ o.fst.length = List.length p.snd.fst ∧ ∀ (i : Int), (0 : Int) ≤ i → i < (↑(List.length p.snd.fst) : Int) → root o.fst i = root p.snd.fst i) → ((0 : Int) ≤ p.fst ∧ p.fst < (↑(List.length p.snd.snd.fst) : Int)) ∧ I (IntKind.i64.wrap (p.fst + (1 : Int)), o.fst, List.set p.snd.snd.fst (Int.toNat p.fst) r.fst, ()) ∧ μ (IntKind.i64.wrap (p.fst + (1 : Int)), o.fst, List.set p.snd.snd.fst (Int.toNat p.fst) r.fst, ()) < μ p) ∧ (decide (p.fst < (↑(List.replicate (Int.toNat x.fst) (0 : Int)).length : Int)) = false → (p.snd.snd.fst = if netE x.fst x.snd.fst = (0 : Int) then labs x.fst x.snd.fst else []) ∧ (0 : Int) = netE x.fst x.snd.fst)))
theorem vc_topology_Islands_eq (x : dens s_topology_Islands.args) : semF ⟨Tryz.prog, tys⟩ sp_topology_Islands an_topology_Islands s_topology_Islands Tryz.f9.results.toList (Tryz.f9.body.getD .skip) x = vc_topology_Islands x := by kernel_rfl
theorem m_topology_Islands (hsp : SpOk Tryz.prog sp_topology_Islands) (h : ∀ x, awf s_topology_Islands.args x → s_topology_Islands.pre x → vc_topology_Islands x) : Meets Tryz.prog 9 s_topology_Islands := meets_vc (cx := ⟨Tryz.prog, tys⟩) (sp := sp_topology_Islands) (an := an_topology_Islands) (s := s_topology_Islands) (fn := Tryz.f9) (c := Tryz.f9.body.getD .skip) Tryz.func9 (by kernel_rfl) (Nat.le_of_ble_eq_true (by kernel_rfl)) (by kernel_rfl) tys_ok hsp vc_topology_Islands_eq h
def vc_topology_Forest : dens s_topology_Forest.args → Prop := fun (x : Int × List (Int × Int) × Unit) => True ∧ ∀ (r : Int × Unit), In64 r.fst ∧ True → r.fst = netE x.fst x.snd.fst → (decide (r.fst ≠ (0 : Int)) = true → (nilL Int = if netE x.fst x.snd.fst = (0 : Int) then forestF x.fst x.snd.fst else []) ∧ r.fst = netE x.fst x.snd.fst) ∧ (decide (r.fst ≠ (0 : Int)) = false → netOk x.fst x.snd.fst ∧ ∀ (r : List Int × List (List (Int × Int)) × Unit), WfI r.fst ∧ (List.length r.snd.fst ≤ 9223372036854775807 ∧ ∀ (x : List (Int × Int)), x ∈ r.snd.fst → x.length ≤ 9223372036854775807 ∧ ∀ (x_1 : Int × Int), x_1 ∈ x → In64 x_1.fst ∧ In64 x_1.snd) ∧ True → r.fst = forestF x.fst x.snd.fst ∧ r.snd.fst = nextT x.fst x.snd.fst → (r.fst = if netE x.fst x.snd.fst = (0 : Int) then forestF x.fst x.snd.fst else []) ∧ (0 : Int) = netE x.fst x.snd.fst)
theorem vc_topology_Forest_eq (x : dens s_topology_Forest.args) : semF ⟨Tryz.prog, tys⟩ sp_topology_Forest an_topology_Forest s_topology_Forest Tryz.f8.results.toList (Tryz.f8.body.getD .skip) x = vc_topology_Forest x := by kernel_rfl
theorem m_topology_Forest (hsp : SpOk Tryz.prog sp_topology_Forest) (h : ∀ x, awf s_topology_Forest.args x → s_topology_Forest.pre x → vc_topology_Forest x) : Meets Tryz.prog 8 s_topology_Forest := meets_vc (cx := ⟨Tryz.prog, tys⟩) (sp := sp_topology_Forest) (an := an_topology_Forest) (s := s_topology_Forest) (fn := Tryz.f8) (c := Tryz.f8.body.getD .skip) Tryz.func8 (by kernel_rfl) (Nat.le_of_ble_eq_true (by kernel_rfl)) (by kernel_rfl) tys_ok hsp vc_topology_Forest_eq h
end Go.Proofs.YtppgpdigopffbaaGreat
namespace Go.Proofs.YtppgpdigopffbaaGreat
open Go.Vc Go.Gw
def Says (s L : List Int) : Prop := UF s ∧ s.length = L.length ∧ ∀ i : Int, 0 ≤ i → i < (s.length : Int) → root s i = lat L i
theorem says_id {n : Int} (h0 : 0 ≤ n) : Says (idL n) (idL n) := by
  have hu : UF (idL n) := fun i hi => by
    rw [idL_len] at hi
    rw [lat_idL (by omega) (by omega)]
    omega
  refine ⟨hu, rfl, fun i i0 i1 => ?_⟩
  have i2 := i1
  rw [idL_len] at i2
  rw [root_fix hu i0 i1 (lat_idL i0 (by omega)), lat_idL i0 (by omega)]
theorem says_join {s o L : List Int} {l : Ln} (h : Says s L) (hl : inB s.length l) (h1 : UF o) (h2 : o.length = s.length) (h3 : ∀ i : Int, 0 ≤ i → i < (s.length : Int) → root o i = if root s i = max (root s l.1) (root s l.2) then min (root s l.1) (root s l.2) else root s i) : Says o (joinF L l) := by
  obtain ⟨g1, g2, g3⟩ := h
  obtain ⟨a0, a1, b0, b1⟩ := hl
  refine ⟨h1, by rw [joinF_len]; omega, fun i i0 i1 => ?_⟩
  rw [h3 i i0 (by omega), lat_joinF i0 (by omega), g3 i i0 (by omega), g3 _ a0 a1, g3 _ b0 b1]
theorem vc_topology_Islands_ok (x : dens s_topology_Islands.args) (hw : awf s_topology_Islands.args x) (_ : s_topology_Islands.pre x) : vc_topology_Islands x := by
  obtain ⟨n, ls, _⟩ := x
  have hl : ls.length ≤ 9223372036854775807 := hw.2.1.1
  change Int at n
  change List (Int × Int) at ls
  simp only [vc_topology_Islands]
  refine ⟨trivial, ?_⟩
  rintro ⟨e, _⟩ _ he
  simp only at he ⊢
  subst he
  refine ⟨fun h => ?_, fun h => ?_⟩
  · have h := of_decide_eq_true h
    exact ⟨by rw [if_neg h], rfl⟩
  · have h : netE n ls = 0 := by simpa using h
    have hok := netE_ok.1 h
    obtain ⟨n0, n1, nb⟩ := hok
    refine ⟨⟨n0, n1⟩, ?_⟩
    rintro ⟨s0, _⟩ _ hs0
    simp only at hs0 ⊢
    subst hs0
    refine ⟨fun p => 0 ≤ p.1 ∧ p.1 ≤ (ls.length : Int) ∧ Says p.2.1 (labs n (ls.take p.1.toNat)), fun p => ((ls.length : Int) - p.1).toNat, ⟨by omega, by omega, by simpa [labs] using says_id n0⟩, ?_⟩
    rintro ⟨i, s, _⟩ _ ⟨h0, h1, h2⟩
    change Int at i
    change List Int at s
    simp only at h0 h1 h2 ⊢
    have hsl : s.length = n.toNat := by rw [h2.2.1, labs_len]
    refine ⟨fun hi => ?_, fun hi => ?_⟩
    · have hi := of_decide_eq_true hi
      have hin : inB (s.length : Int) (gx ((0 : Int), (0 : Int)) ls i) := by
        rw [hsl, show ((n.toNat : Nat) : Int) = n from by omega]
        exact nb _ (gx_mem h0 hi)
      refine ⟨⟨h0, hi⟩, ⟨h2.1, hin, by omega⟩, ?_⟩
      rintro ⟨r, _⟩ ⟨o, _⟩ _ _ _ ⟨g1, g2, g3⟩
      simp only at g1 g2 g3 ⊢
      rw [wr (by omega) (by omega)]
      refine ⟨⟨by omega, by omega, ?_⟩, by omega⟩
      rw [show (i + 1).toNat = i.toNat + 1 from by omega, take_snoc (d := ((0 : Int), (0 : Int))) (by omega), labs_snoc, ← gx_getD h0 hi]
      exact says_join h2 hin g1 g2 g3
    · have hi := of_decide_eq_false hi
      rw [take_all (by omega)] at h2
      simp only [List.length_replicate]
      refine ⟨by omega, fun p => 0 ≤ p.1 ∧ p.1 ≤ n ∧ Says p.2.1 (labs n ls) ∧ p.2.2.1.length = n.toNat ∧ ∀ j : Nat, (j : Int) < p.1 → p.2.2.1[j]? = some (lat (labs n ls) j), fun p => (n - p.1).toNat, ⟨by omega, by omega, h2, by simp, fun j hj => by omega⟩, ?_⟩
      rintro ⟨b, t, out, _⟩ _ ⟨q0, q1, q2, q3, q4⟩
      change Int at b
      change List Int at t out
      simp only at q0 q1 q2 q3 q4 ⊢
      have htl : t.length = n.toNat := by rw [q2.2.1, labs_len]
      refine ⟨fun hb => ?_, fun hb => ?_⟩
      · have hb := of_decide_eq_true hb
        refine ⟨⟨q2.1, q0, by omega, by omega⟩, ?_⟩
        rintro ⟨r, _⟩ ⟨o, _⟩ _ _ hr ⟨g1, g2, g3⟩
        simp only at hr g1 g2 g3 ⊢
        rw [wr (by omega) (by omega)]
        refine ⟨⟨q0, by omega⟩, ⟨by omega, by omega, ⟨g1, by rw [g2]; exact q2.2.1, fun i i0 i1 => by rw [g3 i i0 (by omega)]; exact q2.2.2 i i0 (by omega)⟩, by rw [List.length_set]; exact q3, fun j hj => ?_⟩, by omega⟩
        rw [List.getElem?_set]
        by_cases hij : b.toNat = j
        · rw [if_pos hij, if_pos (by omega), hr, q2.2.2 b q0 (by omega), show ((j : Nat) : Int) = b from by omega]
        · rw [if_neg hij]; exact q4 j (by omega)
      · have hb := of_decide_eq_false hb
        rw [if_pos h]
        refine ⟨?_, h.symm⟩
        apply List.ext_getElem?
        intro j
        by_cases hj : j < n.toNat
        · rw [q4 j (by omega)]
          have := lat_get (L := labs n ls) (i := (j : Int)) (by omega) (by rw [labs_len]; omega)
          rw [Int.toNat_natCast] at this
          exact this.symm
        · rw [List.getElem?_eq_none (by omega), List.getElem?_eq_none (by rw [labs_len]; omega)]
theorem vc_topology_Forest_ok (x : dens s_topology_Forest.args) (hw : awf s_topology_Forest.args x) (_ : s_topology_Forest.pre x) : vc_topology_Forest x := by
  obtain ⟨n, ls, _⟩ := x
  change Int at n
  change List (Int × Int) at ls
  simp only [vc_topology_Forest]
  refine ⟨trivial, ?_⟩
  rintro ⟨e, _⟩ _ he
  simp only at he ⊢
  subst he
  refine ⟨fun h => ?_, fun h => ?_⟩
  · have h := of_decide_eq_true h
    exact ⟨by rw [if_neg h], rfl⟩
  · have h : netE n ls = 0 := by simpa using h
    refine ⟨netE_ok.1 h, ?_⟩
    rintro ⟨f, N, _⟩ _ ⟨h1, _⟩
    exact ⟨by rw [if_pos h]; exact h1, h.symm⟩
theorem vc_topology_tree_ok (x : dens s_topology_tree.args) (hw : awf s_topology_tree.args x) (hp : s_topology_tree.pre x) : vc_topology_tree x := by
  obtain ⟨n, ls, _⟩ := x
  have hl : ls.length ≤ 9223372036854775807 := hw.2.1.1
  change Int at n
  change List (Int × Int) at ls
  have hok : netOk n ls := hp
  obtain ⟨n0, n1, nb⟩ := id hok
  simp only [vc_topology_tree]
  refine ⟨⟨n0, n1⟩, ?_⟩
  rintro ⟨s0, _⟩ _ hs0
  simp only at hs0 ⊢
  subst hs0
  refine ⟨by omega, fun p => 0 ≤ p.2.1 ∧ p.2.1 ≤ (ls.length : Int) ∧ p.1 = (treeF n ls p.2.1.toNat).2.1 ∧ Says p.2.2.1 (treeF n ls p.2.1.toNat).1 ∧ p.2.2.2.1 = (treeF n ls p.2.1.toNat).2.2, fun p => ((ls.length : Int) - p.2.1).toNat, ⟨Int.le_refl _, Int.natCast_nonneg _, rfl, says_id n0, rfl⟩, ?_⟩
  rintro ⟨f, i, s, N, _⟩ _ ⟨h0, h1, h2, h3, h4⟩
  change Int at i
  change List Int at s f
  change List (List (Int × Int)) at N
  simp only at h0 h1 h2 h3 h4 ⊢
  obtain ⟨t1, t2, t3, t4⟩ := treeF_spec hok i.toNat (by omega)
  have hfl := forest_le hok (k := i.toNat) (by omega)
  have hsl : s.length = n.toNat := by rw [h3.2.1, t1, labs_len]
  refine ⟨fun hi => ?_, fun hi => ?_⟩
  · have hi := of_decide_eq_true hi
    have hin : inB n (gx ((0 : Int), (0 : Int)) ls i) := nb _ (gx_mem h0 hi)
    have hg := gx_getD (d := ((0 : Int), (0 : Int))) h0 hi
    generalize gx ((0 : Int), (0 : Int)) ls i = l at hin hg ⊢
    obtain ⟨a, b⟩ := l
    obtain ⟨a0, a1, b0, b1⟩ := hin
    simp only at a0 a1 b0 b1 ⊢
    have hin2 : inB (s.length : Int) (a, b) := by rw [hsl]; exact ⟨a0, by omega, b0, by omega⟩
    have hNl : N.length = n.toNat := by rw [h4]; exact t3
    have hrow : ∀ (M : List (List Ln)) (m j : Nat), (∀ r ∈ M, r.length ≤ m) → (M.getD j []).length ≤ m := fun M m j hM => by
      rw [List.getD_eq_getElem?_getD]
      cases hi : M[j]? with
      | none => simp
      | some r => exact hM r (List.mem_of_getElem? hi)
    have hr1 : (N.getD a.toNat []).length ≤ 32768 := by have := hrow N _ a.toNat (by rw [h4]; exact t4); omega
    have hr2 : ((N.set a.toNat (N.getD a.toNat [] ++ [(i, b)])).getD b.toNat []).length ≤ 32769 := by
      refine hrow _ 32769 b.toNat fun r hr => ?_
      rcases List.mem_or_eq_of_mem_set hr with hr | hr
      · rw [h4] at hr; have := t4 r hr; omega
      · rw [hr, List.length_append, List.length_singleton]; omega
    have hf1 : f.length ≤ 16384 := by rw [h2]; exact hfl
    refine ⟨fun p => p.1 = (treeF n ls (i.toNat + 1)).2.1 ∧ Says p.2.1 (treeF n ls (i.toNat + 1)).1 ∧ p.2.2.1 = (treeF n ls (i.toNat + 1)).2.2, ⟨⟨h0, hi⟩, ⟨h3.1, hin2, by omega⟩, ?_⟩, ?_⟩
    · rintro ⟨r, _⟩ ⟨o, _⟩ _ _ hr ⟨g1, g2, g3⟩
      simp only at hr g1 g2 g3 ⊢
      have hra : root s a = lat (treeF n ls i.toNat).1 a := h3.2.2 a a0 (by omega)
      have hrb : root s b = lat (treeF n ls i.toNat).1 b := h3.2.2 b b0 (by omega)
      have hsj := says_join h3 hin2 g1 g2 g3
      refine ⟨fun ht => ?_, fun hf => ?_⟩
      · have hne : lat (treeF n ls i.toNat).1 a ≠ lat (treeF n ls i.toNat).1 b := by
          rw [ht] at hr
          have := of_decide_eq_true hr.symm
          rw [hra, hrb] at this; exact this
        have e1 : treeF n ls (i.toNat + 1) = (joinF (treeF n ls i.toNat).1 (a, b), (treeF n ls i.toNat).2.1 ++ [((i.toNat : Nat) : Int)], adj (treeF n ls i.toNat).2.2 i.toNat (a, b)) := by
          rw [treeF]
          simp only [← hg]
          rw [if_neg hne]
        have hii : ((i.toNat : Nat) : Int) = i := by omega
        have HJ : f ++ [i] = (treeF n ls (i.toNat + 1)).2.1 ∧ Says o (treeF n ls (i.toNat + 1)).1 ∧ (N.set a.toNat (N.getD a.toNat [] ++ [(i, b)])).set b.toNat ((N.set a.toNat (N.getD a.toNat [] ++ [(i, b)])).getD b.toNat [] ++ [(i, a)]) = (treeF n ls (i.toNat + 1)).2.2 := by
          rw [e1, hii]
          exact ⟨by rw [h2], hsj, by rw [h4]; rfl⟩
        have HA : (f.length + [i].length) * 8 ≤ 140737488355328 := by rw [List.length_singleton]; omega
        have HA2 : f.length + [i].length ≤ 9223372036854775807 := by rw [List.length_singleton]; omega
        have HB : ((N.getD a.toNat []).length + [(i, b)].length) * 16 ≤ 140737488355328 := by rw [List.length_singleton]; omega
        have HB2 : (N.getD a.toNat []).length + [(i, b)].length ≤ 9223372036854775807 := by rw [List.length_singleton]; omega
        have HC : (((N.set a.toNat (N.getD a.toNat [] ++ [(i, b)])).getD b.toNat []).length + [(i, a)].length) * 16 ≤ 140737488355328 := by rw [List.length_singleton]; omega
        have HC2 : ((N.set a.toNat (N.getD a.toNat [] ++ [(i, b)])).getD b.toNat []).length + [(i, a)].length ≤ 9223372036854775807 := by rw [List.length_singleton]; omega
        have HD : a < (N.length : Int) := by omega
        have HE : b < ((N.set a.toNat (N.getD a.toNat [] ++ [(i, b)])).length : Int) := by rw [List.length_set]; omega
        have H01 : (0 : Int) ≤ 1 := by omega
        have H12 : (1 : Int) < ((2 : Nat) : Int) := by omega
        have H02 : (0 : Int) < ((2 : Nat) : Int) := by omega
        have H00 : (0 : Int) ≤ 0 := by omega
        obtain ⟨J1, J2, J3⟩ := HJ
        repeat' (refine And.intro ?_ ?_)
        all_goals first | exact HA | exact HA2 | exact HB | exact HB2 | exact HC | exact HC2 | exact HD | exact HE | exact a0 | exact b0 | exact H00 | exact H01 | exact H12 | exact H02 | exact rfl | exact trivial | exact J1 | exact J2.1 | exact J2.2.1 | exact J2.2.2 | exact J3
      · have heq : lat (treeF n ls i.toNat).1 a = lat (treeF n ls i.toNat).1 b := by
          rw [hf] at hr
          have := of_decide_eq_false hr.symm
          rw [hra, hrb] at this
          simpa using this
        have e1 : treeF n ls (i.toNat + 1) = treeF n ls i.toNat := by
          rw [treeF]
          simp only [← hg]
          rw [if_pos heq]
        rw [e1]
        refine ⟨h2, ?_, h4⟩
        rw [joinF_id heq] at hsj
        exact hsj
    · rintro ⟨f', s', N', _⟩ _ ⟨k1, k2, k3⟩
      simp only at k1 k2 k3 ⊢
      rw [wr (by omega) (by omega), show (i + 1).toNat = i.toNat + 1 from by omega]
      exact ⟨⟨by omega, by omega, k1, k2, k3⟩, by omega⟩
  · have hi := of_decide_eq_false hi
    have : i.toNat = ls.length := by omega
    rw [this] at h2 h4
    exact ⟨h2, h4⟩
end Go.Proofs.YtppgpdigopffbaaGreat
namespace Go.Proofs.YtppgpdigopffbaaGreat
open Go.Vc Go.Gw
def an_law19_has : An := { loop := [(2, ⟨[0, 1], [], [(5, false, [.val (.int .i64)])], [], []⟩)] }
def sp_law19_has : Specs := []
def vc_law19_has : dens s_law19_has.args → Prop := fun (x : List Int × Int × Unit) => ∃ (I : Int × Unit → Prop), ∃ (μ : Int × Unit → Nat), I ((0 : Int), ()) ∧ ∀ (p : Int × Unit), In64 p.fst ∧ True → I p → (decide (p.fst < (↑(List.length x.fst) : Int)) = true → ((0 : Int) ≤ p.fst ∧ p.fst < (↑(List.length x.fst) : Int)) ∧ (decide (gx (0 : Int) x.fst p.fst = x.snd.fst) = true → true = decide (x.snd.fst ∈ x.fst)) ∧ (decide (gx (0 : Int) x.fst p.fst = x.snd.fst) = false → I (IntKind.i64.wrap (p.fst + (1 : Int)), ()) ∧ μ (IntKind.i64.wrap (p.fst + (1 : Int)), ()) < μ p)) ∧ (decide (p.fst < (↑(List.length x.fst) : Int)) = false → false = decide (x.snd.fst ∈ x.fst))
theorem vc_law19_has_eq (x : dens s_law19_has.args) : semF ⟨Tryz.prog, tys⟩ sp_law19_has an_law19_has s_law19_has Tryz.f14.results.toList (Tryz.f14.body.getD .skip) x = vc_law19_has x := by kernel_rfl
theorem m_law19_has (hsp : SpOk Tryz.prog sp_law19_has) (h : ∀ x, awf s_law19_has.args x → s_law19_has.pre x → vc_law19_has x) : Meets Tryz.prog 14 s_law19_has := meets_vc (cx := ⟨Tryz.prog, tys⟩) (sp := sp_law19_has) (an := an_law19_has) (s := s_law19_has) (fn := Tryz.f14) (c := Tryz.f14.body.getD .skip) Tryz.func14 (by kernel_rfl) (Nat.le_of_ble_eq_true (by kernel_rfl)) (by kernel_rfl) tys_ok hsp vc_law19_has_eq h
end Go.Proofs.YtppgpdigopffbaaGreat
namespace Go.Proofs.YtppgpdigopffbaaGreat
open Go.Vc Go.Gw
def an_make_Mod : An := {}
def sp_make_Mod : Specs := []
def an_make_New : An := {}
def sp_make_New : Specs := []
def an_make_Tape_Next : An := { plan := [(1, [3, 7], [], true, (.p 0 (.p 1 (.p 2 (.q 3 (.p 4 (.p 5 (.p 6 (.q 7 (.p 8 (.p 9 .done))))))))))), (4, [3, 7, 10], [], true, (.p 0 (.p 1 (.p 2 (.q 3 (.p 4 (.p 5 (.p 6 (.q 7 (.p 8 (.p 9 (.q 10 (.p 11 (.e 12 (.p 13 .done)))))))))))))))] }
def sp_make_Tape_Next : Specs := [(28, s_make_Mod)]
def an_law19_network : An := { loop := [(5, ⟨[4, 5], [], [(6, false, [.own (.pair (.int .i64) (.int .i64)) 30]), (7, false, [.val (.int .i64)])], [(0, 90, [.val (.sl (.int .i64)), .val (.int .i64)])], []⟩)] }
def sp_law19_network : Specs := [(23, s_make_New), (25, s_make_Tape_Next)]
def an_help_Equal_int : An := { loop := [(4, ⟨[0, 1], [], [(5, false, [.val (.int .i64)])], [], []⟩)], plan := [(6, [3, 7], [], true, (.p 0 (.p 1 (.p 2 (.q 3 (.p 4 (.p 5 (.p 6 (.q 7 (.p 8 .done))))))))))] }
def sp_help_Equal_int : Specs := []
def an_slices_IndexFunc_Sint_int : An := { loop := [(2, ⟨[0, 1, 7], [], [(8, false, [.val (.int .i64)])], [], []⟩)] }
def sp_slices_IndexFunc_Sint_int : Specs := []
def an_slices_BinarySearch_Sint_int : An := { loop := [(3, ⟨[0, 1, 6], [], [(7, false, [.val (.int .i64)]), (8, false, [.val (.int .i64)])], [], []⟩)] }
def sp_slices_BinarySearch_Sint_int : Specs := [(62, s_cmp_Less_int), (63, s_slices_isNaN_int)]
def an_cmp_Less_int : An := {}
def sp_cmp_Less_int : Specs := [(83, s_cmp_isNaN_int)]
def an_cmp_isNaN_int : An := {}
def sp_cmp_isNaN_int : Specs := []
def an_slices_isNaN_int : An := {}
def sp_slices_isNaN_int : Specs := []
def an_topology_Bridges_2 : An := {}
def sp_topology_Bridges_2 : Specs := []
def vc_make_Mod : dens s_make_Mod.args → Prop := fun (x : Int × Int × Unit) => IntKind.u64.wrap x.snd.fst ≠ (0 : Int) ∧ ((0 : Int) < x.snd.fst → (0 : Int) ≤ IntKind.i64.wrap ((IntKind.u64.wrap x.fst).tmod (IntKind.u64.wrap x.snd.fst)) ∧ IntKind.i64.wrap ((IntKind.u64.wrap x.fst).tmod (IntKind.u64.wrap x.snd.fst)) < x.snd.fst)
theorem vc_make_Mod_eq (x : dens s_make_Mod.args) : semF ⟨Tryz.prog, tys⟩ sp_make_Mod an_make_Mod s_make_Mod Tryz.f28.results.toList (Tryz.f28.body.getD .skip) x = vc_make_Mod x := by kernel_rfl
theorem m_make_Mod (hsp : SpOk Tryz.prog sp_make_Mod) (h : ∀ x, awf s_make_Mod.args x → s_make_Mod.pre x → vc_make_Mod x) : Meets Tryz.prog 28 s_make_Mod := meets_vc (cx := ⟨Tryz.prog, tys⟩) (sp := sp_make_Mod) (an := an_make_Mod) (s := s_make_Mod) (fn := Tryz.f28) (c := Tryz.f28.body.getD .skip) Tryz.func28 (by kernel_rfl) (Nat.le_of_ble_eq_true (by kernel_rfl)) (by kernel_rfl) tys_ok hsp vc_make_Mod_eq h
def vc_make_New : dens s_make_New.args → Prop := fun (x : List Int × Unit) => (x.fst, (0 : Int)) = (x.fst, (0 : Int))
theorem vc_make_New_eq (x : dens s_make_New.args) : semF ⟨Tryz.prog, tys⟩ sp_make_New an_make_New s_make_New Tryz.f23.results.toList (Tryz.f23.body.getD .skip) x = vc_make_New x := by kernel_rfl
theorem m_make_New (hsp : SpOk Tryz.prog sp_make_New) (h : ∀ x, awf s_make_New.args x → s_make_New.pre x → vc_make_New x) : Meets Tryz.prog 23 s_make_New := meets_vc (cx := ⟨Tryz.prog, tys⟩) (sp := sp_make_New) (an := an_make_New) (s := s_make_New) (fn := Tryz.f23) (c := Tryz.f23.body.getD .skip) Tryz.func23 (by kernel_rfl) (Nat.le_of_ble_eq_true (by kernel_rfl)) (by kernel_rfl) tys_ok hsp vc_make_New_eq h
def vc_make_Tape_Next : dens s_make_Tape_Next.args → Prop := fun (x : (List Int × Int) × Int × Unit) => (decide ((↑(List.length x.fst.fst) : Int) ≤ x.fst.snd) = true → ((0 : Int) ≤ (0 : Int) ∧ (0 : Int) < x.snd.fst) ∧ x.fst.fst = x.fst.fst ∧ (0 : Int) ≤ x.fst.snd ∧ x.fst.snd ≤ (↑x.fst.fst.length : Int)) ∧ (decide ((↑(List.length x.fst.fst) : Int) ≤ x.fst.snd) = false → ((0 : Int) ≤ IntKind.i64.wrap (IntKind.i64.wrap (x.fst.snd + (1 : Int)) - (1 : Int)) ∧ IntKind.i64.wrap (IntKind.i64.wrap (x.fst.snd + (1 : Int)) - (1 : Int)) < (↑(List.length x.fst.fst) : Int)) ∧ (0 : Int) < x.snd.fst ∧ ∀ (r : Int × Unit), In64 r.fst ∧ True → ((0 : Int) < x.snd.fst → (0 : Int) ≤ r.fst ∧ r.fst < x.snd.fst) → ((0 : Int) ≤ r.fst ∧ r.fst < x.snd.fst) ∧ x.fst.fst = x.fst.fst ∧ (0 : Int) ≤ IntKind.i64.wrap (x.fst.snd + (1 : Int)) ∧ IntKind.i64.wrap (x.fst.snd + (1 : Int)) ≤ (↑x.fst.fst.length : Int))
theorem vc_make_Tape_Next_eq (x : dens s_make_Tape_Next.args) : semF ⟨Tryz.prog, tys⟩ sp_make_Tape_Next an_make_Tape_Next s_make_Tape_Next Tryz.f25.results.toList (Tryz.f25.body.getD .skip) x = vc_make_Tape_Next x := by kernel_rfl
theorem m_make_Tape_Next (hsp : SpOk Tryz.prog sp_make_Tape_Next) (h : ∀ x, awf s_make_Tape_Next.args x → s_make_Tape_Next.pre x → vc_make_Tape_Next x) : Meets Tryz.prog 25 s_make_Tape_Next := meets_vc (cx := ⟨Tryz.prog, tys⟩) (sp := sp_make_Tape_Next) (an := an_make_Tape_Next) (s := s_make_Tape_Next) (fn := Tryz.f25) (c := Tryz.f25.body.getD .skip) Tryz.func25 (by kernel_rfl) (Nat.le_of_ble_eq_true (by kernel_rfl)) (by kernel_rfl) tys_ok hsp vc_make_Tape_Next_eq h
def vc_law19_network : dens s_law19_network.args → Prop := fun (x : List Int × Unit) => True ∧ ∀ (r : (List Int × Int) × Unit), (WfI r.fst.fst ∧ In64 r.fst.snd) ∧ True → r.fst = (x.fst, (0 : Int)) → ((0 : Int) < (8 : Int) ∧ (0 : Int) ≤ r.fst.snd ∧ r.fst.snd ≤ (↑(List.length r.fst.fst) : Int)) ∧ ∀ (r_1 : Int × Unit) (o : (List Int × Int) × Unit), In64 r_1.fst ∧ True → ((Ty.int IntKind.i64).sl.pair (Ty.int IntKind.i64)).wf o.fst ∧ True → (0 : Int) ≤ r_1.fst ∧ r_1.fst < (8 : Int) → o.fst.fst = r.fst.fst ∧ (0 : Int) ≤ o.fst.snd ∧ o.fst.snd ≤ (↑(List.length r.fst.fst) : Int) → ((0 : Int) < (13 : Int) ∧ (0 : Int) ≤ o.fst.snd ∧ o.fst.snd ≤ (↑(List.length o.fst.fst) : Int)) ∧ ∀ (r : Int × Unit) (o_1 : (List Int × Int) × Unit), In64 r.fst ∧ True → ((Ty.int IntKind.i64).sl.pair (Ty.int IntKind.i64)).wf o_1.fst ∧ True → (0 : Int) ≤ r.fst ∧ r.fst < (13 : Int) → o_1.fst.fst = o.fst.fst ∧ (0 : Int) ≤ o_1.fst.snd ∧ o_1.fst.snd ≤ (↑(List.length o.fst.fst) : Int) → ∃ (I : List (Int × Int) × Int × List Int × Int × Unit → Prop), ∃ (μ : List (Int × Int) × Int × List Int × Int × Unit → Nat), I ([], r.fst, o_1.fst.fst, o_1.fst.snd, ()) ∧ ∀ (p : List (Int × Int) × Int × List Int × Int × Unit), (List.length p.fst ≤ 9223372036854775807 ∧ ∀ (x : Int × Int), x ∈ p.fst → In64 x.fst ∧ In64 x.snd) ∧ In64 p.snd.fst ∧ WfI p.snd.snd.fst ∧ In64 p.snd.snd.snd.fst ∧ True → I p → (sel (decide ((0 : Int) < p.snd.fst)) (decide ((0 : Int) < r_1.fst)) false = true → ((0 : Int) < r_1.fst ∧ (0 : Int) ≤ p.snd.snd.snd.fst ∧ p.snd.snd.snd.fst ≤ (↑(List.length p.snd.snd.fst) : Int)) ∧ ∀ (r : Int × Unit) (o : (List Int × Int) × Unit), In64 r.fst ∧ True → ((Ty.int IntKind.i64).sl.pair (Ty.int IntKind.i64)).wf o.fst ∧ True → (0 : Int) ≤ r.fst ∧ r.fst < r_1.fst → o.fst.fst = p.snd.snd.fst ∧ (0 : Int) ≤ o.fst.snd ∧ o.fst.snd ≤ (↑(List.length p.snd.snd.fst) : Int) → ((0 : Int) < r_1.fst ∧ (0 : Int) ≤ o.fst.snd ∧ o.fst.snd ≤ (↑(List.length o.fst.fst) : Int)) ∧ ∀ (r_2 : Int × Unit) (o_2 : (List Int × Int) × Unit), In64 r_2.fst ∧ True → ((Ty.int IntKind.i64).sl.pair (Ty.int IntKind.i64)).wf o_2.fst ∧ True → (0 : Int) ≤ r_2.fst ∧ r_2.fst < r_1.fst → o_2.fst.fst = o.fst.fst ∧ (0 : Int) ≤ o_2.fst.snd ∧ o_2.fst.snd ≤ (↑(List.length o.fst.fst) : Int) → ((List.length p.fst + [(r.fst, r_2.fst)].length) * (16 : Nat) ≤ (140737488355328 : Nat) ∧ List.length p.fst + [(r.fst, r_2.fst)].length ≤ 9223372036854775807) ∧ I (p.fst ++ [(r.fst, r_2.fst)], IntKind.i64.wrap (p.snd.fst - (1 : Int)), o_2.fst.fst, o_2.fst.snd, ()) ∧ μ (p.fst ++ [(r.fst, r_2.fst)], IntKind.i64.wrap (p.snd.fst - (1 : Int)), o_2.fst.fst, o_2.fst.snd, ()) < μ p) ∧ (sel (decide ((0 : Int) < p.snd.fst)) (decide ((0 : Int) < r_1.fst)) false = false → netOk r_1.fst p.fst ∧ r_1.fst ≤ (7 : Int) ∧ List.length p.fst ≤ (12 : Nat))
theorem vc_law19_network_eq (x : dens s_law19_network.args) : semF ⟨Tryz.prog, tys⟩ sp_law19_network an_law19_network s_law19_network Tryz.f7.results.toList (Tryz.f7.body.getD .skip) x = vc_law19_network x := by kernel_rfl
theorem m_law19_network (hsp : SpOk Tryz.prog sp_law19_network) (h : ∀ x, awf s_law19_network.args x → s_law19_network.pre x → vc_law19_network x) : Meets Tryz.prog 7 s_law19_network := meets_vc (cx := ⟨Tryz.prog, tys⟩) (sp := sp_law19_network) (an := an_law19_network) (s := s_law19_network) (fn := Tryz.f7) (c := Tryz.f7.body.getD .skip) Tryz.func7 (by kernel_rfl) (Nat.le_of_ble_eq_true (by kernel_rfl)) (by kernel_rfl) tys_ok hsp vc_law19_network_eq h
def vc_help_Equal_int : dens s_help_Equal_int.args → Prop := fun (x : List Int × List Int × Unit) => (decide ((↑(List.length x.fst) : Int) ≠ (↑(List.length x.snd.fst) : Int)) = true → false = decide (x.fst = x.snd.fst)) ∧ (decide ((↑(List.length x.fst) : Int) ≠ (↑(List.length x.snd.fst) : Int)) = false → ∃ (I : Int × Unit → Prop), ∃ (μ : Int × Unit → Nat), I ((0 : Int), ()) ∧ ∀ (p : Int × Unit), In64 p.fst ∧ True → I p → (decide (p.fst < (↑(List.length x.fst) : Int)) = true → ((0 : Int) ≤ p.fst ∧ p.fst < (↑(List.length x.fst) : Int)) ∧ ((0 : Int) ≤ p.fst ∧ p.fst < (↑(List.length x.snd.fst) : Int)) ∧ (decide (gx (0 : Int) x.fst p.fst ≠ gx (0 : Int) x.snd.fst p.fst) = true → false = decide (x.fst = x.snd.fst)) ∧ (decide (gx (0 : Int) x.fst p.fst ≠ gx (0 : Int) x.snd.fst p.fst) = false → I (IntKind.i64.wrap (p.fst + (1 : Int)), ()) ∧ μ (IntKind.i64.wrap (p.fst + (1 : Int)), ()) < μ p)) ∧ (decide (p.fst < (↑(List.length x.fst) : Int)) = false → true = decide (x.fst = x.snd.fst)))
theorem vc_help_Equal_int_eq (x : dens s_help_Equal_int.args) : semF ⟨Tryz.prog, tys⟩ sp_help_Equal_int an_help_Equal_int s_help_Equal_int Tryz.f12.results.toList (Tryz.f12.body.getD .skip) x = vc_help_Equal_int x := by kernel_rfl
theorem m_help_Equal_int (hsp : SpOk Tryz.prog sp_help_Equal_int) (h : ∀ x, awf s_help_Equal_int.args x → s_help_Equal_int.pre x → vc_help_Equal_int x) : Meets Tryz.prog 12 s_help_Equal_int := meets_vc (cx := ⟨Tryz.prog, tys⟩) (sp := sp_help_Equal_int) (an := an_help_Equal_int) (s := s_help_Equal_int) (fn := Tryz.f12) (c := Tryz.f12.body.getD .skip) Tryz.func12 (by kernel_rfl) (Nat.le_of_ble_eq_true (by kernel_rfl)) (by kernel_rfl) tys_ok hsp vc_help_Equal_int_eq h
def vc_slices_IndexFunc_Sint_int : dens s_slices_IndexFunc_Sint_int.args → Prop := fun (x : List Int × ((Int × Unit → Prop) × (Int × Unit → Bool)) × Unit) => ∃ (I : Int × Unit → Prop), ∃ (μ : Int × Unit → Nat), I ((0 : Int), ()) ∧ ∀ (p : Int × Unit), In64 p.fst ∧ True → I p → (decide (p.fst < (↑(List.length x.fst) : Int)) = true → ((0 : Int) ≤ p.fst ∧ p.fst < (↑(List.length x.fst) : Int)) ∧ Go.Proofs.Tryz.prog = Go.Proofs.Tryz.prog ∧ x.snd.fst.fst (gx (0 : Int) x.fst p.fst, ()) ∧ (Ty.bool.wf (x.snd.fst.snd (gx (0 : Int) x.fst p.fst, ())) → (x.snd.fst.snd (gx (0 : Int) x.fst p.fst, ()) = true → p.fst = idxF (fun (i : Int) => x.snd.fst.snd (i, ())) x.fst) ∧ (x.snd.fst.snd (gx (0 : Int) x.fst p.fst, ()) = false → I (IntKind.i64.wrap (p.fst + (1 : Int)), ()) ∧ μ (IntKind.i64.wrap (p.fst + (1 : Int)), ()) < μ p))) ∧ (decide (p.fst < (↑(List.length x.fst) : Int)) = false → (-1 : Int) = idxF (fun (i : Int) => x.snd.fst.snd (i, ())) x.fst)
theorem vc_slices_IndexFunc_Sint_int_eq (x : dens s_slices_IndexFunc_Sint_int.args) : semF ⟨Tryz.prog, tys⟩ sp_slices_IndexFunc_Sint_int an_slices_IndexFunc_Sint_int s_slices_IndexFunc_Sint_int Tryz.f64.results.toList (Tryz.f64.body.getD .skip) x = vc_slices_IndexFunc_Sint_int x := by kernel_rfl
theorem m_slices_IndexFunc_Sint_int (hsp : SpOk Tryz.prog sp_slices_IndexFunc_Sint_int) (h : ∀ x, awf s_slices_IndexFunc_Sint_int.args x → s_slices_IndexFunc_Sint_int.pre x → vc_slices_IndexFunc_Sint_int x) : Meets Tryz.prog 64 s_slices_IndexFunc_Sint_int := meets_vc (cx := ⟨Tryz.prog, tys⟩) (sp := sp_slices_IndexFunc_Sint_int) (an := an_slices_IndexFunc_Sint_int) (s := s_slices_IndexFunc_Sint_int) (fn := Tryz.f64) (c := Tryz.f64.body.getD .skip) Tryz.func64 (by kernel_rfl) (Nat.le_of_ble_eq_true (by kernel_rfl)) (by kernel_rfl) tys_ok hsp vc_slices_IndexFunc_Sint_int_eq h
def vc_slices_BinarySearch_Sint_int : dens s_slices_BinarySearch_Sint_int.args → Prop := fun (x : List Int × Int × Unit) => ∃ (I : Int × Int × Unit → Prop), ∃ (μ : Int × Int × Unit → Nat), I ((0 : Int), (↑(List.length x.fst) : Int), ()) ∧ ∀ (p : Int × Int × Unit), In64 p.fst ∧ In64 p.snd.fst ∧ True → I p → (decide (p.fst < p.snd.fst) = true → (0 : (Ty.int IntKind.u64).den) ≤ (1 : Int) ∧ ((0 : Int) ≤ IntKind.i64.wrap ((IntKind.u64.wrap (IntKind.i64.wrap (p.fst + p.snd.fst))).fdiv ((2 : Int) ^ Min.min (Int.toNat (1 : Int)) IntKind.u64.bits)) ∧ IntKind.i64.wrap ((IntKind.u64.wrap (IntKind.i64.wrap (p.fst + p.snd.fst))).fdiv ((2 : Int) ^ Min.min (Int.toNat (1 : Int)) IntKind.u64.bits)) < (↑(List.length x.fst) : Int)) ∧ True ∧ ∀ (r : Bool × Unit), True ∧ True → r.fst = decide (gx (0 : Int) x.fst (IntKind.i64.wrap ((IntKind.u64.wrap (IntKind.i64.wrap (p.fst + p.snd.fst))).fdiv ((2 : Int) ^ Min.min (Int.toNat (1 : Int)) IntKind.u64.bits))) < x.snd.fst) → (r.fst = true → I (IntKind.i64.wrap (IntKind.i64.wrap ((IntKind.u64.wrap (IntKind.i64.wrap (p.fst + p.snd.fst))).fdiv ((2 : Int) ^ Min.min (Int.toNat (1 : Int)) IntKind.u64.bits)) + (1 : Int)), p.snd.fst, ()) ∧ μ (IntKind.i64.wrap (IntKind.i64.wrap ((IntKind.u64.wrap (IntKind.i64.wrap (p.fst + p.snd.fst))).fdiv ((2 : Int) ^ Min.min (Int.toNat (1 : Int)) IntKind.u64.bits)) + (1 : Int)), p.snd.fst, ()) < μ p) ∧ (r.fst = false → I (p.fst, IntKind.i64.wrap ((IntKind.u64.wrap (IntKind.i64.wrap (p.fst + p.snd.fst))).fdiv ((2 : Int) ^ Min.min (Int.toNat (1 : Int)) IntKind.u64.bits)), ()) ∧ μ (p.fst, IntKind.i64.wrap ((IntKind.u64.wrap (IntKind.i64.wrap (p.fst + p.snd.fst))).fdiv ((2 : Int) ^ Min.min (Int.toNat (1 : Int)) IntKind.u64.bits)), ()) < μ p)) ∧ (decide (p.fst < p.snd.fst) = false → (decide (p.fst < (↑(List.length x.fst) : Int)) = true → (0 : Int) ≤ p.fst ∧ p.fst < (↑(List.length x.fst) : Int)) ∧ (decide (gx (0 : Int) x.fst p.fst = x.snd.fst) = false ∧ decide (p.fst < (↑(List.length x.fst) : Int)) = true → (0 : Int) ≤ p.fst ∧ p.fst < (↑(List.length x.fst) : Int)) ∧ (decide (gx (0 : Int) x.fst p.fst = x.snd.fst) = false ∧ decide (p.fst < (↑(List.length x.fst) : Int)) = true → True) ∧ ∀ (r : Bool × Unit), (decide (gx (0 : Int) x.fst p.fst = x.snd.fst) = false ∧ decide (p.fst < (↑(List.length x.fst) : Int)) = true → (True ∧ True) ∧ r.fst = false) → (r.fst = true ∧ decide (gx (0 : Int) x.fst p.fst = x.snd.fst) = false ∧ decide (p.fst < (↑(List.length x.fst) : Int)) = true → True) ∧ ∀ (r_1 : Bool × Unit), (r.fst = true ∧ decide (gx (0 : Int) x.fst p.fst = x.snd.fst) = false ∧ decide (p.fst < (↑(List.length x.fst) : Int)) = true → (True ∧ True) ∧ r_1.fst = false) → sel (decide (p.fst < (↑(List.length x.fst) : Int))) (sel (decide (gx (0 : Int) x.fst p.fst = x.snd.fst)) true (sel r.fst r_1.fst false)) false = decide (x.snd.fst ∈ x.fst))
theorem vc_slices_BinarySearch_Sint_int_eq (x : dens s_slices_BinarySearch_Sint_int.args) : semF ⟨Tryz.prog, tys⟩ sp_slices_BinarySearch_Sint_int an_slices_BinarySearch_Sint_int s_slices_BinarySearch_Sint_int Tryz.f38.results.toList (Tryz.f38.body.getD .skip) x = vc_slices_BinarySearch_Sint_int x := by kernel_rfl
theorem m_slices_BinarySearch_Sint_int (hsp : SpOk Tryz.prog sp_slices_BinarySearch_Sint_int) (h : ∀ x, awf s_slices_BinarySearch_Sint_int.args x → s_slices_BinarySearch_Sint_int.pre x → vc_slices_BinarySearch_Sint_int x) : Meets Tryz.prog 38 s_slices_BinarySearch_Sint_int := meets_vc (cx := ⟨Tryz.prog, tys⟩) (sp := sp_slices_BinarySearch_Sint_int) (an := an_slices_BinarySearch_Sint_int) (s := s_slices_BinarySearch_Sint_int) (fn := Tryz.f38) (c := Tryz.f38.body.getD .skip) Tryz.func38 (by kernel_rfl) (Nat.le_of_ble_eq_true (by kernel_rfl)) (by kernel_rfl) tys_ok hsp vc_slices_BinarySearch_Sint_int_eq h
def vc_cmp_Less_int : dens s_cmp_Less_int.args → Prop := fun (x : Int × Int × Unit) => True ∧ ∀ (r : Bool × Unit), True ∧ True → r.fst = false → (r.fst = true → True) ∧ ∀ (r_1 : Bool × Unit), (r.fst = true → (True ∧ True) ∧ r_1.fst = false) → sel (sel r.fst (!r_1.fst) false) true (decide (x.fst < x.snd.fst)) = decide (x.fst < x.snd.fst)
theorem vc_cmp_Less_int_eq (x : dens s_cmp_Less_int.args) : semF ⟨Tryz.prog, tys⟩ sp_cmp_Less_int an_cmp_Less_int s_cmp_Less_int Tryz.f62.results.toList (Tryz.f62.body.getD .skip) x = vc_cmp_Less_int x := by kernel_rfl
theorem m_cmp_Less_int (hsp : SpOk Tryz.prog sp_cmp_Less_int) (h : ∀ x, awf s_cmp_Less_int.args x → s_cmp_Less_int.pre x → vc_cmp_Less_int x) : Meets Tryz.prog 62 s_cmp_Less_int := meets_vc (cx := ⟨Tryz.prog, tys⟩) (sp := sp_cmp_Less_int) (an := an_cmp_Less_int) (s := s_cmp_Less_int) (fn := Tryz.f62) (c := Tryz.f62.body.getD .skip) Tryz.func62 (by kernel_rfl) (Nat.le_of_ble_eq_true (by kernel_rfl)) (by kernel_rfl) tys_ok hsp vc_cmp_Less_int_eq h
def vc_cmp_isNaN_int : dens s_cmp_isNaN_int.args → Prop := fun (x : Int × Unit) => decide (x.fst ≠ x.fst) = false
theorem vc_cmp_isNaN_int_eq (x : dens s_cmp_isNaN_int.args) : semF ⟨Tryz.prog, tys⟩ sp_cmp_isNaN_int an_cmp_isNaN_int s_cmp_isNaN_int Tryz.f83.results.toList (Tryz.f83.body.getD .skip) x = vc_cmp_isNaN_int x := by kernel_rfl
theorem m_cmp_isNaN_int (hsp : SpOk Tryz.prog sp_cmp_isNaN_int) (h : ∀ x, awf s_cmp_isNaN_int.args x → s_cmp_isNaN_int.pre x → vc_cmp_isNaN_int x) : Meets Tryz.prog 83 s_cmp_isNaN_int := meets_vc (cx := ⟨Tryz.prog, tys⟩) (sp := sp_cmp_isNaN_int) (an := an_cmp_isNaN_int) (s := s_cmp_isNaN_int) (fn := Tryz.f83) (c := Tryz.f83.body.getD .skip) Tryz.func83 (by kernel_rfl) (Nat.le_of_ble_eq_true (by kernel_rfl)) (by kernel_rfl) tys_ok hsp vc_cmp_isNaN_int_eq h
def vc_slices_isNaN_int : dens s_slices_isNaN_int.args → Prop := fun (x : Int × Unit) => decide (x.fst ≠ x.fst) = false
theorem vc_slices_isNaN_int_eq (x : dens s_slices_isNaN_int.args) : semF ⟨Tryz.prog, tys⟩ sp_slices_isNaN_int an_slices_isNaN_int s_slices_isNaN_int Tryz.f63.results.toList (Tryz.f63.body.getD .skip) x = vc_slices_isNaN_int x := by kernel_rfl
theorem m_slices_isNaN_int (hsp : SpOk Tryz.prog sp_slices_isNaN_int) (h : ∀ x, awf s_slices_isNaN_int.args x → s_slices_isNaN_int.pre x → vc_slices_isNaN_int x) : Meets Tryz.prog 63 s_slices_isNaN_int := meets_vc (cx := ⟨Tryz.prog, tys⟩) (sp := sp_slices_isNaN_int) (an := an_slices_isNaN_int) (s := s_slices_isNaN_int) (fn := Tryz.f63) (c := Tryz.f63.body.getD .skip) Tryz.func63 (by kernel_rfl) (Nat.le_of_ble_eq_true (by kernel_rfl)) (by kernel_rfl) tys_ok hsp vc_slices_isNaN_int_eq h
def vc_topology_Bridges_2 : dens s_topology_Bridges_2.args → Prop := fun (x : Int × List (Int × Bool) × Unit) => (mfind (Ty.int IntKind.i64) x.fst x.snd.fst).getD false = mB x.snd.fst x.fst
theorem vc_topology_Bridges_2_eq (x : dens s_topology_Bridges_2.args) : semF ⟨Tryz.prog, tys⟩ sp_topology_Bridges_2 an_topology_Bridges_2 s_topology_Bridges_2 Tryz.f40.results.toList (Tryz.f40.body.getD .skip) x = vc_topology_Bridges_2 x := by kernel_rfl
theorem m_topology_Bridges_2 (hsp : SpOk Tryz.prog sp_topology_Bridges_2) (h : ∀ x, awf s_topology_Bridges_2.args x → s_topology_Bridges_2.pre x → vc_topology_Bridges_2 x) : Meets Tryz.prog 40 s_topology_Bridges_2 := meets_vc (cx := ⟨Tryz.prog, tys⟩) (sp := sp_topology_Bridges_2) (an := an_topology_Bridges_2) (s := s_topology_Bridges_2) (fn := Tryz.f40) (c := Tryz.f40.body.getD .skip) Tryz.func40 (by kernel_rfl) (Nat.le_of_ble_eq_true (by kernel_rfl)) (by kernel_rfl) tys_ok hsp vc_topology_Bridges_2_eq h
end Go.Proofs.YtppgpdigopffbaaGreat
namespace Go.Proofs.YtppgpdigopffbaaGreat
open Go.Vc Go.Gw
theorem has_vc (l : List Int) (v : Int) (hl : l.length ≤ 9223372036854775807) : ∃ (I : Int × Unit → Prop), ∃ (μ : Int × Unit → Nat), I (0, ()) ∧ ∀ (p : Int × Unit), I p → (decide (p.1 < (l.length : Int)) = true → (0 ≤ p.1 ∧ p.1 < (l.length : Int)) ∧ (decide (gx 0 l p.1 = v) = true → true = decide (v ∈ l)) ∧ (decide (gx 0 l p.1 = v) = false → I (IntKind.i64.wrap (p.1 + 1), ()) ∧ μ (IntKind.i64.wrap (p.1 + 1), ()) < μ p)) ∧ (decide (p.1 < (l.length : Int)) = false → false = decide (v ∈ l)) := by
  refine ⟨fun p => 0 ≤ p.1 ∧ p.1 ≤ (l.length : Int) ∧ ∀ y ∈ l.take p.1.toNat, y ≠ v, fun p => ((l.length : Int) - p.1).toNat, ⟨Int.le_refl _, Int.natCast_nonneg _, by simp⟩, ?_⟩
  rintro ⟨i, _⟩ ⟨h0, h1, h2⟩
  simp only at h0 h1 h2 ⊢
  refine ⟨fun h => ?_, fun h => ?_⟩
  · have h := of_decide_eq_true h
    refine ⟨⟨h0, h⟩, fun he => ?_, fun he => ?_⟩
    · have he := of_decide_eq_true he
      exact (decide_eq_true (he ▸ gx_mem h0 h)).symm
    · have he := of_decide_eq_false he
      rw [wr (by omega) (by omega)]
      exact ⟨⟨by omega, by omega, before_step h0 h h2 he⟩, by omega⟩
  · have h := of_decide_eq_false h
    rw [take_all (by omega)] at h2
    exact (decide_eq_false fun hm => h2 v hm rfl).symm
theorem vc_law19_has_ok (x : dens s_law19_has.args) (hw : awf s_law19_has.args x) (_ : s_law19_has.pre x) : vc_law19_has x := by
  obtain ⟨l, v, _⟩ := x
  obtain ⟨I, μ, h0, h1⟩ := has_vc l v hw.1.1
  exact ⟨I, μ, h0, fun p _ hI => h1 p hI⟩
theorem vc_make_New_ok (x : dens s_make_New.args) (_ : awf s_make_New.args x) (_ : s_make_New.pre x) : vc_make_New x := rfl
theorem vc_topology_Bridges_2_ok (x : dens s_topology_Bridges_2.args) (_ : awf s_topology_Bridges_2.args x) (_ : s_topology_Bridges_2.pre x) : vc_topology_Bridges_2 x := rfl
theorem vc_cmp_Less_int_ok (x : dens s_cmp_Less_int.args) (_ : awf s_cmp_Less_int.args x) (_ : s_cmp_Less_int.pre x) : vc_cmp_Less_int x := by
  refine ⟨trivial, ?_⟩
  rintro ⟨r, _⟩ _ hr
  simp only at hr ⊢
  subst hr
  exact ⟨fun _ => trivial, fun _ _ => rfl⟩
theorem vc_make_Tape_Next_ok (x : dens s_make_Tape_Next.args) (hw : awf s_make_Tape_Next.args x) (hp : s_make_Tape_Next.pre x) : vc_make_Tape_Next x := by
  obtain ⟨⟨l, i⟩, n, _⟩ := x
  have hl : l.length ≤ 9223372036854775807 := hw.1.1.1
  change Int at i n
  change List Int at l
  obtain ⟨p0, p1, p2⟩ : 0 < n ∧ 0 ≤ i ∧ i ≤ (l.length : Int) := hp
  simp only [vc_make_Tape_Next]
  refine ⟨fun h => ⟨⟨by omega, p0⟩, trivial, p1, p2⟩, fun h => ?_⟩
  have h := of_decide_eq_false h
  rw [wr (a := i + 1) (by omega) (by omega), wr (a := i + 1 - 1) (by omega) (by omega)]
  refine ⟨⟨by omega, by omega⟩, p0, ?_⟩
  rintro ⟨r, _⟩ _ hr
  exact ⟨hr p0, trivial, by omega, by omega⟩
theorem vc_make_Mod_ok (x : dens s_make_Mod.args) (hw : awf s_make_Mod.args x) (hp : s_make_Mod.pre x) : vc_make_Mod x := by
  obtain ⟨a, b, _⟩ := x
  change Int at a b
  have hb : 0 < b := hp
  have h1 : inR .i64 b := hw.2.1
  unfold inR at h1
  rw [show IntKind.i64.min = -9223372036854775808 from by decide, show IntKind.i64.max = 9223372036854775807 from by decide] at h1
  simp only [vc_make_Mod]
  have e : IntKind.u64.wrap b = b := by simp [IntKind.wrap, IntKind.bits, IntKind.signed]; omega
  have h2 : 0 ≤ IntKind.u64.wrap a := by simp [IntKind.wrap, IntKind.bits, IntKind.signed]; omega
  rw [e]
  have h3 : 0 ≤ (IntKind.u64.wrap a).tmod b := Int.tmod_nonneg _ h2
  have h4 : (IntKind.u64.wrap a).tmod b < b := Int.tmod_lt_of_pos _ hb
  rw [wr (by omega) (by omega)]
  exact ⟨by omega, fun _ => ⟨h3, h4⟩⟩
end Go.Proofs.YtppgpdigopffbaaGreat
namespace Go.Proofs.YtppgpdigopffbaaGreat
open Go.Vc Go.Gw
theorem vc_cmp_isNaN_int_ok (x : dens s_cmp_isNaN_int.args) (_ : awf s_cmp_isNaN_int.args x) (_ : s_cmp_isNaN_int.pre x) : vc_cmp_isNaN_int x := by
  simp [vc_cmp_isNaN_int]
theorem vc_slices_isNaN_int_ok (x : dens s_slices_isNaN_int.args) (_ : awf s_slices_isNaN_int.args x) (_ : s_slices_isNaN_int.pre x) : vc_slices_isNaN_int x := by
  simp [vc_slices_isNaN_int]
theorem vc_help_Equal_int_ok (x : dens s_help_Equal_int.args) (hw : awf s_help_Equal_int.args x) (_ : s_help_Equal_int.pre x) : vc_help_Equal_int x := by
  obtain ⟨a, b, _⟩ := x
  have hl : a.length ≤ 9223372036854775807 := hw.1.1
  change List Int at a b
  simp only [vc_help_Equal_int]
  refine ⟨fun h => ?_, fun h => ?_⟩
  · have h := of_decide_eq_true h
    exact (decide_eq_false fun e => h (by rw [e])).symm
  · have hlen : a.length = b.length := by have := of_decide_eq_false h; omega
    refine ⟨fun p => 0 ≤ p.1 ∧ p.1 ≤ (a.length : Int) ∧ a.take p.1.toNat = b.take p.1.toNat, fun p => ((a.length : Int) - p.1).toNat, ⟨Int.le_refl _, Int.natCast_nonneg _, by simp⟩, ?_⟩
    rintro ⟨i, _⟩ _ ⟨h0, h1, h2⟩
    change Int at i
    simp only at h0 h1 h2 ⊢
    refine ⟨fun h => ?_, fun h => ?_⟩
    · have h := of_decide_eq_true h
      refine ⟨⟨h0, h⟩, ⟨h0, by omega⟩, fun he => ?_, fun he => ?_⟩
      · have he := of_decide_eq_true he
        exact (decide_eq_false fun e => he (by rw [e])).symm
      · have he : gx 0 a i = gx 0 b i := by simpa using he
        rw [wr (by omega) (by omega)]
        refine ⟨⟨by omega, by omega, ?_⟩, by omega⟩
        rw [show (i + 1).toNat = i.toNat + 1 from by omega, List.take_add_one, List.take_add_one, gx_get (d := (0 : Int)) h0 h, gx_get (d := (0 : Int)) h0 (by omega), h2, he]
    · have h := of_decide_eq_false h
      rw [take_all (by omega), take_all (by omega)] at h2
      exact (decide_eq_true h2).symm
end Go.Proofs.YtppgpdigopffbaaGreat
namespace Go.Proofs.YtppgpdigopffbaaGreat
open Go.Vc Go.Gw
theorem int_eqB (a b : Int) : eqB (.int .i64) a b = decide (a = b) := rfl
theorem mB_put (m : List (Int × Bool)) (k i : Int) (v : Bool) : mB (mput (.int .i64) k v m) i = if i = k then v else mB m i := by
  have key : ∀ l : List (Int × Bool), mfind (.int .i64) i (mput (.int .i64) k v l) = if i = k then some v else mfind (.int .i64) i l := by
    intro l
    induction l with
    | nil =>
      simp only [mput, mfind, int_eqB]
      by_cases h : i = k
      · simp [h]
      · rw [if_neg h]; simp [h]
    | cons e l ih =>
      obtain ⟨a, b⟩ := e
      simp only [mput, int_eqB]
      by_cases h : k = a
      · subst h
        simp only [decide_true, cond_true, mfind, int_eqB]
        by_cases h2 : i = k
        · simp [h2]
        · simp [h2]
      · simp only [h, decide_false, cond_false, mfind, int_eqB, ih]
        by_cases h2 : i = a
        · subst h2
          have : ¬ i = k := fun e => h e.symm
          simp [this]
        · simp [h2]
  unfold mB
  rw [key]
  split <;> rfl
end Go.Proofs.YtppgpdigopffbaaGreat
namespace Go.Proofs.YtppgpdigopffbaaGreat
open Go.Vc Go.Gw
end Go.Proofs.YtppgpdigopffbaaGreat
namespace Go.Proofs.YtppgpdigopffbaaGreat
open Go.Vc Go.Gw
theorem half {a b : Int} (a0 : 0 ≤ a) (ab : a < b) (hb : b ≤ 100000) : IntKind.i64.wrap ((IntKind.u64.wrap (IntKind.i64.wrap (a + b))).fdiv (2 ^ min (Int.toNat 1) IntKind.u64.bits)) = (a + b) / 2 := by
  rw [wr (a := a + b) (by omega) (by omega)]
  have e : IntKind.u64.wrap (a + b) = a + b := by simp [IntKind.wrap, IntKind.bits, IntKind.signed]; omega
  rw [e, show (2 : Int) ^ min (Int.toNat 1) IntKind.u64.bits = 2 from by decide, Int.fdiv_eq_ediv_of_nonneg _ (by omega), wr (by omega) (by omega)]
theorem vc_slices_BinarySearch_Sint_int_ok (x : dens s_slices_BinarySearch_Sint_int.args) (hw : awf s_slices_BinarySearch_Sint_int.args x) (hp : s_slices_BinarySearch_Sint_int.pre x) : vc_slices_BinarySearch_Sint_int x := by
  obtain ⟨l, v, _⟩ := x
  change Int at v
  change List Int at l
  obtain ⟨hs, hl⟩ : l.Pairwise (· < ·) ∧ l.length ≤ 100000 := hp
  have hmono : ∀ i j : Int, 0 ≤ i → i < j → j < (l.length : Int) → gx 0 l i < gx 0 l j := fun i j i0 ij j1 => by
    have h1 := gx_get (d := (0 : Int)) i0 (by omega : i < (l.length : Int))
    have h2 := gx_get (d := (0 : Int)) (by omega : 0 ≤ j) j1
    rw [List.getElem?_eq_getElem (by omega)] at h1 h2
    have := List.pairwise_iff_getElem.1 hs i.toNat j.toNat (by omega) (by omega) (by omega)
    rw [Option.some.inj h1, Option.some.inj h2] at this
    exact this
  simp only [vc_slices_BinarySearch_Sint_int]
  refine ⟨fun p => 0 ≤ p.1 ∧ p.1 ≤ p.2.1 ∧ p.2.1 ≤ (l.length : Int) ∧ (∀ i, 0 ≤ i → i < p.1 → gx 0 l i < v) ∧ (∀ i, p.2.1 ≤ i → i < (l.length : Int) → v ≤ gx 0 l i), fun p => (p.2.1 - p.1).toNat, ⟨Int.le_refl _, Int.natCast_nonneg _, Int.le_refl _, fun i hi hi' => by omega, fun i hi hi' => (by have hi : (l.length : Int) ≤ i := hi; omega)⟩, ?_⟩
  rintro ⟨a, b, _⟩ _ ⟨h0, h1, h2, h3, h4⟩
  change Int at a b
  simp only at h0 h1 h2 h3 h4 ⊢
  refine ⟨fun h => ?_, fun h => ?_⟩
  · have h := of_decide_eq_true h
    rw [half h0 h (by omega)]
    have c0 : a ≤ (a + b) / 2 := by omega
    have c1 : (a + b) / 2 < b := by omega
    generalize (a + b) / 2 = c at c0 c1
    refine ⟨by decide, ⟨by omega, by omega⟩, trivial, ?_⟩
    rintro ⟨r, _⟩ _ hr
    simp only at hr ⊢
    subst hr
    refine ⟨fun ht => ?_, fun hf => ?_⟩
    · have ht := of_decide_eq_true ht
      rw [wr (by omega) (by omega)]
      refine ⟨⟨by omega, by omega, h2, fun i i0 i1 => ?_, h4⟩, by omega⟩
      rcases (by omega : i < c ∨ i = c) with hc | hc
      · have := hmono i c i0 hc (by omega); omega
      · rw [hc]; exact ht
    · have hf := of_decide_eq_false hf
      refine ⟨⟨h0, c0, by omega, h3, fun i i0 i1 => ?_⟩, by omega⟩
      rcases (by omega : c < i ∨ i = c) with hc | hc
      · have := hmono c i (by omega) hc i1; omega
      · rw [hc]; omega
  · have h := of_decide_eq_false h
    have hab : a = b := by omega
    subst hab
    refine ⟨fun hh => ⟨h0, of_decide_eq_true hh⟩, fun hh => ⟨h0, of_decide_eq_true hh.2⟩, fun _ => trivial, ?_⟩
    rintro ⟨r, _⟩ hr
    refine ⟨fun _ => trivial, ?_⟩
    rintro ⟨r1, _⟩ hr1
    simp only at hr hr1 ⊢
    by_cases ha : a < (l.length : Int)
    · by_cases he : gx 0 l a = v
      · have hm : v ∈ l := he ▸ gx_mem h0 ha
        simp [ha, he, hm, sel_true]
      · have hm : ¬ v ∈ l := fun hv => by
          obtain ⟨i, i0, i1, e⟩ := mem_lat hv
          have e2 : gx 0 l i = v := by rw [gx_getD i0 i1]; exact e
          rcases (by omega : i < a ∨ i = a ∨ a < i) with hi | hi | hi
          · have := h3 i i0 hi; omega
          · rw [hi] at e2; exact he e2
          · have := h4 a (Int.le_refl _) ha
            have := hmono a i h0 hi i1
            omega
        have hrf : r = false := (hr ⟨by simp [he], by simp [ha]⟩).2
        simp [ha, he, hm, hrf, sel_true, sel_false]
    · have hm : ¬ v ∈ l := fun hv => by
        obtain ⟨i, i0, i1, e⟩ := mem_lat hv
        have e2 : gx 0 l i = v := by rw [gx_getD i0 i1]; exact e
        have := h3 i i0 (by omega)
        omega
      simp [ha, hm, sel_false]
theorem vc_slices_IndexFunc_Sint_int_ok (x : dens s_slices_IndexFunc_Sint_int.args) (hw : awf s_slices_IndexFunc_Sint_int.args x) (hp : s_slices_IndexFunc_Sint_int.pre x) : vc_slices_IndexFunc_Sint_int x := by
  obtain ⟨l, ⟨ok, φ⟩, _⟩ := x
  have hl : l.length ≤ 9223372036854775807 := hw.1.1
  change List Int at l
  have hp : ∀ i ∈ l, ok (i, ()) := hp
  simp only [vc_slices_IndexFunc_Sint_int]
  refine ⟨fun p => 0 ≤ p.1 ∧ p.1 ≤ (l.length : Int) ∧ ∀ y ∈ l.take p.1.toNat, φ (y, ()) = false, fun p => ((l.length : Int) - p.1).toNat, ⟨Int.le_refl _, Int.natCast_nonneg _, by simp⟩, ?_⟩
  rintro ⟨i, _⟩ _ ⟨h0, h1, h2⟩
  change Int at i
  simp only at h0 h1 h2 ⊢
  refine ⟨fun h => ?_, fun h => ?_⟩
  · have h := of_decide_eq_true h
    refine ⟨⟨h0, h⟩, by trivial, hp _ (gx_mem h0 h), fun _ => ⟨fun ht => ?_, fun hf => ?_⟩⟩
    · have hfi : l.findIdx? (fun i => φ (i, ())) = some i.toNat := by
        rw [List.findIdx?_eq_some_iff_getElem]
        have hg := gx_get (d := (0 : Int)) h0 h
        have hlt : i.toNat < l.length := by omega
        rw [List.getElem?_eq_getElem hlt] at hg
        refine ⟨hlt, by rw [Option.some.inj hg]; exact ht, fun j hj => ?_⟩
        have := h2 l[j] (List.mem_iff_getElem.2 ⟨j, by rw [List.length_take]; omega, by simp⟩)
        simp [this]
      unfold idxF
      rw [hfi]
      show i = ((i.toNat : Nat) : Int)
      omega
    · rw [wr (by omega) (by omega)]
      exact ⟨⟨by omega, by omega, before_step h0 h h2 hf⟩, by omega⟩
  · have h := of_decide_eq_false h
    rw [take_all (by omega)] at h2
    unfold idxF
    have : l.findIdx? (fun i => φ (i, ())) = none := by
      rw [List.findIdx?_eq_none_iff]
      exact h2
    rw [this]
theorem vc_law19_network_ok (x : dens s_law19_network.args) (hw : awf s_law19_network.args x) (hp : s_law19_network.pre x) : vc_law19_network x := by
  obtain ⟨c, _⟩ := x
  change List Int at c
  simp only [vc_law19_network]
  refine ⟨trivial, ?_⟩
  rintro ⟨⟨t, ti⟩, _⟩ _ ht
  simp only at ht ⊢
  cases ht
  refine ⟨⟨by omega, Int.le_refl _, Int.natCast_nonneg _⟩, ?_⟩
  rintro ⟨n, _⟩ ⟨⟨t1, i1⟩, _⟩ _ _ ⟨a0, a1⟩ ⟨b0, b1, b2⟩
  simp only at a0 a1 b0 b1 b2 ⊢
  subst b0
  refine ⟨⟨by omega, b1, b2⟩, ?_⟩
  rintro ⟨k, _⟩ ⟨⟨t2, i2⟩, _⟩ _ _ ⟨c0, c1⟩ ⟨d0, d1, d2⟩
  simp only at c0 c1 d0 d1 d2 ⊢
  subst d0
  change Int at n k
  refine ⟨fun p => 0 ≤ p.2.1 ∧ (p.1.length : Int) + p.2.1 ≤ 12 ∧ (∀ l ∈ p.1, inB n l) ∧ 0 ≤ p.2.2.2.1 ∧ p.2.2.2.1 ≤ (p.2.2.1.length : Int), fun p => p.2.1.toNat, ⟨c0, by simp; omega, by simp, d1, d2⟩, ?_⟩
  rintro ⟨l, j, tt, q, _⟩ _ ⟨e0, e1, e2, e3, e4⟩
  change List (Int × Int) at l
  change Int at j q
  simp only at e0 e1 e2 e3 e4 ⊢
  rw [sel_and]
  simp only [Bool.and_eq_true, decide_eq_true_eq, Bool.and_eq_false_iff, decide_eq_false_iff_not]
  refine ⟨fun h => ⟨⟨h.2, e3, e4⟩, ?_⟩, fun h => ⟨⟨a0, by omega, e2⟩, by omega, by omega⟩⟩
  rintro ⟨r, _⟩ ⟨⟨t3, i3⟩, _⟩ _ _ ⟨f0, f1⟩ ⟨g0, g1, g2⟩
  simp only at f0 f1 g0 g1 g2 ⊢
  subst g0
  refine ⟨⟨h.2, g1, g2⟩, ?_⟩
  rintro ⟨r2, _⟩ ⟨⟨t4, i4⟩, _⟩ _ _ ⟨k0, k1⟩ ⟨m0, m1, m2⟩
  simp only at k0 k1 m0 m1 m2 ⊢
  subst m0
  rw [wr (by omega) (by omega)]
  simp only [List.length_append, List.length_singleton]
  refine ⟨⟨by omega, by omega⟩, ⟨by omega, by omega, fun y hy => ?_, m1, m2⟩, by omega⟩
  rcases List.mem_append.1 hy with hy | hy
  · exact e2 y hy
  · rw [List.mem_singleton] at hy
    subst hy
    exact ⟨f0, f1, k0, k1⟩
end Go.Proofs.YtppgpdigopffbaaGreat
namespace Go.Proofs.YtppgpdigopffbaaGreat
open Go.Vc Go.Gw
def an_topology_roots : An := { join := [(22, ⟨[0, 3, 4, 6, 7, 18, 19, 53, 54, 55], [], [(2, false, [.own (.int .i64) 3])], [], [(0, .row (.pair (.int .i64) (.int .i64)) 30), (1, .row .bool 4)]⟩), (23, ⟨[0, 3, 4, 18, 19], [], [(2, false, [.own (.int .i64) 3])], [], [(0, .row (.pair (.int .i64) (.int .i64)) 30), (1, .row .bool 4)]⟩)], loop := [(15, ⟨[0, 3, 4, 6, 7, 18, 19, 53, 54], [], [(2, false, [.own (.int .i64) 3]), (55, false, [.val (.int .i64)])], [], [(0, .row (.pair (.int .i64) (.int .i64)) 30), (1, .row .bool 4)]⟩), (11, ⟨[0, 3, 4, 18, 19], [], [(2, false, [.own (.int .i64) 3]), (6, false, [.val (.int .i64)])], [], [(0, .row (.pair (.int .i64) (.int .i64)) 30), (1, .row .bool 4)]⟩), (4, ⟨[0, 3, 4, 18], [], [(2, false, [.own (.int .i64) 3]), (19, false, [.val (.int .i64)])], [], [(0, .row (.pair (.int .i64) (.int .i64)) 30), (1, .row .bool 4)]⟩)] }
def sp_topology_roots : Specs := []
def vc_topology_roots : dens s_topology_roots.args → Prop := fun (x : List (List (Int × Int)) × Unit) => ((0 : Int) ≤ (↑(List.length x.fst) : Int) ∧ (↑(List.length x.fst) : Int) ≤ (↑(List.length x.fst) : Int) ∧ (↑(16 : Nat) : Int) * (↑(List.length x.fst) : Int) ≤ (281474976710656 : Int) ∧ (↑(List.length x.fst) : Int) ≤ (9223372036854775807 : Int)) ∧ ((0 : Int) ≤ (↑(List.length x.fst) : Int) ∧ (↑(List.length x.fst) : Int) ≤ (↑(List.length x.fst) : Int) ∧ (↑(1 : Nat) : Int) * (↑(List.length x.fst) : Int) ≤ (281474976710656 : Int) ∧ (↑(List.length x.fst) : Int) ≤ (9223372036854775807 : Int)) ∧ ∃ (I : List Int × Int × List (Int × Int) × List Bool × Unit → Prop), ∃ (μ : List Int × Int × List (Int × Int) × List Bool × Unit → Nat), I ([], (0 : Int), List.replicate (↑(List.length x.fst) : Int).toNat ((0 : Int), (0 : Int)), List.replicate (↑(List.length x.fst) : Int).toNat false, ()) ∧ ∀ (p : List Int × Int × List (Int × Int) × List Bool × Unit), WfI p.fst ∧ In64 p.snd.fst ∧ (List.length p.snd.snd.fst ≤ 9223372036854775807 ∧ ∀ (x : Int × Int), x ∈ p.snd.snd.fst → In64 x.fst ∧ In64 x.snd) ∧ (List.length p.snd.snd.snd.fst ≤ 9223372036854775807 ∧ ∀ (x : Bool), x ∈ p.snd.snd.snd.fst → True) ∧ True → I p → (decide (p.snd.fst < (↑(List.length x.fst) : Int)) = true → ∃ (J : List Int × List (Int × Int) × List Bool × Unit → Prop), (((0 : Int) ≤ p.snd.fst ∧ p.snd.fst < (↑(List.length p.snd.snd.snd.fst) : Int)) ∧ (List.getD p.snd.snd.snd.fst (Int.toNat p.snd.fst) false = true → J (p.fst, p.snd.snd.fst, p.snd.snd.snd.fst, ())) ∧ (List.getD p.snd.snd.snd.fst (Int.toNat p.snd.fst) false = false → ((0 : Int) ≤ p.snd.fst ∧ p.snd.fst < (↑(List.length p.snd.snd.snd.fst) : Int)) ∧ ((0 : Int) ≤ p.snd.fst ∧ p.snd.fst < (↑(List.length p.snd.snd.fst) : Int)) ∧ ((List.length p.fst + [p.snd.fst].length) * (8 : Nat) ≤ (140737488355328 : Nat) ∧ List.length p.fst + [p.snd.fst].length ≤ 9223372036854775807) ∧ ∃ (I : List Int × Int × List (Int × Int) × List Bool × Unit → Prop), ∃ (μ : List Int × Int × List (Int × Int) × List Bool × Unit → Nat), I (p.fst ++ [p.snd.fst], (↑(List.length p.fst) : Int), List.set p.snd.snd.fst (Int.toNat p.snd.fst) ((-1 : Int), p.snd.fst), List.set p.snd.snd.snd.fst (Int.toNat p.snd.fst) true, ()) ∧ ∀ (p : List Int × Int × List (Int × Int) × List Bool × Unit), WfI p.fst ∧ In64 p.snd.fst ∧ (List.length p.snd.snd.fst ≤ 9223372036854775807 ∧ ∀ (x : Int × Int), x ∈ p.snd.snd.fst → In64 x.fst ∧ In64 x.snd) ∧ (List.length p.snd.snd.snd.fst ≤ 9223372036854775807 ∧ ∀ (x : Bool), x ∈ p.snd.snd.snd.fst → True) ∧ True → I p → (decide (p.snd.fst < (↑(List.length p.fst) : Int)) = true → ((0 : Int) ≤ p.snd.fst ∧ p.snd.fst < (↑(List.length p.fst) : Int)) ∧ ((0 : Int) ≤ List.getD p.fst (Int.toNat p.snd.fst) (0 : Int) ∧ List.getD p.fst (Int.toNat p.snd.fst) (0 : Int) < (↑(List.length x.fst) : Int)) ∧ ∃ (I_1 : List Int × Int × List (Int × Int) × List Bool × Unit → Prop), ∃ (μ_1 : List Int × Int × List (Int × Int) × List Bool × Unit → Nat), I_1 (p.fst, (0 : Int), p.snd.snd.fst, p.snd.snd.snd.fst, ()) ∧ ∀ (p_1 : List Int × Int × List (Int × Int) × List Bool × Unit), WfI p_1.fst ∧ In64 p_1.snd.fst ∧ (List.length p_1.snd.snd.fst ≤ 9223372036854775807 ∧ ∀ (x : Int × Int), x ∈ p_1.snd.snd.fst → In64 x.fst ∧ In64 x.snd) ∧ (List.length p_1.snd.snd.snd.fst ≤ 9223372036854775807 ∧ ∀ (x : Bool), x ∈ p_1.snd.snd.snd.fst → True) ∧ True → I_1 p_1 → (decide (p_1.snd.fst < (↑(gx [] x.fst (List.getD p.fst (Int.toNat p.snd.fst) (0 : Int))).length : Int)) = true → ∃ (J : List Int × List (Int × Int) × List Bool × Unit → Prop), (((0 : Int) ≤ p_1.snd.fst ∧ p_1.snd.fst < (↑(gx [] x.fst (List.getD p.fst (Int.toNat p.snd.fst) (0 : Int))).length : Int)) ∧ ((0 : Int) ≤ (1 : Int) ∧ (1 : Int) < (↑(2 : Nat) : Int)) ∧ ((0 : Int) ≤ (gx ((0 : Int), (0 : Int)) (gx [] x.fst (List.getD p.fst (Int.toNat p.snd.fst) (0 : Int))) p_1.snd.fst).snd ∧ (gx ((0 : Int), (0 : Int)) (gx [] x.fst (List.getD p.fst (Int.toNat p.snd.fst) (0 : Int))) p_1.snd.fst).snd < (↑(List.length p_1.snd.snd.snd.fst) : Int)) ∧ ((!List.getD p_1.snd.snd.snd.fst (Int.toNat (gx ((0 : Int), (0 : Int)) (gx [] x.fst (List.getD p.fst (Int.toNat p.snd.fst) (0 : Int))) p_1.snd.fst).snd) false) = true → ((0 : Int) ≤ (gx ((0 : Int), (0 : Int)) (gx [] x.fst (List.getD p.fst (Int.toNat p.snd.fst) (0 : Int))) p_1.snd.fst).snd ∧ (gx ((0 : Int), (0 : Int)) (gx [] x.fst (List.getD p.fst (Int.toNat p.snd.fst) (0 : Int))) p_1.snd.fst).snd < (↑(List.length p_1.snd.snd.snd.fst) : Int)) ∧ ((0 : Int) ≤ (0 : Int) ∧ (0 : Int) < (↑(2 : Nat) : Int)) ∧ ((0 : Int) ≤ (gx ((0 : Int), (0 : Int)) (gx [] x.fst (List.getD p.fst (Int.toNat p.snd.fst) (0 : Int))) p_1.snd.fst).snd ∧ (gx ((0 : Int), (0 : Int)) (gx [] x.fst (List.getD p.fst (Int.toNat p.snd.fst) (0 : Int))) p_1.snd.fst).snd < (↑(List.length p_1.snd.snd.fst) : Int)) ∧ ((List.length p_1.fst + [(gx ((0 : Int), (0 : Int)) (gx [] x.fst (List.getD p.fst (Int.toNat p.snd.fst) (0 : Int))) p_1.snd.fst).snd].length) * (8 : Nat) ≤ (140737488355328 : Nat) ∧ List.length p_1.fst + [(gx ((0 : Int), (0 : Int)) (gx [] x.fst (List.getD p.fst (Int.toNat p.snd.fst) (0 : Int))) p_1.snd.fst).snd].length ≤ 9223372036854775807) ∧ J (p_1.fst ++ [(gx ((0 : Int), (0 : Int)) (gx [] x.fst (List.getD p.fst (Int.toNat p.snd.fst) (0 : Int))) p_1.snd.fst).snd], List.set p_1.snd.snd.fst (Int.toNat (gx ((0 : Int), (0 : Int)) (gx [] x.fst (List.getD p.fst (Int.toNat p.snd.fst) (0 : Int))) p_1.snd.fst).snd) ((gx ((0 : Int), (0 : Int)) (gx [] x.fst (List.getD p.fst (Int.toNat p.snd.fst) (0 : Int))) p_1.snd.fst).fst, List.getD p.fst (Int.toNat p.snd.fst) (0 : Int)), List.set p_1.snd.snd.snd.fst (Int.toNat (gx ((0 : Int), (0 : Int)) (gx [] x.fst (List.getD p.fst (Int.toNat p.snd.fst) (0 : Int))) p_1.snd.fst).snd) true, ())) ∧ ((!List.getD p_1.snd.snd.snd.fst (Int.toNat (gx ((0 : Int), (0 : Int)) (gx [] x.fst (List.getD p.fst (Int.toNat p.snd.fst) (0 : Int))) p_1.snd.fst).snd) false) = false → J (p_1.fst, p_1.snd.snd.fst, p_1.snd.snd.snd.fst, ()))) ∧ ∀ (p : List Int × List (Int × Int) × List Bool × Unit), WfI p.fst ∧ (List.length p.snd.fst ≤ 9223372036854775807 ∧ ∀ (x : Int × Int), x ∈ p.snd.fst → In64 x.fst ∧ In64 x.snd) ∧ (List.length p.snd.snd.fst ≤ 9223372036854775807 ∧ ∀ (x : Bool), x ∈ p.snd.snd.fst → True) ∧ True → J p → I_1 (p.fst, IntKind.i64.wrap (p_1.snd.fst + (1 : Int)), p.snd.fst, p.snd.snd.fst, ()) ∧ μ_1 (p.fst, IntKind.i64.wrap (p_1.snd.fst + (1 : Int)), p.snd.fst, p.snd.snd.fst, ()) < μ_1 p_1) ∧ (decide (p_1.snd.fst < (↑(gx [] x.fst (List.getD p.fst (Int.toNat p.snd.fst) (0 : Int))).length : Int)) = false → I (p_1.fst, IntKind.i64.wrap (p.snd.fst + (1 : Int)), p_1.snd.snd.fst, p_1.snd.snd.snd.fst, ()) ∧ μ (p_1.fst, IntKind.i64.wrap (p.snd.fst + (1 : Int)), p_1.snd.snd.fst, p_1.snd.snd.snd.fst, ()) < μ p)) ∧ (decide (p.snd.fst < (↑(List.length p.fst) : Int)) = false → J (p.fst, p.snd.snd.fst, p.snd.snd.snd.fst, ())))) ∧ ∀ (p_1 : List Int × List (Int × Int) × List Bool × Unit), WfI p_1.fst ∧ (List.length p_1.snd.fst ≤ 9223372036854775807 ∧ ∀ (x : Int × Int), x ∈ p_1.snd.fst → In64 x.fst ∧ In64 x.snd) ∧ (List.length p_1.snd.snd.fst ≤ 9223372036854775807 ∧ ∀ (x : Bool), x ∈ p_1.snd.snd.fst → True) ∧ True → J p_1 → I (p_1.fst, IntKind.i64.wrap (p.snd.fst + (1 : Int)), p_1.snd.fst, p_1.snd.snd.fst, ()) ∧ μ (p_1.fst, IntKind.i64.wrap (p.snd.fst + (1 : Int)), p_1.snd.fst, p_1.snd.snd.fst, ()) < μ p) ∧ (decide (p.snd.fst < (↑(List.length x.fst) : Int)) = false → ∀ (n : Int) (ls : List Ln), netOk n ls → x.fst = nextT n ls → rootsP n ls p.fst p.snd.snd.fst)
theorem vc_topology_roots_eq (x : dens s_topology_roots.args) : semF ⟨Tryz.prog, tys⟩ sp_topology_roots an_topology_roots s_topology_roots Tryz.f36.results.toList (Tryz.f36.body.getD .skip) x = vc_topology_roots x := by kernel_rfl
theorem m_topology_roots (hsp : SpOk Tryz.prog sp_topology_roots) (h : ∀ x, awf s_topology_roots.args x → s_topology_roots.pre x → vc_topology_roots x) : Meets Tryz.prog 36 s_topology_roots := meets_vc (cx := ⟨Tryz.prog, tys⟩) (sp := sp_topology_roots) (an := an_topology_roots) (s := s_topology_roots) (fn := Tryz.f36) (c := Tryz.f36.body.getD .skip) Tryz.func36 (by kernel_rfl) (Nat.le_of_ble_eq_true (by kernel_rfl)) (by kernel_rfl) tys_ok hsp vc_topology_roots_eq h
end Go.Proofs.YtppgpdigopffbaaGreat
namespace Go.Proofs.YtppgpdigopffbaaGreat
open Go.Vc Go.Gw
theorem lst_get {l : List Int} {i : Int} (h0 : 0 ≤ i) (h1 : i < (l.length : Int)) : l[i.toNat]? = some (l.getD i.toNat 0) := lat_get h0 h1
theorem vc_topology_roots_ok (x : dens s_topology_roots.args) (hw : awf s_topology_roots.args x) (hp : s_topology_roots.pre x) : vc_topology_roots x := by
  obtain ⟨N, _⟩ := x
  change List (List (Int × Int)) at N
  obtain ⟨n0, ls0, hok0, hN0⟩ : ∃ n ls, netOk n ls ∧ N = nextT n ls := hp
  have hNl : N.length = n0.toNat := by rw [hN0, next_len hok0]
  have hn0 := hok0.1
  have hn1 := hok0.2.1
  have same : ∀ n ls, netOk n ls → N = nextT n ls → n = n0 := fun n ls hok e => by
    have := next_len hok
    rw [← e, hNl] at this
    have := hok.1
    omega
  simp only [vc_topology_roots]
  refine ⟨⟨by omega, by omega, by omega, by omega⟩, ⟨by omega, by omega, by omega, by omega⟩, fun p => 0 ≤ p.2.1 ∧ p.2.1 ≤ n0 ∧ (∀ b, 0 ≤ b → b < p.2.1 → b ∈ p.1) ∧ ∀ n ls, netOk n ls → N = nextT n ls → Bfs n ls p.1 p.2.2.1 p.2.2.2.1 ∧ Shut N p.1 p.1.length, fun p => (n0 - p.2.1).toNat, ⟨Int.le_refl _, by omega, fun b hb hb' => (by have hb' : b < 0 := hb'; omega), fun n ls hok e => ⟨⟨?_, ?_, by simp, fun b b0 b1 => ?_, fun k b hk => by simp at hk⟩, fun j b hj => by simp at hj⟩⟩, ?_⟩
  · have := same n ls hok e; simp; omega
  · have := same n ls hok e; simp; omega
  · simp only [List.getD_eq_getElem?_getD, List.getElem?_replicate]
    split <;> simp
  rintro ⟨order, rt, up, seen, _⟩ _ ⟨h0, h1, h2, h3⟩
  change Int at rt
  change List Int at order
  change List (Int × Int) at up
  change List Bool at seen
  simp only at h0 h1 h2 h3 ⊢
  obtain ⟨B0, S0⟩ := h3 n0 ls0 hok0 hN0
  have hsl := B0.slen
  have hul := B0.ulen
  refine ⟨fun hi => ?_, fun hi => ?_⟩
  · have hi := of_decide_eq_true hi
    refine ⟨fun p => (∀ b, 0 ≤ b → b < rt + 1 → b ∈ p.1) ∧ ∀ n ls, netOk n ls → N = nextT n ls → Bfs n ls p.1 p.2.1 p.2.2.1 ∧ Shut N p.1 p.1.length, ⟨⟨h0, by omega⟩, fun ht => ⟨?_, h3⟩, fun hf => ⟨⟨h0, by omega⟩, ⟨h0, by omega⟩, ?_, ?_⟩⟩, ?_⟩
    · intro b b0 b1
      by_cases e : b = rt
      · subst e; exact (B0.mem b b0 (by omega)).1 ht
      · exact h2 b b0 (by omega)
    · have := B0.len
      simp only [List.length_singleton]
      constructor <;> omega
    · have hnr : rt ∉ order := fun hm => by
        have := (B0.mem rt h0 (by omega)).2 hm
        rw [this] at hf; cases hf
      refine ⟨fun p => 0 ≤ p.2.1 ∧ p.2.1 ≤ (p.1.length : Int) ∧ (∀ b, 0 ≤ b → b < rt + 1 → b ∈ p.1) ∧ ∀ n ls, netOk n ls → N = nextT n ls → Bfs n ls p.1 p.2.2.1 p.2.2.2.1 ∧ Shut N p.1 p.2.1.toNat, fun p => (n0 - p.2.1).toNat, ⟨Int.natCast_nonneg _, by simp; omega, fun b b0 b1 => ?_, fun n ls hok e => ⟨?_, ?_⟩⟩, ?_⟩
      · simp only [List.mem_append, List.mem_singleton]
        by_cases e : b = rt
        · exact .inr e
        · exact .inl (h2 b b0 (by have b1 : b < rt + 1 := b1; omega))
      · have hnn := same n ls hok e
        subst hnn
        obtain ⟨B, S⟩ := h3 n ls hok e
        refine B.add h0 (by omega) hnr (.inl ⟨rfl, root_least hok (by rw [← e]; exact S) h0 (by omega) hnr h2⟩)
      · obtain ⟨B, S⟩ := h3 n ls hok e
        exact S.grow (Nat.le_refl _) rt
      rintro ⟨ord1, dn, up1, seen1, _⟩ _ ⟨g0, g1, g2, g3⟩
      change Int at dn
      change List Int at ord1
      change List (Int × Int) at up1
      change List Bool at seen1
      simp only at g0 g1 g2 g3 ⊢
      obtain ⟨B1, S1⟩ := g3 n0 ls0 hok0 hN0
      refine ⟨fun hd => ?_, fun hd => ⟨g2, fun n ls hok e => ?_⟩⟩
      · have hd := of_decide_eq_true hd
        have hget := lst_get g0 hd
        generalize hbv : ord1.getD dn.toNat 0 = b at hget ⊢
        have b0 := (B1.at' dn.toNat b hget).1
        have b1 := (B1.at' dn.toNat b hget).2.1
        have hrow : gx [] N b = (nextT n0 ls0).getD b.toNat [] := by rw [gx_getD b0 (by omega), hN0]
        have hrl := next_row hok0 (b := b)
        rw [← hrow] at hrl
        have hrw : ∀ n ls, netOk n ls → N = nextT n ls → gx [] N b = (nextT n ls).getD b.toNat [] := fun n ls hok e => by rw [gx_getD b0 (by omega), e]
        generalize gx [] N b = row at hrow hrl hrw ⊢
        refine ⟨⟨g0, hd⟩, ⟨b0, by omega⟩, fun p => 0 ≤ p.2.1 ∧ p.2.1 ≤ (row.length : Int) ∧ p.1[dn.toNat]? = some b ∧ (∀ c, 0 ≤ c → c < rt + 1 → c ∈ p.1) ∧ (∀ w ∈ row.take p.2.1.toNat, w.2 ∈ p.1) ∧ ∀ n ls, netOk n ls → N = nextT n ls → Bfs n ls p.1 p.2.2.1 p.2.2.2.1 ∧ Shut N p.1 dn.toNat, fun p => ((row.length : Int) - p.2.1).toNat, ⟨Int.le_refl _, Int.natCast_nonneg _, hget, g2, by simp, g3⟩, ?_⟩
        rintro ⟨ord2, i, up2, seen2, _⟩ _ ⟨k0, k1, k2, k3, k4, k5⟩
        change Int at i
        change List Int at ord2
        change List (Int × Int) at up2
        change List Bool at seen2
        simp only at k0 k1 k2 k3 k4 k5 ⊢
        obtain ⟨B2, S2⟩ := k5 n0 ls0 hok0 hN0
        have hsl2 := B2.slen
        have hul2 := B2.ulen
        have hdl : dn.toNat < ord2.length := (List.getElem?_eq_some_iff.1 k2).1
        refine ⟨fun hi2 => ?_, fun hi2 => ?_⟩
        · have hi2 := of_decide_eq_true hi2
          have hmem := gx_mem (d := ((0 : Int), (0 : Int))) k0 hi2
          have hbs : ∀ (q : Ln → Prop), (∀ x ∈ row.take i.toNat, q x) → q (gx ((0 : Int), (0 : Int)) row i) → ∀ x ∈ row.take (i + 1).toNat, q x := fun q h1 h2 => before_step k0 hi2 h1 h2
          generalize gx ((0 : Int), (0 : Int)) row i = w at hmem hbs ⊢
          obtain ⟨e, v⟩ := w
          have hmem0 := hmem
          rw [hrow, next_mem hok0 b0 b1] at hmem0
          obtain ⟨v0, v1, _, _⟩ := joins_in hok0 hmem0.1 hmem0.2
          simp only at v0 v1 ⊢
          refine ⟨fun p => p.1[dn.toNat]? = some b ∧ (∀ c, 0 ≤ c → c < rt + 1 → c ∈ p.1) ∧ (∀ w ∈ row.take (i + 1).toNat, w.2 ∈ p.1) ∧ ∀ n ls, netOk n ls → N = nextT n ls → Bfs n ls p.1 p.2.1 p.2.2.1 ∧ Shut N p.1 dn.toNat, ⟨⟨k0, hi2⟩, ⟨by omega, by omega⟩, ⟨v0, by omega⟩, fun hs => ⟨⟨v0, by omega⟩, ⟨by omega, by omega⟩, ⟨v0, by omega⟩, ?_, ?_⟩, fun hs => ⟨k2, k3, ?_, k5⟩⟩, ?_⟩
          · have := B2.len
            simp only [List.length_singleton]
            constructor <;> omega
          · have hs : seen2.getD v.toNat false = false := by simpa using hs
            have hnv : v ∉ ord2 := fun hm => by
              rw [(B2.mem v v0 v1).2 hm] at hs; cases hs
            refine ⟨?_, fun c c0 c1 => List.mem_append.2 (.inl (k3 c c0 c1)), hbs (fun w => w.2 ∈ ord2 ++ [v]) (fun w hw => List.mem_append.2 (.inl (k4 w hw))) (by simp), fun n ls hok e' => ?_⟩
            · rw [List.getElem?_append_left hdl]; exact k2
            · obtain ⟨B, S⟩ := k5 n ls hok e'
              have hnn := same n ls hok e'
              have hm2 := hmem
              rw [hrw n ls hok e', next_mem hok b0 (by omega)] at hm2
              exact ⟨B.add v0 (by omega) hnv (.inr ⟨hm2.1, joins_symm hm2.2, List.mem_of_getElem? k2⟩), S.grow (Nat.le_of_lt hdl) v⟩
          · have hs : seen2.getD v.toNat false = true := by simpa using hs
            exact hbs (fun w => w.2 ∈ ord2) k4 ((B2.mem v v0 v1).1 hs)
          · rintro ⟨ord3, up3, seen3, _⟩ _ ⟨m0, m1, m2, m3⟩
            simp only at m0 m1 m2 m3 ⊢
            rw [wr (by omega) (by omega)]
            exact ⟨⟨by omega, by omega, m0, m1, m2, m3⟩, by omega⟩
        · have hi2 := of_decide_eq_false hi2
          rw [take_all (by omega)] at k4
          have hl2 := B2.len
          rw [wr (by omega) (by omega)]
          refine ⟨⟨by omega, by omega, k3, fun n ls hok e => ⟨(k5 n ls hok e).1, fun j c hj hc w hw => ?_⟩⟩, by omega⟩
          by_cases hjd : j < dn.toNat
          · exact (k5 n ls hok e).2 j c hjd hc w hw
          · have : j = dn.toNat := by omega
            subst this
            rw [k2] at hc
            cases hc
            rw [e, ← hrw n ls hok e] at hw
            exact k4 w hw
      · have hd := of_decide_eq_false hd
        obtain ⟨B, S⟩ := g3 n ls hok e
        exact ⟨B, by rw [show dn.toNat = ord1.length from by omega] at S; exact S⟩
    · rintro ⟨ord3, up3, seen3, _⟩ _ ⟨m0, m1⟩
      simp only at m0 m1 ⊢
      rw [wr (by omega) (by omega)]
      exact ⟨⟨by omega, by omega, m0, m1⟩, by omega⟩
  · have hi := of_decide_eq_false hi
    intro n ls hok e
    have hnn := same n ls hok e
    exact (h3 n ls hok e).1.done fun b b0 b1 => h2 b b0 (by omega)
end Go.Proofs.YtppgpdigopffbaaGreat
namespace Go.Proofs.YtppgpdigopffbaaGreat
open Go.Vc Go.Gw
noncomputable def sp_topology_Bridges_99 : Specs := []
def an_topology_Bridges_99 : An := { loop := [(1, ⟨[1], [0, 1, 3, 4, 5, 6], [(0, false, [.val (.int .i64)])], [], [(2, .row (.int .i64) 3)]⟩)], plan := [(2, [0, 2, 3, 6, 8], [10], true, (.q 0 (.p 1 (.q 2 (.q 3 (.p 4 (.p 5 (.q 6 (.p 7 (.q 8 (.p 9 (.e 10 .done))))))))))))] }
noncomputable def sp_topology_Bridges_103 : Specs := []
def an_topology_Bridges_103 : An := { loop := [(1, ⟨[1], [0, 1, 3, 4, 5, 6], [(0, false, [.val (.int .i64)])], [], [(2, .row (.int .i64) 3)]⟩)], plan := [(2, [0, 2, 3, 6, 8], [10], true, (.q 0 (.p 1 (.q 2 (.q 3 (.p 4 (.p 5 (.q 6 (.p 7 (.q 8 (.p 9 (.e 10 .done))))))))))))] }
noncomputable def sp_topology_Bridges_134 : Specs := []
def an_topology_Bridges_134 : An := { loop := [(1, ⟨[1], [0, 1, 3, 4, 5], [(0, false, [.val (.int .i64)])], [], [(2, .row (.int .i64) 3)]⟩)], plan := [(2, [0, 2, 3, 6, 8], [10], true, (.q 0 (.p 1 (.q 2 (.q 3 (.p 4 (.p 5 (.q 6 (.p 7 (.q 8 (.p 9 (.e 10 .done))))))))))))] }
noncomputable def sp_topology_Bridges_138 : Specs := [(40, s_topology_Bridges_2), (64, s_slices_IndexFunc_Sint_int)]
def an_topology_Bridges_138 : An := { join := [(6, ⟨[0, 1, 6], [4, 5], [(5, false, [.val (.int .i64)])], [], [(0, .row (.int .i64) 3)]⟩)], loop := [(5, ⟨[0, 1], [4, 5], [(5, false, [.val (.int .i64)]), (6, false, [.val (.int .i64)])], [], [(0, .row (.int .i64) 3)]⟩)] }
def an_topology_Bridges : An := { join := [(12, ⟨[0, 1, 7, 10, 11, 43, 44, 45], [0], [], [], [(1, .row (.int .i64) 3)]⟩), (30, ⟨[7, 10, 11, 14, 16, 17, 82, 83, 84], [0, 1, 2, 3, 4, 5], [(22, false, [.val (.int .i64)]), (23, false, [.val (.int .i64)])], [], []⟩), (33, ⟨[7, 10, 11, 14, 16, 17, 82, 83, 84], [0, 1, 3, 5], [], [], [(2, .row (.int .i64) 3), (4, .map false (.int .i64) false .bool)]⟩)], loop := [(8, ⟨[0, 1, 7, 10, 11, 43, 44], [0], [(45, false, [.val (.int .i64)])], [], [(1, .row (.int .i64) 3)]⟩), (15, ⟨[1, 7, 10, 11, 14, 71], [0, 1, 3], [(72, false, [.val (.int .i64)])], [], [(2, .row (.int .i64) 3)]⟩), (27, ⟨[7, 10, 11, 14, 16, 17, 82, 83, 84], [0, 1, 3, 5], [(22, false, [.val (.int .i64)]), (23, false, [.val (.int .i64)])], [], [(2, .row (.int .i64) 3), (4, .map false (.int .i64) false .bool)]⟩), (22, ⟨[7, 10, 11, 14, 16, 17, 82, 83], [0, 1, 3, 5], [(84, false, [.val (.int .i64)])], [], [(2, .row (.int .i64) 3), (4, .map false (.int .i64) false .bool)]⟩)], plan := [(26, [2], [3, 7], false, (.p 0 (.p 1 (.q 2 (.p 4 (.p 5 (.or 3 (.e 6 (.e 7 (.p 8 (.p 9 .done)))) (.e 6 (.e 3 (.e 7 (.p 8 (.p 9 .done)))))))))))), (28, [3, 7], [], true, (.p 0 (.p 1 (.p 2 (.q 3 (.p 4 (.p 5 (.p 6 (.q 7 (.p 8 .done)))))))))), (30, [0, 5], [6], true, (.q 0 (.p 1 (.p 2 (.p 3 (.p 4 (.q 5 (.e 6 .done)))))))), (31, [0, 6], [8], true, (.q 0 (.p 1 (.p 2 (.p 3 (.p 4 (.p 5 (.q 6 (.p 7 (.e 8 .done))))))))))] }
noncomputable def sp_topology_Bridges : Specs := [(30, s_topology_check), (31, s_topology_tree), (36, s_topology_roots), (38, s_slices_BinarySearch_Sint_int), (37, inlSpec (mkInl ⟨Tryz.prog, tys⟩ [(99, sp_topology_Bridges_99, an_topology_Bridges_99), (103, sp_topology_Bridges_103, an_topology_Bridges_103), (134, sp_topology_Bridges_134, an_topology_Bridges_134)] Tryz.f37.results.toList (Tryz.f37.body.getD .skip) Tryz.f37.ntmps)), (39, inlSpec (mkInl ⟨Tryz.prog, tys⟩ [(138, sp_topology_Bridges_138, an_topology_Bridges_138)] Tryz.f39.results.toList (Tryz.f39.body.getD .skip) Tryz.f39.ntmps))]
def vc_topology_Bridges : dens s_topology_Bridges.args → Prop := fun (x : Int × List (Int × Int) × Unit) => True ∧ ∀ (r : Int × Unit), In64 r.fst ∧ True → r.fst = netE x.fst x.snd.fst → (decide (r.fst ≠ (0 : Int)) = true → (netE x.fst x.snd.fst ≠ (0 : Int) → nilL Int = [] ∧ r.fst = netE x.fst x.snd.fst) ∧ (netE x.fst x.snd.fst = (0 : Int) → nilL Int = bridgesF x.fst x.snd.fst ∧ r.fst = (0 : Int))) ∧ (decide (r.fst ≠ (0 : Int)) = false → netOk x.fst x.snd.fst ∧ ∀ (r_1 : List Int × List (List (Int × Int)) × Unit), WfI r_1.fst ∧ (List.length r_1.snd.fst ≤ 9223372036854775807 ∧ ∀ (x : List (Int × Int)), x ∈ r_1.snd.fst → x.length ≤ 9223372036854775807 ∧ ∀ (x_1 : Int × Int), x_1 ∈ x → In64 x_1.fst ∧ In64 x_1.snd) ∧ True → r_1.fst = forestF x.fst x.snd.fst ∧ r_1.snd.fst = nextT x.fst x.snd.fst → (∃ (n : Int), ∃ (ls : List Ln), netOk n ls ∧ r_1.snd.fst = nextT n ls) ∧ ∀ (r_2 : List Int × List (Int × Int) × Unit), WfI r_2.fst ∧ (List.length r_2.snd.fst ≤ 9223372036854775807 ∧ ∀ (x : Int × Int), x ∈ r_2.snd.fst → In64 x.fst ∧ In64 x.snd) ∧ True → (∀ (n : Int) (ls : List Ln), netOk n ls → r_1.snd.fst = nextT n ls → rootsP n ls r_2.fst r_2.snd.fst) → ((0 : Int) ≤ x.fst ∧ x.fst ≤ x.fst ∧ (↑(8 : Nat) : Int) * x.fst ≤ (281474976710656 : Int) ∧ x.fst ≤ (9223372036854775807 : Int)) ∧ ∃ (I : Int × List Int × Unit → Prop), ∃ (μ : Int × List Int × Unit → Nat), I ((0 : Int), List.replicate (Int.toNat x.fst) (0 : Int), ()) ∧ ∀ (p : Int × List Int × Unit), In64 p.fst ∧ WfI p.snd.fst ∧ True → I p → (decide (p.fst < (↑(List.length r_2.fst) : Int)) = true → ∃ (J : List Int × Unit → Prop), (((0 : Int) ≤ p.fst ∧ p.fst < (↑(List.length r_2.fst) : Int)) ∧ ((0 : Int) ≤ gx (0 : Int) r_2.fst p.fst ∧ gx (0 : Int) r_2.fst p.fst < (↑(List.length r_2.snd.fst) : Int)) ∧ ((0 : Int) ≤ (0 : Int) ∧ (0 : Int) < (↑(2 : Nat) : Int)) ∧ (decide ((0 : Int) ≤ (gx ((0 : Int), (0 : Int)) r_2.snd.fst (gx (0 : Int) r_2.fst p.fst)).fst) = true → ((0 : Int) ≤ gx (0 : Int) r_2.fst p.fst ∧ gx (0 : Int) r_2.fst p.fst < (↑(List.length r_2.snd.fst) : Int)) ∧ ((0 : Int) ≤ (1 : Int) ∧ (1 : Int) < (↑(2 : Nat) : Int)) ∧ ((0 : Int) ≤ (gx ((0 : Int), (0 : Int)) r_2.snd.fst (gx (0 : Int) r_2.fst p.fst)).snd ∧ (gx ((0 : Int), (0 : Int)) r_2.snd.fst (gx (0 : Int) r_2.fst p.fst)).snd < (↑(List.length p.snd.fst) : Int)) ∧ ((0 : Int) ≤ gx (0 : Int) r_2.fst p.fst ∧ gx (0 : Int) r_2.fst p.fst < (↑(List.length p.snd.fst) : Int)) ∧ J (List.set p.snd.fst (gx (0 : Int) r_2.fst p.fst).toNat (IntKind.i64.wrap (List.getD p.snd.fst (Int.toNat (gx ((0 : Int), (0 : Int)) r_2.snd.fst (gx (0 : Int) r_2.fst p.fst)).snd) (0 : Int) + (1 : Int))), ())) ∧ (decide ((0 : Int) ≤ (gx ((0 : Int), (0 : Int)) r_2.snd.fst (gx (0 : Int) r_2.fst p.fst)).fst) = false → J (p.snd.fst, ()))) ∧ ∀ (p_1 : List Int × Unit), WfI p_1.fst ∧ True → J p_1 → I (IntKind.i64.wrap (p.fst + (1 : Int)), p_1) ∧ μ (IntKind.i64.wrap (p.fst + (1 : Int)), p_1) < μ p) ∧ (decide (p.fst < (↑(List.length r_2.fst) : Int)) = false → ((0 : Int) ≤ x.fst ∧ x.fst ≤ x.fst ∧ (↑(8 : Nat) : Int) * x.fst ≤ (281474976710656 : Int) ∧ x.fst ≤ (9223372036854775807 : Int)) ∧ ∃ (I : Int × List Int × Unit → Prop), ∃ (μ : Int × List Int × Unit → Nat), I ((0 : Int), List.replicate (Int.toNat x.fst) (0 : Int), ()) ∧ ∀ (p_1 : Int × List Int × Unit), In64 p_1.fst ∧ WfI p_1.snd.fst ∧ True → I p_1 → (decide (p_1.fst < (↑(List.replicate (Int.toNat x.fst) (0 : Int)).length : Int)) = true → ((0 : Int) ≤ p_1.fst ∧ p_1.fst < (↑(List.length p_1.snd.fst) : Int)) ∧ I (IntKind.i64.wrap (p_1.fst + (1 : Int)), List.set p_1.snd.fst (Int.toNat p_1.fst) p_1.fst, ()) ∧ μ (IntKind.i64.wrap (p_1.fst + (1 : Int)), List.set p_1.snd.fst (Int.toNat p_1.fst) p_1.fst, ()) < μ p_1) ∧ (decide (p_1.fst < (↑(List.replicate (Int.toNat x.fst) (0 : Int)).length : Int)) = false → ∃ (I : Int × List Int × List (Int × Bool) × Unit → Prop), ∃ (μ : Int × List Int × List (Int × Bool) × Unit → Nat), I ((0 : Int), p_1.snd.fst, [], ()) ∧ ∀ (p_2 : Int × List Int × List (Int × Bool) × Unit), In64 p_2.fst ∧ WfI p_2.snd.fst ∧ (∀ (x : Int × Bool), x ∈ p_2.snd.snd.fst → In64 x.fst ∧ True) ∧ True → I p_2 → (decide (p_2.fst < (↑(List.length x.snd.fst) : Int)) = true → ∃ (J : List Int × List (Int × Bool) × Unit → Prop), (((0 : Int) ≤ p_2.fst ∧ p_2.fst < (↑(List.length x.snd.fst) : Int)) ∧ (List.Pairwise (fun (x1 x2 : Int) => x1 < x2) r_1.fst ∧ List.length r_1.fst ≤ (100000 : Nat)) ∧ ∀ (r_3 : Int × Bool × Unit), In64 r_3.fst ∧ True ∧ True → r_3.snd.fst = decide (p_2.fst ∈ r_1.fst) → (r_3.snd.fst = true → J (p_2.snd.fst, p_2.snd.snd.fst, ())) ∧ (r_3.snd.fst = false → ((0 : Int) ≤ (0 : Int) ∧ (0 : Int) < (↑(2 : Nat) : Int)) ∧ ((0 : Int) ≤ (1 : Int) ∧ (1 : Int) < (↑(2 : Nat) : Int)) ∧ (∃ (I : Int × List Int × Unit → Prop), ∃ (μ : Int × List Int × Unit → Nat), I ((gx ((0 : Int), (0 : Int)) x.snd.fst p_2.fst).fst, p_2.snd.fst, ()) ∧ ∀ (p_3 : Int × List Int × Unit), In64 p_3.fst ∧ WfI p_3.snd.fst ∧ True → I p_3 → ((0 : Int) ≤ p_3.fst ∧ p_3.fst < (↑(List.length p_3.snd.fst) : Int)) ∧ (decide (List.getD p_3.snd.fst (Int.toNat p_3.fst) (0 : Int) ≠ p_3.fst) = true → ((0 : Int) ≤ p_3.fst ∧ p_3.fst < (↑(List.length p_3.snd.fst) : Int)) ∧ ((0 : Int) ≤ List.getD p_3.snd.fst (Int.toNat p_3.fst) (0 : Int) ∧ List.getD p_3.snd.fst (Int.toNat p_3.fst) (0 : Int) < (↑(List.length p_3.snd.fst) : Int)) ∧ ((0 : Int) ≤ p_3.fst ∧ p_3.fst < (↑(List.length p_3.snd.fst) : Int)) ∧ ((0 : Int) ≤ p_3.fst ∧ p_3.fst < (↑(List.set p_3.snd.fst (Int.toNat p_3.fst) (List.getD p_3.snd.fst (List.getD p_3.snd.fst (Int.toNat p_3.fst) (0 : Int)).toNat (0 : Int))).length : Int)) ∧ I ((List.set p_3.snd.fst (Int.toNat p_3.fst) (List.getD p_3.snd.fst (List.getD p_3.snd.fst (Int.toNat p_3.fst) (0 : Int)).toNat (0 : Int))).getD (Int.toNat p_3.fst) (0 : Int), List.set p_3.snd.fst (Int.toNat p_3.fst) (List.getD p_3.snd.fst (List.getD p_3.snd.fst (Int.toNat p_3.fst) (0 : Int)).toNat (0 : Int)), ()) ∧ μ ((List.set p_3.snd.fst (Int.toNat p_3.fst) (List.getD p_3.snd.fst (List.getD p_3.snd.fst (Int.toNat p_3.fst) (0 : Int)).toNat (0 : Int))).getD (Int.toNat p_3.fst) (0 : Int), List.set p_3.snd.fst (Int.toNat p_3.fst) (List.getD p_3.snd.fst (List.getD p_3.snd.fst (Int.toNat p_3.fst) (0 : Int)).toNat (0 : Int)), ()) < μ p_3) ∧ (decide (List.getD p_3.snd.fst (Int.toNat p_3.fst) (0 : Int) ≠ p_3.fst) = false → ∃ (I : Int × List Int × Unit → Prop), ∃ (μ : Int × List Int × Unit → Nat), I ((gx ((0 : Int), (0 : Int)) x.snd.fst p_2.fst).snd, p_3.snd.fst, ()) ∧ ∀ (p_4 : Int × List Int × Unit), In64 p_4.fst ∧ WfI p_4.snd.fst ∧ True → I p_4 → ((0 : Int) ≤ p_4.fst ∧ p_4.fst < (↑(List.length p_4.snd.fst) : Int)) ∧ (decide (List.getD p_4.snd.fst (Int.toNat p_4.fst) (0 : Int) ≠ p_4.fst) = true → ((0 : Int) ≤ p_4.fst ∧ p_4.fst < (↑(List.length p_4.snd.fst) : Int)) ∧ ((0 : Int) ≤ List.getD p_4.snd.fst (Int.toNat p_4.fst) (0 : Int) ∧ List.getD p_4.snd.fst (Int.toNat p_4.fst) (0 : Int) < (↑(List.length p_4.snd.fst) : Int)) ∧ ((0 : Int) ≤ p_4.fst ∧ p_4.fst < (↑(List.length p_4.snd.fst) : Int)) ∧ ((0 : Int) ≤ p_4.fst ∧ p_4.fst < (↑(List.set p_4.snd.fst (Int.toNat p_4.fst) (List.getD p_4.snd.fst (List.getD p_4.snd.fst (Int.toNat p_4.fst) (0 : Int)).toNat (0 : Int))).length : Int)) ∧ I ((List.set p_4.snd.fst (Int.toNat p_4.fst) (List.getD p_4.snd.fst (List.getD p_4.snd.fst (Int.toNat p_4.fst) (0 : Int)).toNat (0 : Int))).getD (Int.toNat p_4.fst) (0 : Int), List.set p_4.snd.fst (Int.toNat p_4.fst) (List.getD p_4.snd.fst (List.getD p_4.snd.fst (Int.toNat p_4.fst) (0 : Int)).toNat (0 : Int)), ()) ∧ μ ((List.set p_4.snd.fst (Int.toNat p_4.fst) (List.getD p_4.snd.fst (List.getD p_4.snd.fst (Int.toNat p_4.fst) (0 : Int)).toNat (0 : Int))).getD (Int.toNat p_4.fst) (0 : Int), List.set p_4.snd.fst (Int.toNat p_4.fst) (List.getD p_4.snd.fst (List.getD p_4.snd.fst (Int.toNat p_4.fst) (0 : Int)).toNat (0 : Int)), ()) < μ p_4) ∧ (decide (List.getD p_4.snd.fst (Int.toNat p_4.fst) (0 : Int) ≠ p_4.fst) = false → ∃ (I : Int × Int × List Int × List (Int × Bool) × Unit → Prop), ∃ (μ : Int × Int × List Int × List (Int × Bool) × Unit → Nat), I (p_3.fst, p_4.fst, p_4.snd.fst, p_2.snd.snd.fst, ()) ∧ ∀ (p_5 : Int × Int × List Int × List (Int × Bool) × Unit), In64 p_5.fst ∧ In64 p_5.snd.fst ∧ WfI p_5.snd.snd.fst ∧ (∀ (x : Int × Bool), x ∈ p_5.snd.snd.snd.fst → In64 x.fst ∧ True) ∧ True → I p_5 → (decide (p_5.fst ≠ p_5.snd.fst) = true → ∃ (J : Int × Int × Unit → Prop), (((0 : Int) ≤ p_5.fst ∧ p_5.fst < (↑(List.length p.snd.fst) : Int)) ∧ ((0 : Int) ≤ p_5.snd.fst ∧ p_5.snd.fst < (↑(List.length p.snd.fst) : Int)) ∧ (decide (List.getD p.snd.fst (Int.toNat p_5.fst) (0 : Int) < List.getD p.snd.fst (Int.toNat p_5.snd.fst) (0 : Int)) = true → J (p_5.snd.fst, p_5.fst, ())) ∧ (decide (List.getD p.snd.fst (Int.toNat p_5.fst) (0 : Int) < List.getD p.snd.fst (Int.toNat p_5.snd.fst) (0 : Int)) = false → J (p_5.fst, p_5.snd.fst, ()))) ∧ ∀ (p_6 : Int × Int × Unit), In64 p_6.fst ∧ In64 p_6.snd.fst ∧ True → J p_6 → ((0 : Int) ≤ p_6.fst ∧ p_6.fst < (↑(List.length r_2.snd.fst) : Int)) ∧ ((0 : Int) ≤ (0 : Int) ∧ (0 : Int) < (↑(2 : Nat) : Int)) ∧ ((0 : Int) ≤ p_6.fst ∧ p_6.fst < (↑(List.length r_2.snd.fst) : Int)) ∧ ((0 : Int) ≤ (1 : Int) ∧ (1 : Int) < (↑(2 : Nat) : Int)) ∧ ((0 : Int) ≤ p_6.fst ∧ p_6.fst < (↑(List.length p_5.snd.snd.fst) : Int)) ∧ ∃ (I_1 : Int × List Int × Unit → Prop), ∃ (μ_1 : Int × List Int × Unit → Nat), I_1 (p_6.fst, List.set p_5.snd.snd.fst (Int.toNat p_6.fst) (gx ((0 : Int), (0 : Int)) r_2.snd.fst p_6.fst).snd, ()) ∧ ∀ (p_7 : Int × List Int × Unit), In64 p_7.fst ∧ WfI p_7.snd.fst ∧ True → I_1 p_7 → ((0 : Int) ≤ p_7.fst ∧ p_7.fst < (↑(List.length p_7.snd.fst) : Int)) ∧ (decide (List.getD p_7.snd.fst (Int.toNat p_7.fst) (0 : Int) ≠ p_7.fst) = true → ((0 : Int) ≤ p_7.fst ∧ p_7.fst < (↑(List.length p_7.snd.fst) : Int)) ∧ ((0 : Int) ≤ List.getD p_7.snd.fst (Int.toNat p_7.fst) (0 : Int) ∧ List.getD p_7.snd.fst (Int.toNat p_7.fst) (0 : Int) < (↑(List.length p_7.snd.fst) : Int)) ∧ ((0 : Int) ≤ p_7.fst ∧ p_7.fst < (↑(List.length p_7.snd.fst) : Int)) ∧ ((0 : Int) ≤ p_7.fst ∧ p_7.fst < (↑(List.set p_7.snd.fst (Int.toNat p_7.fst) (List.getD p_7.snd.fst (List.getD p_7.snd.fst (Int.toNat p_7.fst) (0 : Int)).toNat (0 : Int))).length : Int)) ∧ I_1 ((List.set p_7.snd.fst (Int.toNat p_7.fst) (List.getD p_7.snd.fst (List.getD p_7.snd.fst (Int.toNat p_7.fst) (0 : Int)).toNat (0 : Int))).getD (Int.toNat p_7.fst) (0 : Int), List.set p_7.snd.fst (Int.toNat p_7.fst) (List.getD p_7.snd.fst (List.getD p_7.snd.fst (Int.toNat p_7.fst) (0 : Int)).toNat (0 : Int)), ()) ∧ μ_1 ((List.set p_7.snd.fst (Int.toNat p_7.fst) (List.getD p_7.snd.fst (List.getD p_7.snd.fst (Int.toNat p_7.fst) (0 : Int)).toNat (0 : Int))).getD (Int.toNat p_7.fst) (0 : Int), List.set p_7.snd.fst (Int.toNat p_7.fst) (List.getD p_7.snd.fst (List.getD p_7.snd.fst (Int.toNat p_7.fst) (0 : Int)).toNat (0 : Int)), ()) < μ_1 p_7) ∧ (decide (List.getD p_7.snd.fst (Int.toNat p_7.fst) (0 : Int) ≠ p_7.fst) = false → I (p_7.fst, p_6.snd.fst, p_7.snd.fst, mput (Ty.int IntKind.i64) (gx ((0 : Int), (0 : Int)) r_2.snd.fst p_6.fst).fst true p_5.snd.snd.snd.fst, ()) ∧ μ (p_7.fst, p_6.snd.fst, p_7.snd.fst, mput (Ty.int IntKind.i64) (gx ((0 : Int), (0 : Int)) r_2.snd.fst p_6.fst).fst true p_5.snd.snd.snd.fst, ()) < μ p_5)) ∧ (decide (p_5.fst ≠ p_5.snd.fst) = false → J (p_5.snd.snd.fst, p_5.snd.snd.snd.fst, ()))))) ∧ ∃ (I : Int × List Int × Unit → Prop), ∃ (μ : Int × List Int × Unit → Nat), I ((gx ((0 : Int), (0 : Int)) x.snd.fst p_2.fst).fst, p_2.snd.fst, ()) ∧ ∀ (p_3 : Int × List Int × Unit), In64 p_3.fst ∧ WfI p_3.snd.fst ∧ True → I p_3 → ((0 : Int) ≤ p_3.fst ∧ p_3.fst < (↑(List.length p_3.snd.fst) : Int)) ∧ (decide (List.getD p_3.snd.fst (Int.toNat p_3.fst) (0 : Int) ≠ p_3.fst) = true → ((0 : Int) ≤ p_3.fst ∧ p_3.fst < (↑(List.length p_3.snd.fst) : Int)) ∧ ((0 : Int) ≤ List.getD p_3.snd.fst (Int.toNat p_3.fst) (0 : Int) ∧ List.getD p_3.snd.fst (Int.toNat p_3.fst) (0 : Int) < (↑(List.length p_3.snd.fst) : Int)) ∧ ((0 : Int) ≤ p_3.fst ∧ p_3.fst < (↑(List.length p_3.snd.fst) : Int)) ∧ ((0 : Int) ≤ p_3.fst ∧ p_3.fst < (↑(List.set p_3.snd.fst (Int.toNat p_3.fst) (List.getD p_3.snd.fst (List.getD p_3.snd.fst (Int.toNat p_3.fst) (0 : Int)).toNat (0 : Int))).length : Int)) ∧ I ((List.set p_3.snd.fst (Int.toNat p_3.fst) (List.getD p_3.snd.fst (List.getD p_3.snd.fst (Int.toNat p_3.fst) (0 : Int)).toNat (0 : Int))).getD (Int.toNat p_3.fst) (0 : Int), List.set p_3.snd.fst (Int.toNat p_3.fst) (List.getD p_3.snd.fst (List.getD p_3.snd.fst (Int.toNat p_3.fst) (0 : Int)).toNat (0 : Int)), ()) ∧ μ ((List.set p_3.snd.fst (Int.toNat p_3.fst) (List.getD p_3.snd.fst (List.getD p_3.snd.fst (Int.toNat p_3.fst) (0 : Int)).toNat (0 : Int))).getD (Int.toNat p_3.fst) (0 : Int), List.set p_3.snd.fst (Int.toNat p_3.fst) (List.getD p_3.snd.fst (List.getD p_3.snd.fst (Int.toNat p_3.fst) (0 : Int)).toNat (0 : Int)), ()) < μ p_3) ∧ (decide (List.getD p_3.snd.fst (Int.toNat p_3.fst) (0 : Int) ≠ p_3.fst) = false → ∃ (I : Int × List Int × Unit → Prop), ∃ (μ : Int × List Int × Unit → Nat), I ((gx ((0 : Int), (0 : Int)) x.snd.fst p_2.fst).snd, p_3.snd.fst, ()) ∧ ∀ (p_4 : Int × List Int × Unit), In64 p_4.fst ∧ WfI p_4.snd.fst ∧ True → I p_4 → ((0 : Int) ≤ p_4.fst ∧ p_4.fst < (↑(List.length p_4.snd.fst) : Int)) ∧ (decide (List.getD p_4.snd.fst (Int.toNat p_4.fst) (0 : Int) ≠ p_4.fst) = true → ((0 : Int) ≤ p_4.fst ∧ p_4.fst < (↑(List.length p_4.snd.fst) : Int)) ∧ ((0 : Int) ≤ List.getD p_4.snd.fst (Int.toNat p_4.fst) (0 : Int) ∧ List.getD p_4.snd.fst (Int.toNat p_4.fst) (0 : Int) < (↑(List.length p_4.snd.fst) : Int)) ∧ ((0 : Int) ≤ p_4.fst ∧ p_4.fst < (↑(List.length p_4.snd.fst) : Int)) ∧ ((0 : Int) ≤ p_4.fst ∧ p_4.fst < (↑(List.set p_4.snd.fst (Int.toNat p_4.fst) (List.getD p_4.snd.fst (List.getD p_4.snd.fst (Int.toNat p_4.fst) (0 : Int)).toNat (0 : Int))).length : Int)) ∧ I ((List.set p_4.snd.fst (Int.toNat p_4.fst) (List.getD p_4.snd.fst (List.getD p_4.snd.fst (Int.toNat p_4.fst) (0 : Int)).toNat (0 : Int))).getD (Int.toNat p_4.fst) (0 : Int), List.set p_4.snd.fst (Int.toNat p_4.fst) (List.getD p_4.snd.fst (List.getD p_4.snd.fst (Int.toNat p_4.fst) (0 : Int)).toNat (0 : Int)), ()) ∧ μ ((List.set p_4.snd.fst (Int.toNat p_4.fst) (List.getD p_4.snd.fst (List.getD p_4.snd.fst (Int.toNat p_4.fst) (0 : Int)).toNat (0 : Int))).getD (Int.toNat p_4.fst) (0 : Int), List.set p_4.snd.fst (Int.toNat p_4.fst) (List.getD p_4.snd.fst (List.getD p_4.snd.fst (Int.toNat p_4.fst) (0 : Int)).toNat (0 : Int)), ()) < μ p_4) ∧ (decide (List.getD p_4.snd.fst (Int.toNat p_4.fst) (0 : Int) ≠ p_4.fst) = false → ∃ (I : Int × Int × List Int × List (Int × Bool) × Unit → Prop), ∃ (μ : Int × Int × List Int × List (Int × Bool) × Unit → Nat), I (p_3.fst, p_4.fst, p_4.snd.fst, p_2.snd.snd.fst, ()) ∧ ∀ (p_5 : Int × Int × List Int × List (Int × Bool) × Unit), In64 p_5.fst ∧ In64 p_5.snd.fst ∧ WfI p_5.snd.snd.fst ∧ (∀ (x : Int × Bool), x ∈ p_5.snd.snd.snd.fst → In64 x.fst ∧ True) ∧ True → I p_5 → (decide (p_5.fst ≠ p_5.snd.fst) = true → ∃ (J : Int × Int × Unit → Prop), (((0 : Int) ≤ p_5.fst ∧ p_5.fst < (↑(List.length p.snd.fst) : Int)) ∧ ((0 : Int) ≤ p_5.snd.fst ∧ p_5.snd.fst < (↑(List.length p.snd.fst) : Int)) ∧ (decide (List.getD p.snd.fst (Int.toNat p_5.fst) (0 : Int) < List.getD p.snd.fst (Int.toNat p_5.snd.fst) (0 : Int)) = true → J (p_5.snd.fst, p_5.fst, ())) ∧ (decide (List.getD p.snd.fst (Int.toNat p_5.fst) (0 : Int) < List.getD p.snd.fst (Int.toNat p_5.snd.fst) (0 : Int)) = false → J (p_5.fst, p_5.snd.fst, ()))) ∧ ∀ (p_6 : Int × Int × Unit), In64 p_6.fst ∧ In64 p_6.snd.fst ∧ True → J p_6 → ((0 : Int) ≤ p_6.fst ∧ p_6.fst < (↑(List.length r_2.snd.fst) : Int)) ∧ ((0 : Int) ≤ (0 : Int) ∧ (0 : Int) < (↑(2 : Nat) : Int)) ∧ ((0 : Int) ≤ p_6.fst ∧ p_6.fst < (↑(List.length r_2.snd.fst) : Int)) ∧ ((0 : Int) ≤ (1 : Int) ∧ (1 : Int) < (↑(2 : Nat) : Int)) ∧ ((0 : Int) ≤ p_6.fst ∧ p_6.fst < (↑(List.length p_5.snd.snd.fst) : Int)) ∧ ∃ (I_1 : Int × List Int × Unit → Prop), ∃ (μ_1 : Int × List Int × Unit → Nat), I_1 (p_6.fst, List.set p_5.snd.snd.fst (Int.toNat p_6.fst) (gx ((0 : Int), (0 : Int)) r_2.snd.fst p_6.fst).snd, ()) ∧ ∀ (p_7 : Int × List Int × Unit), In64 p_7.fst ∧ WfI p_7.snd.fst ∧ True → I_1 p_7 → ((0 : Int) ≤ p_7.fst ∧ p_7.fst < (↑(List.length p_7.snd.fst) : Int)) ∧ (decide (List.getD p_7.snd.fst (Int.toNat p_7.fst) (0 : Int) ≠ p_7.fst) = true → ((0 : Int) ≤ p_7.fst ∧ p_7.fst < (↑(List.length p_7.snd.fst) : Int)) ∧ ((0 : Int) ≤ List.getD p_7.snd.fst (Int.toNat p_7.fst) (0 : Int) ∧ List.getD p_7.snd.fst (Int.toNat p_7.fst) (0 : Int) < (↑(List.length p_7.snd.fst) : Int)) ∧ ((0 : Int) ≤ p_7.fst ∧ p_7.fst < (↑(List.length p_7.snd.fst) : Int)) ∧ ((0 : Int) ≤ p_7.fst ∧ p_7.fst < (↑(List.set p_7.snd.fst (Int.toNat p_7.fst) (List.getD p_7.snd.fst (List.getD p_7.snd.fst (Int.toNat p_7.fst) (0 : Int)).toNat (0 : Int))).length : Int)) ∧ I_1 ((List.set p_7.snd.fst (Int.toNat p_7.fst) (List.getD p_7.snd.fst (List.getD p_7.snd.fst (Int.toNat p_7.fst) (0 : Int)).toNat (0 : Int))).getD (Int.toNat p_7.fst) (0 : Int), List.set p_7.snd.fst (Int.toNat p_7.fst) (List.getD p_7.snd.fst (List.getD p_7.snd.fst (Int.toNat p_7.fst) (0 : Int)).toNat (0 : Int)), ()) ∧ μ_1 ((List.set p_7.snd.fst (Int.toNat p_7.fst) (List.getD p_7.snd.fst (List.getD p_7.snd.fst (Int.toNat p_7.fst) (0 : Int)).toNat (0 : Int))).getD (Int.toNat p_7.fst) (0 : Int), List.set p_7.snd.fst (Int.toNat p_7.fst) (List.getD p_7.snd.fst (List.getD p_7.snd.fst (Int.toNat p_7.fst) (0 : Int)).toNat (0 : Int)), ()) < μ_1 p_7) ∧ (decide (List.getD p_7.snd.fst (Int.toNat p_7.fst) (0 : Int) ≠ p_7.fst) = false → I (p_7.fst, p_6.snd.fst, p_7.snd.fst, mput (Ty.int IntKind.i64) (gx ((0 : Int), (0 : Int)) r_2.snd.fst p_6.fst).fst true p_5.snd.snd.snd.fst, ()) ∧ μ (p_7.fst, p_6.snd.fst, p_7.snd.fst, mput (Ty.int IntKind.i64) (gx ((0 : Int), (0 : Int)) r_2.snd.fst p_6.fst).fst true p_5.snd.snd.snd.fst, ()) < μ p_5)) ∧ (decide (p_5.fst ≠ p_5.snd.fst) = false → J (p_5.snd.snd.fst, p_5.snd.snd.snd.fst, ())))))) ∧ ∀ (p : List Int × List (Int × Bool) × Unit), WfI p.fst ∧ (∀ (x : Int × Bool), x ∈ p.snd.fst → In64 x.fst ∧ True) ∧ True → J p → I (IntKind.i64.wrap (p_2.fst + (1 : Int)), p.fst, p.snd.fst, ()) ∧ μ (IntKind.i64.wrap (p_2.fst + (1 : Int)), p.fst, p.snd.fst, ()) < μ p_2) ∧ (decide (p_2.fst < (↑(List.length x.snd.fst) : Int)) = false → ∃ (ok : Int × Unit → Prop), ∃ (φ : Int × Unit → Bool), (∀ (y : Int × Unit), (Ty.int IntKind.i64).wf y.fst ∧ True → ok y → True ∧ ∀ (z : Bool × Unit), True ∧ True → z.fst = mB p_2.snd.snd.fst y.fst → false = false ∧ z.fst = φ y) ∧ (∀ (i : Int), i ∈ r_1.fst → (ok, φ).fst (i, ())) ∧ ∀ (r_3 : Int × Unit), In64 r_3.fst ∧ True → r_3.fst = idxF (fun (i : Int) => (ok, φ).snd (i, ())) r_1.fst → (decide (r_3.fst = (-1 : Int)) = true → (netE x.fst x.snd.fst ≠ (0 : Int) → r_1.fst = [] ∧ (0 : Int) = netE x.fst x.snd.fst) ∧ (netE x.fst x.snd.fst = (0 : Int) → r_1.fst = bridgesF x.fst x.snd.fst ∧ (0 : Int) = (0 : Int))) ∧ (decide (r_3.fst = (-1 : Int)) = false → ∃ (I : Int × Int × List Int × Unit → Prop), ∃ (μ : Int × Int × List Int × Unit → Nat), I (r_3.fst, IntKind.i64.wrap (r_3.fst + (1 : Int)), r_1.fst, ()) ∧ ∀ (p_3 : Int × Int × List Int × Unit), In64 p_3.fst ∧ In64 p_3.snd.fst ∧ WfI p_3.snd.snd.fst ∧ True → I p_3 → (decide (p_3.snd.fst < (↑(List.length p_3.snd.snd.fst) : Int)) = true → ∃ (J : Int × List Int × Unit → Prop), (((0 : Int) ≤ p_3.snd.fst ∧ p_3.snd.fst < (↑(List.length p_3.snd.snd.fst) : Int)) ∧ True ∧ ∀ (r : Bool × Unit), True ∧ True → r.fst = mB p_2.snd.snd.fst (List.getD p_3.snd.snd.fst (Int.toNat p_3.snd.fst) (0 : Int)) → ((!r.fst) = true → ((0 : Int) ≤ p_3.fst ∧ p_3.fst < (↑(List.length p_3.snd.snd.fst) : Int)) ∧ J (IntKind.i64.wrap (p_3.fst + (1 : Int)), List.set p_3.snd.snd.fst (Int.toNat p_3.fst) (List.getD p_3.snd.snd.fst (Int.toNat p_3.snd.fst) (0 : Int)), ())) ∧ ((!r.fst) = false → J (p_3.fst, p_3.snd.snd.fst, ()))) ∧ ∀ (p : Int × List Int × Unit), In64 p.fst ∧ WfI p.snd.fst ∧ True → J p → I (p.fst, IntKind.i64.wrap (p_3.snd.fst + (1 : Int)), p.snd.fst, ()) ∧ μ (p.fst, IntKind.i64.wrap (p_3.snd.fst + (1 : Int)), p.snd.fst, ()) < μ p_3) ∧ (decide (p_3.snd.fst < (↑(List.length p_3.snd.snd.fst) : Int)) = false → ((0 : Int) ≤ p_3.fst ∧ p_3.fst ≤ (↑(List.length p_3.snd.snd.fst) : Int) ∧ (↑(List.length p_3.snd.snd.fst) : Int) ≤ (↑(List.length p_3.snd.snd.fst) : Int)) ∧ ((0 : Int) ≤ (0 : Int) ∧ (0 : Int) ≤ p_3.fst ∧ p_3.fst ≤ (↑(clearL (0 : Int) (Int.toNat p_3.fst) (↑(List.length p_3.snd.snd.fst) : Int).toNat p_3.snd.snd.fst).length : Int)) ∧ (netE x.fst x.snd.fst ≠ (0 : Int) → List.drop (Int.toNat (0 : Int)) (List.take (Int.toNat p_3.fst) (clearL (0 : Int) (Int.toNat p_3.fst) (↑(List.length p_3.snd.snd.fst) : Int).toNat p_3.snd.snd.fst)) = [] ∧ (0 : Int) = netE x.fst x.snd.fst) ∧ (netE x.fst x.snd.fst = (0 : Int) → List.drop (Int.toNat (0 : Int)) (List.take (Int.toNat p_3.fst) (clearL (0 : Int) (Int.toNat p_3.fst) (↑(List.length p_3.snd.snd.fst) : Int).toNat p_3.snd.snd.fst)) = bridgesF x.fst x.snd.fst ∧ (0 : Int) = (0 : Int))))))))
theorem vc_topology_Bridges_eq (x : dens s_topology_Bridges.args) : semF ⟨Tryz.prog, tys⟩ sp_topology_Bridges an_topology_Bridges s_topology_Bridges Tryz.f11.results.toList (Tryz.f11.body.getD .skip) x = vc_topology_Bridges x := by kernel_rfl
theorem m_topology_Bridges (hsp : SpOk Tryz.prog sp_topology_Bridges) (h : ∀ x, awf s_topology_Bridges.args x → s_topology_Bridges.pre x → vc_topology_Bridges x) : Meets Tryz.prog 11 s_topology_Bridges := meets_vc (cx := ⟨Tryz.prog, tys⟩) (sp := sp_topology_Bridges) (an := an_topology_Bridges) (s := s_topology_Bridges) (fn := Tryz.f11) (c := Tryz.f11.body.getD .skip) Tryz.func11 (by kernel_rfl) (Nat.le_of_ble_eq_true (by kernel_rfl)) (by kernel_rfl) tys_ok hsp vc_topology_Bridges_eq h
end Go.Proofs.YtppgpdigopffbaaGreat
namespace Go.Proofs.YtppgpdigopffbaaGreat
open Go.Vc Go.Gw
theorem find_vc {n : Int} {up : List Ln} {dep top0 : List Int} {b0 : Int} (h : Tops n up dep top0) (hd0 : ∀ v, 0 ≤ v → v < n → 0 ≤ lat dep v) (b00 : 0 ≤ b0) (b01 : b0 < n) {W K : Int × List Int × Unit → Prop}
    (hK : ∀ c top, Tops n up dep top → (∀ v, 0 ≤ v → v < n → (Mv top v ↔ Mv top0 v)) → 0 ≤ c → c < n → ¬ Mv top c → (∀ f, Con n up (Mv top0) f → f c = f b0) → K (c, top, ())) :
    ∃ (I : Int × List Int × Unit → Prop), ∃ (μ : Int × List Int × Unit → Nat), I (b0, top0, ()) ∧ ∀ (p : Int × List Int × Unit), W p → I p → (0 ≤ p.1 ∧ p.1 < (p.2.1.length : Int)) ∧
      (decide (p.2.1.getD p.1.toNat 0 ≠ p.1) = true → (0 ≤ p.1 ∧ p.1 < (p.2.1.length : Int)) ∧ (0 ≤ p.2.1.getD p.1.toNat 0 ∧ p.2.1.getD p.1.toNat 0 < (p.2.1.length : Int)) ∧ (0 ≤ p.1 ∧ p.1 < (p.2.1.length : Int)) ∧
        (0 ≤ p.1 ∧ p.1 < ((p.2.1.set p.1.toNat (p.2.1.getD (p.2.1.getD p.1.toNat 0).toNat 0)).length : Int)) ∧
        I ((p.2.1.set p.1.toNat (p.2.1.getD (p.2.1.getD p.1.toNat 0).toNat 0)).getD p.1.toNat 0, p.2.1.set p.1.toNat (p.2.1.getD (p.2.1.getD p.1.toNat 0).toNat 0), ()) ∧
        μ ((p.2.1.set p.1.toNat (p.2.1.getD (p.2.1.getD p.1.toNat 0).toNat 0)).getD p.1.toNat 0, p.2.1.set p.1.toNat (p.2.1.getD (p.2.1.getD p.1.toNat 0).toNat 0), ()) < μ p) ∧
      (decide (p.2.1.getD p.1.toNat 0 ≠ p.1) = false → K p) := by
  refine ⟨fun p => Tops n up dep p.2.1 ∧ (∀ v, 0 ≤ v → v < n → (Mv p.2.1 v ↔ Mv top0 v)) ∧ 0 ≤ p.1 ∧ p.1 < n ∧ ∀ f, Con n up (Mv top0) f → f p.1 = f b0, fun p => (lat dep p.1).toNat, ⟨h, fun _ _ _ => Iff.rfl, b00, b01, fun _ _ => rfl⟩, ?_⟩
  rintro ⟨c, t, _⟩ _ ⟨h1, h2, h3, h4, h5⟩
  simp only at h1 h2 h3 h4 h5 ⊢
  have hl := h1.len
  have e1 : t.getD c.toNat 0 = lat t c := rfl
  have e2 : t.getD (lat t c).toNat 0 = lat t (lat t c) := rfl
  rw [e1, e2]
  have hk : c.toNat < t.length := by omega
  have e3 : (t.set c.toNat (lat t (lat t c))).getD c.toNat 0 = lat t (lat t c) := by
    have := lat_set (v := lat t (lat t c)) (i := c) hk
    rw [if_pos rfl] at this
    exact this
  rw [e3, List.length_set]
  obtain ⟨r0, r1⟩ := h1.rng c h3 h4
  obtain ⟨s0, s1⟩ := h1.rng _ r0 r1
  refine ⟨⟨h3, by omega⟩, fun hm => ?_, fun hm => ?_⟩
  · have hm' : lat t c ≠ c := of_decide_eq_true hm
    have hm : Mv t c := hm'
    obtain ⟨g1, g2⟩ := h1.halve h3 h4 hm
    have d1 := (h1.dec c h3 h4 hm).2
    have d2 : lat dep (lat t (lat t c)) ≤ lat dep (lat t c) := by
      by_cases hm2 : Mv t (lat t c)
      · have := (h1.dec _ r0 r1 hm2).2; omega
      · unfold Mv at hm2
        rw [show lat t (lat t c) = lat t c from Decidable.not_not.1 hm2]; exact Int.le_refl _
    have d3 := hd0 _ s0 s1
    refine ⟨⟨h3, by omega⟩, ⟨r0, by omega⟩, ⟨h3, by omega⟩, ⟨h3, by omega⟩, ⟨g1, fun v v0 v1 => (g2 v v0 v1).trans (h2 v v0 v1), s0, s1, fun f hf => ?_⟩, by omega⟩
    have hf' : Con n up (Mv t) f := hf.sub fun v v0 v1 hv => (h2 v v0 v1).1 hv
    rw [h1.con f hf' _ r0 r1, h1.con f hf' c h3 h4]
    exact h5 f hf
  · have hm' : ¬ lat t c ≠ c := of_decide_eq_false hm
    have hm : ¬ Mv t c := hm'
    exact hK c t h1 h2 h3 h4 hm h5
theorem delete_take {F : List Int} {keep : Int → Bool} {s : List Int} {i j : Nat} (hl : s.length = F.length) (hij : i < j) (hj : j ≤ F.length) (h1 : s.take i = (F.take j).filter keep) (h2 : ∀ k, j ≤ k → s[k]? = F[k]?) (hjl : j < F.length) :
    (keep (s.getD j 0) = true → (s.set i (s.getD j 0)).take (i + 1) = (F.take (j + 1)).filter keep) ∧ (keep (s.getD j 0) = false → s.take i = (F.take (j + 1)).filter keep) ∧ ∀ k, j + 1 ≤ k → (s.set i (s.getD j 0))[k]? = F[k]? := by
  have hg : s.getD j 0 = F[j] := by rw [List.getD_eq_getElem?_getD, h2 j (Nat.le_refl _), List.getElem?_eq_getElem hjl]; rfl
  have ht : F.take (j + 1) = F.take j ++ [F[j]] := by rw [List.take_add_one, List.getElem?_eq_getElem hjl]; rfl
  refine ⟨fun hk => ?_, fun hk => ?_, fun k hk => ?_⟩
  · rw [ht, List.filter_append, ← h1, List.filter_cons_of_pos (by rw [← hg]; exact hk), List.filter_nil, ← hg, List.take_add_one, List.getElem?_set, if_pos rfl, if_pos (by omega), List.take_set_of_le (Nat.le_refl _)]
    rfl
  · rw [ht, List.filter_append, ← h1, List.filter_cons_of_neg (by rw [← hg, hk]; simp), List.filter_nil, List.append_nil]
  · rw [List.getElem?_set, if_neg (by omega)]; exact h2 k (by omega)
theorem vc_topology_Bridges_ok (x : dens s_topology_Bridges.args) (hw : awf s_topology_Bridges.args x) (hp : s_topology_Bridges.pre x) : vc_topology_Bridges x := by
  obtain ⟨n, ls, _⟩ := x
  change Int at n
  change List (Int × Int) at ls
  have hl : ls.length ≤ 100000 := hp
  simp only [vc_topology_Bridges]
  refine ⟨trivial, ?_⟩
  rintro ⟨e, _⟩ _ he
  simp only at he ⊢
  subst he
  refine ⟨fun h => ?_, fun h => ?_⟩
  · have h := of_decide_eq_true h
    exact ⟨fun _ => ⟨by trivial, by trivial⟩, fun h' => absurd h' h⟩
  have h : netE n ls = 0 := by simpa using h
  have hok := netE_ok.1 h
  obtain ⟨n0, n1, nb⟩ := id hok
  refine ⟨hok, ?_⟩
  rintro ⟨F, N, _⟩ _ ⟨hF, hN⟩
  simp only at hF hN ⊢
  subst hF hN
  have hfl : (forestF n ls).length ≤ 16384 := forest_le hok (k := ls.length) (Nat.le_refl _)
  refine ⟨⟨n, ls, hok, rfl⟩, ?_⟩
  rintro ⟨ord, up, _⟩ _ hR
  simp only at hR ⊢
  have hR := hR n ls hok rfl
  have hol := hR.len
  have hul := hR.ulen
  change List Int at ord
  change List (Int × Int) at up
  refine ⟨⟨n0, Int.le_refl _, by omega, by omega⟩, fun p => 0 ≤ p.1 ∧ p.1 ≤ (ord.length : Int) ∧ p.2.1.length = n.toNat ∧ ∀ (j : Nat) (b : Int), ord[j]? = some b → (p.1 ≤ (j : Int) → lat p.2.1 b = 0) ∧ ((j : Int) < p.1 → 0 ≤ lat p.2.1 b ∧ lat p.2.1 b ≤ j ∧ ((upA up b).1 < 0 → lat p.2.1 b = 0) ∧ (0 ≤ (upA up b).1 → lat p.2.1 b = lat p.2.1 (upA up b).2 + 1)), fun p => ((ord.length : Int) - p.1).toNat, ⟨Int.le_refl _, Int.natCast_nonneg _, by simp, fun j b hb => ⟨fun _ => ?_, fun hh => (by have hh : (j : Int) < 0 := hh; omega)⟩⟩, ?_⟩
  · unfold lat
    simp only [List.getD_eq_getElem?_getD, List.getElem?_replicate]
    split <;> rfl
  rintro ⟨k, dep, _⟩ _ ⟨h0, h1, h2, h3⟩
  change Int at k
  change List Int at dep
  simp only at h0 h1 h2 h3 ⊢
  refine ⟨fun hk => ?_, fun hk => ?_⟩
  · have hk := of_decide_eq_true hk
    have hget : ord[k.toNat]? = some (gx 0 ord k) := gx_get h0 hk
    generalize gx 0 ord k = b at hget ⊢
    have hat := hR.at' k.toNat b hget
    have b0 : 0 ≤ b := hat.1
    have b1 : b < n := hat.2.1
    have hup : gx ((0 : Int), (0 : Int)) up b = upA up b := gx_getD b0 (by omega)
    rw [hup]
    have huniq : ∀ (j : Nat) (c : Int), ord[j]? = some c → c = b → j = k.toNat := fun j c hc e => by
      subst e
      exact (List.getElem?_inj (List.getElem?_eq_some_iff.1 hc).1 hR.nod).1 (hc.trans hget.symm)
    refine ⟨fun p => p.1.length = n.toNat ∧ ∀ (j : Nat) (b : Int), ord[j]? = some b → (k + 1 ≤ (j : Int) → lat p.1 b = 0) ∧ ((j : Int) < k + 1 → 0 ≤ lat p.1 b ∧ lat p.1 b ≤ j ∧ ((upA up b).1 < 0 → lat p.1 b = 0) ∧ (0 ≤ (upA up b).1 → lat p.1 b = lat p.1 (upA up b).2 + 1)), ⟨⟨h0, hk⟩, ⟨b0, by omega⟩, ⟨by omega, by omega⟩, fun hr => ?_, fun hr => ?_⟩, ?_⟩
    · have hr := of_decide_eq_true hr
      rcases hat.2.2 with ⟨q1, _⟩ | ⟨q1, q2, j, hj, hjb⟩
      · rw [q1] at hr; simp at hr
      · obtain ⟨c0, c1, _⟩ := joins_in hok q1 q2
        have hj' := (h3 j _ hjb).2 (by omega)
        have hcb : (upA up b).2 ≠ b := fun e => by have := huniq j _ hjb e; omega
        have e1 : dep.getD (upA up b).2.toNat 0 = lat dep (upA up b).2 := rfl
        rw [e1, wr (by have := hj'.1; omega) (by have := hj'.2.1; omega)]
        refine ⟨⟨b0, by omega⟩, ⟨by omega, by omega⟩, ⟨c0, by omega⟩, ⟨b0, by omega⟩, by rw [List.length_set]; exact h2, fun i c hc => ?_⟩
        have hci := hR.at' i c hc
        have cc0 : 0 ≤ c := hci.1
        have cc1 : c < n := hci.2.1
        have hkl : b.toNat < dep.length := by omega
        rw [lat_set hkl]
        by_cases hcb2 : c = b
        · have := huniq i c hc hcb2
          subst hcb2
          rw [if_pos rfl]
          refine ⟨fun hh => by omega, fun _ => ⟨by omega, by omega, fun hh => by omega, fun _ => ?_⟩⟩
          rw [lat_set hkl, if_neg (by omega)]
        · rw [if_neg (by omega)]
          refine ⟨fun hh => (h3 i c hc).1 (by omega), fun hh => ?_⟩
          have hik : i ≠ k.toNat := fun e => by
            subst e
            rw [hc] at hget
            exact hcb2 (Option.some.inj hget)
          obtain ⟨z1, z2, z3, z4⟩ := (h3 i c hc).2 (by omega)
          refine ⟨z1, z2, z3, fun hrc => ?_⟩
          rw [z4 hrc]
          rcases hci.2.2 with ⟨q1', _⟩ | ⟨q1', q2', j', hj'', hjb'⟩
          · rw [q1'] at hrc; simp at hrc
          · obtain ⟨d0, d1, _⟩ := joins_in hok q1' q2'
            have : (upA up c).2 ≠ b := fun e => by have := huniq j' _ hjb' e; omega
            rw [lat_set hkl, if_neg (by omega)]
    · have hr := of_decide_eq_false hr
      refine ⟨h2, fun i c hc => ⟨fun hh => (h3 i c hc).1 (by omega), fun hh => ?_⟩⟩
      by_cases hik : i = k.toNat
      · subst hik
        rw [hget] at hc
        cases hc
        have := (h3 _ b hget).1 (by omega)
        exact ⟨by show 0 ≤ lat dep b; omega, by show lat dep b ≤ _; omega, fun _ => this, fun hh => by omega⟩
      · exact (h3 i c hc).2 (by omega)
    · rintro ⟨dep', _⟩ _ ⟨g1, g2⟩
      simp only at g1 g2 ⊢
      rw [wr (by omega) (by omega)]
      exact ⟨⟨by omega, by omega, g1, g2⟩, by omega⟩
  have hk := of_decide_eq_false hk
  have hD : Deps n ls up dep := ⟨hul, h2, fun v v0 v1 => by
    obtain ⟨j, hj⟩ := List.mem_iff_getElem?.1 (hR.all v v0 v1)
    have hjl := (List.getElem?_eq_some_iff.1 hj).1
    obtain ⟨z1, z2, z3, z4⟩ := (h3 j v hj).2 (by omega)
    refine ⟨z1, ?_⟩
    rcases (hR.at' j v hj).2.2 with ⟨q1, q2⟩ | ⟨q1, q2, _⟩
    · exact .inl ⟨q1, q2, z3 (by rw [q1]; simp)⟩
    · exact .inr ⟨q1, q2, z4 (forest_mem q1).1⟩⟩
  have hd0 : ∀ v, 0 ≤ v → v < n → 0 ≤ lat dep v := fun v v0 v1 => (hD.at' v v0 v1).1
  clear h3 hk h0 h1
  simp only [List.length_replicate]
  refine ⟨⟨n0, Int.le_refl _, by omega, by omega⟩, fun p => 0 ≤ p.1 ∧ p.1 ≤ n ∧ p.2.1.length = n.toNat ∧ ∀ i : Int, 0 ≤ i → i < p.1 → lat p.2.1 i = i, fun p => (n - p.1).toNat, ⟨Int.le_refl _, n0, by simp, fun i hi hi' => (by have hi' : i < 0 := hi'; omega)⟩, ?_⟩
  rintro ⟨b, t, _⟩ _ ⟨h0, h1, ht, h3⟩
  change Int at b
  change List Int at t
  simp only at h0 h1 ht h3 ⊢
  refine ⟨fun h => ?_, fun hb => ?_⟩
  · have h := of_decide_eq_true h
    rw [wr (by omega) (by omega)]
    refine ⟨⟨h0, by omega⟩, ⟨by omega, by omega, by rw [List.length_set]; exact ht, fun j hj hjb => ?_⟩, by omega⟩
    rw [lat_set (by omega)]
    split
    · omega
    · exact h3 j hj (by omega)
  have hb := of_decide_eq_false hb
  have hid : ∀ i : Int, 0 ≤ i → i < n → lat t i = i := fun i i0 i1 => h3 i i0 (by omega)
  have hT : Tops n up dep t := ⟨ht, fun v v0 v1 => by rw [hid v v0 v1]; exact ⟨v0, v1⟩, fun v v0 v1 hm => absurd (hid v v0 v1) hm, fun f _ v v0 v1 => by rw [hid v v0 v1]⟩
  refine ⟨fun p => 0 ≤ p.1 ∧ p.1 ≤ (ls.length : Int) ∧ Tops n up dep p.2.1 ∧ Mk n up (Mv p.2.1) (mB p.2.2.1) ∧ Snd n ls up (Mv p.2.1) ∧ Cmp n ls up (Mv p.2.1) p.1.toNat, fun p => ((ls.length : Int) - p.1).toNat, ⟨Int.le_refl _, Int.natCast_nonneg _, hT, fun e => ⟨fun hh => (by cases hh), fun ⟨w, w0, w1, hw, _⟩ => absurd (hid w w0 w1) hw⟩, fun w w0 w1 hw => absurd (hid w w0 w1) hw, fun j hj => absurd hj (Nat.not_lt_zero _)⟩, ?_⟩
  clear hT hid h3 ht h0 h1 hb
  rintro ⟨i, top, m, _⟩ _ ⟨h0, h1, hT, hMk, hSn, hCm⟩
  change Int at i
  change List Int at top
  change List (Int × Bool) at m
  simp only at h0 h1 hT hMk hSn hCm ⊢
  refine ⟨fun hi => ?_, fun hi => ?_⟩
  · have hi := of_decide_eq_true hi
    have hgd : gx ((0 : Int), (0 : Int)) ls i = ls.getD i.toNat (0, 0) := gx_getD h0 hi
    have hin : inB n (gx ((0 : Int), (0 : Int)) ls i) := nb _ (gx_mem h0 hi)
    generalize gx ((0 : Int), (0 : Int)) ls i = l at hgd hin ⊢
    obtain ⟨x0, x1, y0, y1⟩ := hin
    refine ⟨fun p => Tops n up dep p.1 ∧ Mk n up (Mv p.1) (mB p.2.1) ∧ Snd n ls up (Mv p.1) ∧ Cmp n ls up (Mv p.1) (i.toNat + 1), ⟨⟨h0, hi⟩, ⟨forest_sorted n ls, by omega⟩, ?_⟩, ?_⟩
    · rintro ⟨_, r, _⟩ _ hr
      simp only at hr ⊢
      subst hr
      have hii : ((i.toNat : Nat) : Int) = i := by omega
      refine ⟨fun hf => ⟨hT, hMk, hSn, fun j hj hjf => ?_⟩, fun hf => ⟨⟨by omega, by omega⟩, ⟨by omega, by omega⟩, ?_, ?_⟩⟩
      · have hf := of_decide_eq_true hf
        rcases (by omega : j < i.toNat ∨ j = i.toNat) with hji | hji
        · exact hCm j hji hjf
        · subst hji; rw [hii] at hjf; exact absurd hf hjf
      all_goals
        have hf : i ∉ forestF n ls := of_decide_eq_false hf
        have hjf : ((i.toNat : Nat) : Int) ∉ forestF n ls := by rw [hii]; exact hf
        refine find_vc hT hd0 x0 x1 fun a top1 T1 E1 a0 a1 na fa => ?_
        refine find_vc T1 hd0 y0 y1 fun b top2 T2 E2 b0 b1 nb' fb => ?_
        have E12 : ∀ v, 0 ≤ v → v < n → (Mv top2 v ↔ Mv top v) := fun v v0 v1 => (E2 v v0 v1).trans (E1 v v0 v1)
        have na2 : ¬ Mv top2 a := fun hh => na ((E2 a a0 a1).1 hh)
        simp only
        refine ⟨fun p => 0 ≤ p.1 ∧ p.1 < n ∧ 0 ≤ p.2.1 ∧ p.2.1 < n ∧ ¬ Mv p.2.2.1 p.1 ∧ ¬ Mv p.2.2.1 p.2.1 ∧ Tops n up dep p.2.2.1 ∧ Mk n up (Mv p.2.2.1) (mB p.2.2.2.1) ∧ Snd n ls up (Mv p.2.2.1) ∧ Cmp n ls up (Mv p.2.2.1) i.toNat ∧ ∀ f, Con n up (Mv p.2.2.1) f → (f p.1 = f p.2.1 ↔ f l.1 = f l.2), fun p => cnt p.2.2.1, ⟨a0, a1, b0, b1, na2, nb', T2, ?_, ?_, ?_, ?_⟩, ?_⟩
        · intro e
          rw [hMk e]
          exact ⟨fun ⟨w, w0, w1, hw, he⟩ => ⟨w, w0, w1, (E12 w w0 w1).2 hw, he⟩, fun ⟨w, w0, w1, hw, he⟩ => ⟨w, w0, w1, (E12 w w0 w1).1 hw, he⟩⟩
        · exact fun w w0 w1 hw => hSn w w0 w1 ((E12 w w0 w1).1 hw)
        · exact fun j hj hjf f hf => hCm j hj hjf f (hf.sub fun v v0 v1 hv => (E12 v v0 v1).2 hv)
        · intro f hf
          have hf1 : Con n up (Mv top1) f := hf.sub fun v v0 v1 hv => (E2 v v0 v1).2 hv
          have hf0 : Con n up (Mv top) f := hf.sub fun v v0 v1 hv => (E12 v v0 v1).2 hv
          show f a = f b ↔ _
          rw [fa f hf0, fb f hf1]
        clear E12 na2 nb' T2 E2 fb fa na E1 T1 hMk hSn hCm hT
        rintro ⟨a', b', tp, mm, _⟩ _ ⟨k1, k2, k3, k4, k5, k6, kT, kM, kS, kC, kf⟩
        change Int at a' b'
        change List Int at tp
        change List (Int × Bool) at mm
        simp only at k1 k2 k3 k4 k5 k6 kT kM kS kC kf ⊢
        have htl := kT.len
        refine ⟨fun hne => ?_, fun heq => ?_⟩
        · have hne : a' ≠ b' := of_decide_eq_true hne
          refine ⟨fun p => 0 ≤ p.1 ∧ p.1 < n ∧ 0 ≤ p.2.1 ∧ p.2.1 < n ∧ p.1 ≠ p.2.1 ∧ lat dep p.2.1 ≤ lat dep p.1 ∧ ¬ Mv tp p.1 ∧ ¬ Mv tp p.2.1 ∧ ∀ f, Con n up (Mv tp) f → (f p.1 = f p.2.1 ↔ f l.1 = f l.2), ⟨⟨k1, by omega⟩, ⟨k3, by omega⟩, fun hd => ?_, fun hd => ?_⟩, ?_⟩
          · have hd : lat dep a' < lat dep b' := of_decide_eq_true hd
            exact ⟨k3, k4, k1, k2, fun e => hne e.symm, Int.le_of_lt hd, k6, k5, fun f hf => (by rw [← kf f hf]; exact eq_comm)⟩
          · have hd : ¬ lat dep a' < lat dep b' := of_decide_eq_false hd
            exact ⟨k1, k2, k3, k4, hne, Int.not_lt.1 hd, k5, k6, kf⟩
          rintro ⟨a, b, _⟩ _ ⟨a0, a1, b0, b1, hab, hdep, na, nbb, hf'⟩
          change Int at a b
          simp only at a0 a1 b0 b1 hab hdep na nbb hf' ⊢
          rw [hgd] at hf'
          obtain ⟨hr, hsnd⟩ := mark_step hok hD kT (by omega) hjf a0 a1 b0 b1 na hab hdep hf'
          have hup : gx ((0 : Int), (0 : Int)) up a = upA up a := gx_getD a0 (by omega)
          rw [hup]
          obtain ⟨T3, E3⟩ := kT.mark hok hD a0 a1 hr
          refine ⟨⟨a0, by omega⟩, ⟨by omega, by omega⟩, ⟨a0, by omega⟩, ⟨by omega, by omega⟩, ⟨a0, by omega⟩, ?_⟩
          refine find_vc T3 hd0 a0 a1 fun c top4 T4 E4 c0 c1 nc fc => ?_
          have E34 : ∀ v, 0 ≤ v → v < n → (Mv top4 v ↔ Mv tp v ∨ v = a) := fun v v0 v1 => (E4 v v0 v1).trans (E3 v v0 v1)
          simp only
          refine ⟨⟨c0, c1, b0, b1, nc, fun hh => ?_, T4, fun e => ?_, fun w w0 w1 hw => ?_, fun j hj hjf f hf => ?_, fun f hf => ?_⟩, ?_⟩
          · rcases (E34 b b0 b1).1 hh with hh | hh
            · exact nbb hh
            · exact hab hh.symm
          · rw [mB_put]
            split
            · rename_i he
              exact ⟨fun _ => ⟨a, a0, a1, (E34 a a0 a1).2 (.inr rfl), he.symm⟩, fun _ => rfl⟩
            · rename_i he
              rw [kM e]
              refine ⟨fun ⟨w, w0, w1, hw, hwe⟩ => ⟨w, w0, w1, (E34 w w0 w1).2 (.inl hw), hwe⟩, fun ⟨w, w0, w1, hw, hwe⟩ => ?_⟩
              rcases (E34 w w0 w1).1 hw with hw | hw
              · exact ⟨w, w0, w1, hw, hwe⟩
              · subst hw; exact absurd hwe.symm he
          · rcases (E34 w w0 w1).1 hw with hw | hw
            · exact kS w w0 w1 hw
            · subst hw; exact hsnd
          · exact kC j hj hjf f (hf.sub fun v v0 v1 hv => (E34 v v0 v1).2 (.inl hv))
          · have hf3 : Con n up (Mv (tp.set a.toNat (upA up a).2)) f := hf.sub fun v v0 v1 hv => (E4 v v0 v1).2 hv
            have hft : Con n up (Mv tp) f := hf.sub fun v v0 v1 hv => (E34 v v0 v1).2 (.inl hv)
            show f c = f b ↔ _
            rw [fc f hf3, hgd]
            exact hf' f hft
          · have t4l := T4.len
            refine cnt_lt (by omega) (fun v v0 v1 hv => ?_) a0 (by omega) ((E34 a a0 a1).2 (.inr rfl)) (Decidable.not_not.1 na)
            exact Decidable.not_not.1 fun hh => absurd hv ((E34 v v0 (by omega)).2 (.inl hh))
        · have heq : a' = b' := by simpa using heq
          subst heq
          refine ⟨kT, kM, kS, fun j hj hjf f hf => ?_⟩
          rcases (by omega : j < i.toNat ∨ j = i.toNat) with hji | hji
          · exact kC j hji hjf f hf
          · subst hji
            have := (kf f hf).1 rfl
            rw [hgd] at this
            exact this
    · rintro ⟨tp, mm, _⟩ _ ⟨k1, k2, k3, k4⟩
      simp only at k1 k2 k3 k4 ⊢
      rw [wr (by omega) (by omega), show (i + 1).toNat = i.toNat + 1 from by omega]
      exact ⟨⟨by omega, by omega, k1, k2, k3, k4⟩, by omega⟩
  have hi := of_decide_eq_false hi
  rw [show i.toNat = ls.length from by omega] at hCm
  have hEq := bridges_eq hok hD hT hMk hSn hCm
  refine ⟨fun _ => True, fun y => mB m y.1, ⟨fun y _ _ => ⟨trivial, ?_⟩, fun _ _ => trivial, ?_⟩⟩
  · rintro ⟨z, _⟩ _ hz
    exact ⟨by trivial, hz⟩
  rintro ⟨r, _⟩ _ hr
  simp only at hr ⊢
  change Int at r
  have hsplit : ∀ k : Nat, (∀ j, j < k → j < (forestF n ls).length → mB m ((forestF n ls).getD j 0) = false) → ((forestF n ls).take k).filter (fun e => !(mB m e)) = (forestF n ls).take k := fun k hk => by
    refine List.filter_eq_self.2 fun a ha => ?_
    obtain ⟨j, hj, rfl⟩ := List.mem_iff_getElem.1 ha
    have hj2 : j < k ∧ j < (forestF n ls).length := by rw [List.length_take] at hj; omega
    have := hk j hj2.1 hj2.2
    rw [List.getD_eq_getElem?_getD, List.getElem?_eq_getElem hj2.2] at this
    simp only [Option.getD_some] at this
    simp [this]
  unfold idxF at hr
  cases hfi : (forestF n ls).findIdx? (fun i => mB m i) with
  | none =>
    rw [hfi] at hr
    simp only at hr
    subst hr
    refine ⟨fun _ => ⟨fun h' => absurd h h', fun _ => ⟨?_, by trivial⟩⟩, fun hh => by simp at hh⟩
    rw [← hEq]
    rw [List.findIdx?_eq_none_iff] at hfi
    exact (List.filter_eq_self.2 fun a ha => by simp [hfi a ha]).symm
  | some q =>
    rw [hfi] at hr
    simp only at hr
    subst hr
    rw [List.findIdx?_eq_some_iff_getElem] at hfi
    obtain ⟨hq, hq1, hq2⟩ := hfi
    refine ⟨fun hh => ?_, fun _ => ?_⟩
    · have := of_decide_eq_true hh; omega
    have hqn : IntKind.i64.wrap ((q : Int) + 1) = (q : Int) + 1 := wr (by omega) (by omega)
    rw [hqn]
    refine ⟨fun p => 0 ≤ p.1 ∧ p.1 < p.2.1 ∧ p.2.1 ≤ ((forestF n ls).length : Int) ∧ p.2.2.1.length = (forestF n ls).length ∧ p.2.2.1.take p.1.toNat = ((forestF n ls).take p.2.1.toNat).filter (fun e => !(mB m e)) ∧ ∀ k, p.2.1.toNat ≤ k → p.2.2.1[k]? = (forestF n ls)[k]?, fun p => (((forestF n ls).length : Int) - p.2.1).toNat, ⟨by omega, by show (q : Int) < q + 1; omega, by show (q : Int) + 1 ≤ _; omega, rfl, ?_, fun _ _ => rfl⟩, ?_⟩
    · show List.take ((q : Int).toNat) _ = _
      rw [Int.toNat_natCast, show ((q : Int) + 1).toNat = q + 1 from by omega, List.take_add_one, List.getElem?_eq_getElem hq, List.filter_append, hsplit q fun j hj hjl => ?_]
      · rw [show List.filter (fun e => !mB m e) (Option.toList (some (forestF n ls)[q])) = [] from by simp [hq1], List.append_nil]
      · have := hq2 j hj
        rw [List.getD_eq_getElem?_getD, List.getElem?_eq_getElem hjl]
        simpa using this
    rintro ⟨a, b, s, _⟩ _ ⟨k0, k1, k2, k3, k4, k5⟩
    change Int at a b
    change List Int at s
    simp only at k0 k1 k2 k3 k4 k5 ⊢
    refine ⟨fun hb => ?_, fun hb => ?_⟩
    · have hb := of_decide_eq_true hb
      have hde := delete_take (keep := fun e => !(mB m e)) k3 (i := a.toNat) (j := b.toNat) (by omega) (by omega) k4 k5 (by omega)
      refine ⟨fun p => 0 ≤ p.1 ∧ p.1 < b + 1 ∧ p.2.1.length = (forestF n ls).length ∧ p.2.1.take p.1.toNat = ((forestF n ls).take (b + 1).toNat).filter (fun e => !(mB m e)) ∧ ∀ k, (b + 1).toNat ≤ k → p.2.1[k]? = (forestF n ls)[k]?, ⟨⟨by omega, hb⟩, trivial, ?_⟩, ?_⟩
      · rintro ⟨r, _⟩ _ hr
        simp only at hr ⊢
        have hb1 : (b + 1).toNat = b.toNat + 1 := by omega
        refine ⟨fun ht => ⟨⟨k0, by omega⟩, ?_⟩, fun hf => ?_⟩
        · rw [wr (by omega) (by omega), show (a + 1).toNat = a.toNat + 1 from by omega, hb1, List.length_set]
          exact ⟨by omega, by omega, k3, hde.1 (by rw [← hr]; exact ht), hde.2.2⟩
        · rw [hb1]
          exact ⟨k0, by omega, k3, hde.2.1 (by rw [← hr]; exact hf), fun k hk => k5 k (by omega)⟩
      · rintro ⟨a2, s2, _⟩ _ ⟨m0, m1, m2, m3, m4⟩
        simp only at m0 m1 m2 m3 m4 ⊢
        rw [wr (by omega) (by omega)]
        exact ⟨⟨m0, m1, by omega, m2, m3, m4⟩, by omega⟩
    · have hb := of_decide_eq_false hb
      rw [List.take_of_length_le (l := forestF n ls) (by omega)] at k4
      have hcl : (clearL (0 : Int) a.toNat (s.length : Int).toNat s).length = s.length := clearL_len (by omega) (by omega)
      have hct : List.drop (Int.toNat 0) (List.take a.toNat (clearL (0 : Int) a.toNat (s.length : Int).toNat s)) = bridgesF n ls := by
        show List.take a.toNat (clearL (0 : Int) a.toNat (s.length : Int).toNat s) = _
        unfold clearL
        rw [List.take_append_of_le_length (by rw [List.length_take]; omega), List.take_take, Nat.min_self, k4]
        exact hEq
      refine ⟨⟨k0, by omega, Int.le_refl _⟩, ⟨Int.le_refl _, k0, by rw [hcl]; omega⟩, fun h' => absurd h h', fun _ => ⟨hct, by trivial⟩⟩
end Go.Proofs.YtppgpdigopffbaaGreat
