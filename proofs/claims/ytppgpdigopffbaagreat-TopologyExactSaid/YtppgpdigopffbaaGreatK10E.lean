/- Parts: Vt, Vs, Ta, TPA, Tb, TPB, Td, Te, TPC, TPD, TPE, TPF, TPG, Tf, TPH. -/
import Derived.Test.YtppgpdigopffbaaGreatRows
import Derived.Test.YtppgpdigopffbaaGreatK10D
namespace Go.Proofs.YtppgpdigopffbaaGreat
open Go.Vc Go.Gw
abbrev In64 (a : Int) : Prop := IntKind.i64.min ≤ a ∧ a ≤ IntKind.i64.max
abbrev InU64 (a : Int) : Prop := IntKind.u64.min ≤ a ∧ a ≤ IntKind.u64.max
abbrev WfU (l : List Int) : Prop := List.length l ≤ (9223372036854775807 : Nat) ∧ ∀ (x : Int), x ∈ l → IntKind.u32.min ≤ x ∧ x ≤ IntKind.u32.max
abbrev WfI (l : List Int) : Prop := List.length l ≤ (9223372036854775807 : Nat) ∧ ∀ (x : Int), x ∈ l → IntKind.i64.min ≤ x ∧ x ≤ IntKind.i64.max
abbrev WfZ (z : Bool × List Int) : Prop := True ∧ WfU z.snd
abbrev WfQ (q : (Bool × List Int) × List Int) : Prop := WfZ q.fst ∧ WfU q.snd
abbrev WfE (e : Int × (Bool × List Int) × List Int) : Prop := In64 e.fst ∧ WfZ e.snd.fst ∧ WfU e.snd.snd
abbrev WfEs (l : List (Int × (Bool × List Int) × List Int)) : Prop := List.length l ≤ (9223372036854775807 : Nat) ∧ ∀ (x : Int × (Bool × List Int) × List Int), x ∈ l → WfE x
abbrev QQ := (Bool × List Int) × List Int
abbrev EE := Int × (Bool × List Int) × List Int
abbrev dEE : EE := ((0 : Int), (false, []), [])
def tys : List (Nat × TI) := [(2, { ty := (.int .i64), agg := false }),
  (3, { ty := (.int .i64), agg := false }),
  (4, { ty := .bool, agg := false }),
  (22, { ty := (.sl (.int .i64)), agg := false, elem := 3, bytes := 8 }),
  (23, { ty := (.sl (.pair (.int .i64) (.int .i64))), agg := false, elem := 30, bytes := 16 }),
  (30, { ty := (.pair (.int .i64) (.int .i64)), agg := true, elem := 3, arr := 2 }),
  (33, { ty := (.sl .bool), agg := false, elem := 4, bytes := 1 }),
  (34, { ty := (.sl (.pair (.int .i64) (.pair (.pair .bool (.sl (.int .u32))) (.sl (.int .u32))))), agg := false, elem := 49, bytes := 64 }),
  (40, { ty := (.sl (.int .u32)), agg := false, elem := 87, bytes := 4 }),
  (42, { ty := (.pair .bool (.sl (.int .u32))), agg := true, fields := [(0, 1, false), (1, 1, false)] }),
  (44, { ty := (.pair (.pair .bool (.sl (.int .u32))) (.sl (.int .u32))), agg := true, fields := [(0, 2, true), (2, 1, false)] }),
  (47, { ty := (.sl (.pair (.pair .bool (.sl (.int .u32))) (.sl (.int .u32)))), agg := false, elem := 44, bytes := 56 }),
  (49, { ty := (.pair (.int .i64) (.pair (.pair .bool (.sl (.int .u32))) (.sl (.int .u32)))), agg := true, fields := [(0, 1, false), (1, 3, true)] }),
  (64, { ty := (.sl (.sl (.pair (.int .i64) (.int .i64)))), agg := false, elem := 23, bytes := 24 }),
  (67, { ty := (.sl (.int .i64)), agg := false, elem := 3, bytes := 8 }),
  (73, { ty := (.mp false (.int .i64) false .bool), agg := false, elem := 4, key := 3 }),
  (87, { ty := (.int .u32), agg := false }),
  (90, { ty := (.pair (.sl (.int .i64)) (.int .i64)), agg := true, fields := [(0, 1, false), (1, 1, false)] }),
  (93, { ty := (.int .u64), agg := false }),
  (96, { ty := (.int .u64), agg := false }),
  (130, { ty := (.sl (.sl (.pair (.int .i64) (.pair (.pair .bool (.sl (.int .u32))) (.sl (.int .u32)))))), agg := false, elem := 34, bytes := 24 })]
theorem tys_ok : tysOk Tryz.prog tys = true := by kernel_rfl
def tysR : List (Nat × TI) := [(2, { ty := (.int .i64), agg := false }),
  (3, { ty := (.int .i64), agg := false }),
  (4, { ty := .bool, agg := false }),
  (22, { ty := (.sl (.int .i64)), agg := false, elem := 3, bytes := 8 }),
  (23, { ty := (.sl (.pair (.int .i64) (.int .i64))), agg := false, elem := 30, bytes := 16 }),
  (30, { ty := (.pair (.int .i64) (.int .i64)), agg := true, elem := 3, arr := 2 }),
  (33, { ty := (.sl .bool), agg := false, elem := 4, bytes := 1 }),
  (34, { ty := (.sl (.pair (.int .i64) (.pair (.pair .bool (.sl (.int .u32))) (.sl (.int .u32))))), agg := false, elem := 49, bytes := 64 }),
  (40, { ty := (.sl (.int .u32)), agg := false, elem := 87, bytes := 4 }),
  (42, { ty := (.pair .bool (.sl (.int .u32))), agg := true, fields := [(0, 1, false), (1, 1, false)] }),
  (44, { ty := (.pair (.pair .bool (.sl (.int .u32))) (.sl (.int .u32))), agg := true, fields := [(0, 2, true), (2, 1, false)] }),
  (47, { ty := (.sl (.pair (.pair .bool (.sl (.int .u32))) (.sl (.int .u32)))), agg := false, elem := 44, bytes := 56 }),
  (49, { ty := (.pair (.int .i64) (.pair (.pair .bool (.sl (.int .u32))) (.sl (.int .u32)))), agg := true, fields := [(0, 1, false), (1, 3, true)] }),
  (64, { ty := (.sl (.sl (.pair (.int .i64) (.int .i64)))), agg := false, elem := 23, bytes := 24, rows := true }),
  (67, { ty := (.sl (.int .i64)), agg := false, elem := 3, bytes := 8 }),
  (73, { ty := (.mp false (.int .i64) false .bool), agg := false, elem := 4, key := 3 }),
  (87, { ty := (.int .u32), agg := false }),
  (90, { ty := (.pair (.sl (.int .i64)) (.int .i64)), agg := true, fields := [(0, 1, false), (1, 1, false)] }),
  (93, { ty := (.int .u64), agg := false }),
  (96, { ty := (.int .u64), agg := false }),
  (130, { ty := (.sl (.sl (.pair (.int .i64) (.pair (.pair .bool (.sl (.int .u32))) (.sl (.int .u32)))))), agg := false, elem := 34, bytes := 24 })]
theorem tysR_ok : tysOk Tryz.prog tysR = true := by kernel_rfl
end Go.Proofs.YtppgpdigopffbaaGreat
namespace Go.Proofs.YtppgpdigopffbaaGreat
open Go.Vc Go.Gw
def s_law19_TopologyExact : FSpec := { args := [.val false (.int .i64), .val false (.sl (.pair (.int .i64) (.int .i64))), .val false (.sl (.int .i64)), .val false (.sl (.int .i64)), .val false (.int .i64)], res := [.val false .bool], shared := false, pre := fun (x : Int × (List (Int × Int)) × (List Int) × (List Int) × Int × Unit) => True, post := fun (x : Int × (List (Int × Int)) × (List Int) × (List Int) × Int × Unit) (r : Bool × Unit) => r.1 = true }
def s_law19_network : FSpec := { args := [.val false (.sl (.int .i64))], res := [.val false (.int .i64), .val false (.sl (.pair (.int .i64) (.int .i64)))], shared := true, pre := fun (x : (List Int) × Unit) => True, post := fun (x : (List Int) × Unit) (r : Int × (List (Int × Int)) × Unit) => netOk r.1 r.2.1 ∧ r.1 ≤ 7 ∧ r.2.1.length ≤ 12 }
def s_topology_Forest : FSpec := { args := [.val false (.int .i64), .val false (.sl (.pair (.int .i64) (.int .i64)))], res := [.val false (.sl (.int .i64)), .val false (.int .i64)], shared := true, pre := fun (x : Int × (List (Int × Int)) × Unit) => True, post := fun (x : Int × (List (Int × Int)) × Unit) (r : (List Int) × Int × Unit) => r.1 = (if netE x.1 x.2.1 = 0 then forestF x.1 x.2.1 else []) ∧ r.2.1 = netE x.1 x.2.1 }
def s_topology_Islands : FSpec := { args := [.val false (.int .i64), .val false (.sl (.pair (.int .i64) (.int .i64)))], res := [.val false (.sl (.int .i64)), .val false (.int .i64)], shared := true, pre := fun (x : Int × (List (Int × Int)) × Unit) => True, post := fun (x : Int × (List (Int × Int)) × Unit) (r : (List Int) × Int × Unit) => r.1 = (if netE x.1 x.2.1 = 0 then labs x.1 x.2.1 else []) ∧ r.2.1 = netE x.1 x.2.1 }
def s_law19_awake : FSpec := { args := [], res := [.val false .bool], shared := false, pre := fun (x : Unit) => True, post := fun (x : Unit) (r : Bool × Unit) => r.1 = true }
def s_topology_Bridges : FSpec := { args := [.val false (.int .i64), .val false (.sl (.pair (.int .i64) (.int .i64)))], res := [.val false (.sl (.int .i64)), .val false (.int .i64)], shared := true, pre := fun (x : Int × (List (Int × Int)) × Unit) => x.2.1.length ≤ 100000, post := fun (x : Int × (List (Int × Int)) × Unit) (r : (List Int) × Int × Unit) => (netE x.1 x.2.1 ≠ 0 → r.1 = [] ∧ r.2.1 = netE x.1 x.2.1) ∧ (netE x.1 x.2.1 = 0 → r.1 = bridgesF x.1 x.2.1 ∧ r.2.1 = 0) }
def s_help_Equal_int : FSpec := { args := [.val false (.sl (.int .i64)), .val false (.sl (.int .i64))], res := [.val false .bool], shared := false, pre := fun (x : (List Int) × (List Int) × Unit) => True, post := fun (x : (List Int) × (List Int) × Unit) (r : Bool × Unit) => r.1 = decide (x.1 = x.2.1) }
def s_topology_Loop : FSpec := { args := [.val false (.int .i64), .val false (.sl (.pair (.int .i64) (.int .i64))), .val false (.int .i64)], res := [.val false (.sl (.pair (.int .i64) (.pair (.pair .bool (.sl (.int .u32))) (.sl (.int .u32))))), .val false (.int .i64)], shared := true, pre := fun (x : Int × (List (Int × Int)) × Int × Unit) => x.2.1.length ≤ 20, post := fun (x : Int × (List (Int × Int)) × Int × Unit) (r : (List (Int × ((Bool × (List Int)) × (List Int)))) × Int × Unit) => (netE x.1 x.2.1 ≠ 0 → r.1 = [] ∧ r.2.1 = netE x.1 x.2.1) ∧ (netE x.1 x.2.1 = 0 → r.1 = loopP x.1 x.2.1 x.2.2.1 ∧ r.2.1 = loopE x.1 x.2.1 x.2.2.1) }
def s_r03_Equal : FSpec := { args := [.val true (.pair (.pair .bool (.sl (.int .u32))) (.sl (.int .u32))), .val true (.pair (.pair .bool (.sl (.int .u32))) (.sl (.int .u32)))], res := [.val false .bool], shared := false, pre := fun (x : ((Bool × (List Int)) × (List Int)) × ((Bool × (List Int)) × (List Int)) × Unit) => True, post := fun (x : ((Bool × (List Int)) × (List Int)) × ((Bool × (List Int)) × (List Int)) × Unit) (r : Bool × Unit) => r.1 = decide (x.1 = x.2.1) }
def s_r06_Get : FSpec := { args := [.val false (.sl (.pair (.int .i64) (.pair (.pair .bool (.sl (.int .u32))) (.sl (.int .u32))))), .val false (.int .i64)], res := [.val true (.pair (.pair .bool (.sl (.int .u32))) (.sl (.int .u32)))], shared := true, pre := fun (x : (List (Int × ((Bool × (List Int)) × (List Int)))) × Int × Unit) => pm x.1 ∧ x.1.length ≤ 1000, post := fun (x : (List (Int × ((Bool × (List Int)) × (List Int)))) × Int × Unit) (r : ((Bool × (List Int)) × (List Int)) × Unit) => r.1 = ri (isum x.1 x.2.1) }
def s_r03_FromInt : FSpec := { args := [.val false (.int .i64)], res := [.val true (.pair (.pair .bool (.sl (.int .u32))) (.sl (.int .u32)))], shared := true, pre := fun (x : Int × Unit) => True, post := fun (x : Int × Unit) (r : ((Bool × (List Int)) × (List Int)) × Unit) => r.1 = ri x.1 }
def s_r03_Add : FSpec := { args := [.val true (.pair (.pair .bool (.sl (.int .u32))) (.sl (.int .u32))), .val true (.pair (.pair .bool (.sl (.int .u32))) (.sl (.int .u32)))], res := [.val true (.pair (.pair .bool (.sl (.int .u32))) (.sl (.int .u32)))], shared := true, pre := fun (x : ((Bool × (List Int)) × (List Int)) × ((Bool × (List Int)) × (List Int)) × Unit) => whole x.1 ∧ whole x.2.1, post := fun (x : ((Bool × (List Int)) × (List Int)) × ((Bool × (List Int)) × (List Int)) × Unit) (r : ((Bool × (List Int)) × (List Int)) × Unit) => r.1 = rc (rv x.1 + rv x.2.1) }
def s_r03_Zero : FSpec := { args := [], res := [.val true (.pair (.pair .bool (.sl (.int .u32))) (.sl (.int .u32)))], shared := true, pre := fun (x : Unit) => True, post := fun (x : Unit) (r : ((Bool × (List Int)) × (List Int)) × Unit) => r.1 = rc 0 }
def s_r03_Sign : FSpec := { args := [.val true (.pair (.pair .bool (.sl (.int .u32))) (.sl (.int .u32)))], res := [.val false (.int .i64)], shared := false, pre := fun (x : ((Bool × (List Int)) × (List Int)) × Unit) => whole x.1, post := fun (x : ((Bool × (List Int)) × (List Int)) × Unit) (r : Int × Unit) => r.1 = (rv x.1).num.sign }
def s_make_New : FSpec := { args := [.val false (.sl (.int .i64))], res := [.obox 90 (.pair (.sl (.int .i64)) (.int .i64))], shared := true, pre := fun (x : (List Int) × Unit) => True, post := fun (x : (List Int) × Unit) (r : ((List Int) × Int) × Unit) => r.1 = (x.1, 0) }
def s_help_First_int : FSpec := { args := [.val false (.sl (.int .i64)), .val false (.int .i64)], res := [.val false (.sl (.int .i64))], shared := true, pre := fun (x : (List Int) × Int × Unit) => 0 ≤ x.2.1, post := fun (x : (List Int) × Int × Unit) (r : (List Int) × Unit) => r.1 = x.1.take x.2.1.toNat }
def s_make_Tape_Next : FSpec := { args := [.box 90 (.pair (.sl (.int .i64)) (.int .i64)), .val false (.int .i64)], res := [.val false (.int .i64)], shared := true, pre := fun (x : ((List Int) × Int) × Int × Unit) => 0 < x.2.1 ∧ 0 ≤ x.1.2 ∧ x.1.2 ≤ (x.1.1.length : Int), post := fun (x : ((List Int) × Int) × Int × Unit) (r : Int × Unit) => 0 ≤ r.1 ∧ r.1 < x.2.1, mpost := fun (x : ((List Int) × Int) × Int × Unit) (r : Int × Unit) (o : ((List Int) × Int) × Unit) => o.1.1 = x.1.1 ∧ 0 ≤ o.1.2 ∧ o.1.2 ≤ (x.1.1.length : Int) }
def s_law19_agrees : FSpec := { args := [.val false (.int .i64), .val false (.sl (.pair (.int .i64) (.int .i64))), .val false (.sl (.int .i64)), .val false (.int .i64)], res := [.val false .bool], shared := false, pre := fun (x : Int × (List (Int × Int)) × (List Int) × Int × Unit) => x.2.1.length ≤ 20 ∧ x.2.2.1.length ≤ 20, post := fun (x : Int × (List (Int × Int)) × (List Int) × Int × Unit) (r : Bool × Unit) => r.1 = true }
def s_help_First_2_int : FSpec := { args := [.val false (.sl (.pair (.int .i64) (.int .i64))), .val false (.int .i64)], res := [.val false (.sl (.pair (.int .i64) (.int .i64)))], shared := true, pre := fun (x : (List (Int × Int)) × Int × Unit) => 0 ≤ x.2.1, post := fun (x : (List (Int × Int)) × Int × Unit) (r : (List (Int × Int)) × Unit) => r.1 = x.1.take x.2.1.toNat }
def s_make_Mod : FSpec := { args := [.val false (.int .i64), .val false (.int .i64)], res := [.val false (.int .i64)], shared := false, pre := fun (x : Int × Int × Unit) => 0 < x.2.1, post := fun (x : Int × Int × Unit) (r : Int × Unit) => 0 < x.2.1 → 0 ≤ r.1 ∧ r.1 < x.2.1 }
def s_topology_Separates : FSpec := { args := [.val false (.int .i64), .val false (.sl (.pair (.int .i64) (.int .i64))), .val false (.sl (.int .i64))], res := [.val false .bool, .val false (.int .i64)], shared := false, pre := fun (x : Int × (List (Int × Int)) × (List Int) × Unit) => True, post := fun (x : Int × (List (Int × Int)) × (List Int) × Unit) (r : Bool × Int × Unit) => sepP x.1 x.2.1 x.2.2.1 r.1 r.2.1 }
def s_topology_check : FSpec := { args := [.val false (.int .i64), .val false (.sl (.pair (.int .i64) (.int .i64)))], res := [.val false (.int .i64)], shared := false, pre := fun (x : Int × (List (Int × Int)) × Unit) => True, post := fun (x : Int × (List (Int × Int)) × Unit) (r : Int × Unit) => r.1 = netE x.1 x.2.1 }
def s_topology_tree : FSpec := { args := [.val false (.int .i64), .val false (.sl (.pair (.int .i64) (.int .i64)))], res := [.own (.int .i64) 3, .val false (.sl (.sl (.pair (.int .i64) (.int .i64))))], shared := true, pre := fun (x : Int × (List (Int × Int)) × Unit) => netOk x.1 x.2.1, post := fun (x : Int × (List (Int × Int)) × Unit) (r : (List Int) × (List (List (Int × Int))) × Unit) => r.1 = forestF x.1 x.2.1 ∧ r.2.1 = nextT x.1 x.2.1 }
def s_topology_separate : FSpec := { args := [.val false (.int .i64)], res := [.own (.int .i64) 3], shared := false, pre := fun (x : Int × Unit) => 0 ≤ x.1 ∧ x.1 ≤ 16384, post := fun (x : Int × Unit) (r : (List Int) × Unit) => r.1 = idL x.1 }
def s_topology_sets_join : FSpec := { args := [.row (.int .i64) 3, .val true (.pair (.int .i64) (.int .i64))], res := [.val false .bool], shared := false, pre := fun (x : (List Int) × (Int × Int) × Unit) => UF x.1 ∧ inB x.1.length x.2.1 ∧ x.1.length ≤ 16384, post := fun (x : (List Int) × (Int × Int) × Unit) (r : Bool × Unit) => r.1 = decide (root x.1 x.2.1.1 ≠ root x.1 x.2.1.2), mpost := fun (x : (List Int) × (Int × Int) × Unit) (r : Bool × Unit) (o : (List Int) × Unit) => UF o.1 ∧ o.1.length = x.1.length ∧ ∀ i : Int, 0 ≤ i → i < (x.1.length : Int) → root o.1 i = if root x.1 i = max (root x.1 x.2.1.1) (root x.1 x.2.1.2) then min (root x.1 x.2.1.1) (root x.1 x.2.1.2) else root x.1 i }
def s_topology_sets_least : FSpec := { args := [.row (.int .i64) 3, .val false (.int .i64)], res := [.val false (.int .i64)], shared := false, pre := fun (x : (List Int) × Int × Unit) => UF x.1 ∧ 0 ≤ x.2.1 ∧ x.2.1 < (x.1.length : Int) ∧ x.1.length ≤ 16384, post := fun (x : (List Int) × Int × Unit) (r : Int × Unit) => r.1 = root x.1 x.2.1, mpost := fun (x : (List Int) × Int × Unit) (r : Int × Unit) (o : (List Int) × Unit) => UF o.1 ∧ o.1.length = x.1.length ∧ ∀ i : Int, 0 ≤ i → i < (x.1.length : Int) → root o.1 i = root x.1 i }
def s_r06_Identical : FSpec := { args := [.val false (.sl (.pair (.int .i64) (.pair (.pair .bool (.sl (.int .u32))) (.sl (.int .u32))))), .val false (.sl (.pair (.int .i64) (.pair (.pair .bool (.sl (.int .u32))) (.sl (.int .u32)))))], res := [.val false .bool], shared := false, pre := fun (x : (List (Int × ((Bool × (List Int)) × (List Int)))) × (List (Int × ((Bool × (List Int)) × (List Int)))) × Unit) => ∀ e ∈ x.1, whole e.2, post := fun (x : (List (Int × ((Bool × (List Int)) × (List Int)))) × (List (Int × ((Bool × (List Int)) × (List Int)))) × Unit) (r : Bool × Unit) => r.1 = decide (x.1 = x.2.1 ∧ ∀ e ∈ x.1, e.2 = rc (rv e.2)) }
def s_topology_roots : FSpec := { args := [.val false (.sl (.sl (.pair (.int .i64) (.int .i64))))], res := [.val false (.sl (.int .i64)), .val false (.sl (.pair (.int .i64) (.int .i64)))], shared := true, pre := fun (x : (List (List (Int × Int))) × Unit) => ∃ n ls, netOk n ls ∧ x.1 = nextT n ls, post := fun (x : (List (List (Int × Int))) × Unit) (r : (List Int) × (List (Int × Int)) × Unit) => ∀ n ls, netOk n ls → x.1 = nextT n ls → rootsP n ls r.1 r.2.1 }
def s_slices_BinarySearch_Sint_int : FSpec := { args := [.val false (.sl (.int .i64)), .val false (.int .i64)], res := [.val false (.int .i64), .val false .bool], shared := false, pre := fun (x : (List Int) × Int × Unit) => x.1.Pairwise (· < ·) ∧ x.1.length ≤ 100000, post := fun (x : (List Int) × Int × Unit) (r : Int × Bool × Unit) => r.2.1 = decide (x.2.1 ∈ x.1) }
def s_topology_Bridges_2 : FSpec := { args := [.val false (.int .i64), .val false (.ptr (.mp false (.int .i64) false .bool))], res := [.val false .bool], shared := false, pre := fun (x : Int × (List (Int × Bool)) × Unit) => True, post := fun (x : Int × (List (Int × Bool)) × Unit) (r : Bool × Unit) => r.1 = mB x.2.1 x.1 }
def s_rational_FromInt : FSpec := { args := [.val false (.int .i64)], res := [.val true (.pair (.pair .bool (.sl (.int .u32))) (.sl (.int .u32)))], shared := true, pre := fun (x : Int × Unit) => True, post := fun (x : Int × Unit) (r : ((Bool × (List Int)) × (List Int)) × Unit) => r.1 = ri x.1 }
def s_vector_Norm : FSpec := { args := [.val false (.sl (.pair (.int .i64) (.pair (.pair .bool (.sl (.int .u32))) (.sl (.int .u32)))))], res := [.val false (.sl (.pair (.int .i64) (.pair (.pair .bool (.sl (.int .u32))) (.sl (.int .u32)))))], shared := true, pre := fun (x : (List (Int × ((Bool × (List Int)) × (List Int)))) × Unit) => x.1.length ≤ 20 ∧ (x.1.map (·.1)).Nodup ∧ ∀ e ∈ x.1, e.2 = ri 1 ∨ e.2 = ri (-1), post := fun (x : (List (Int × ((Bool × (List Int)) × (List Int)))) × Unit) (r : (List (Int × ((Bool × (List Int)) × (List Int)))) × Unit) => r.1.Perm x.1 ∧ byIx r.1 }
def s_r02_Equal : FSpec := { args := [.val true (.pair .bool (.sl (.int .u32))), .val true (.pair .bool (.sl (.int .u32)))], res := [.val false .bool], shared := false, pre := fun (x : (Bool × (List Int)) × (Bool × (List Int)) × Unit) => True, post := fun (x : (Bool × (List Int)) × (Bool × (List Int)) × Unit) (r : Bool × Unit) => r.1 = decide (x.1 = x.2.1) }
def s_r01_Equal : FSpec := { args := [.val false (.sl (.int .u32)), .val false (.sl (.int .u32))], res := [.val false .bool], shared := false, pre := fun (x : (List Int) × (List Int) × Unit) => True, post := fun (x : (List Int) × (List Int) × Unit) (r : Bool × Unit) => r.1 = decide (x.1 = x.2.1) }
def s_r03_Make : FSpec := { args := [.val true (.pair .bool (.sl (.int .u32))), .val true (.pair .bool (.sl (.int .u32)))], res := [.val true (.pair (.pair .bool (.sl (.int .u32))) (.sl (.int .u32)))], shared := true, pre := fun (x : (Bool × (List Int)) × (Bool × (List Int)) × Unit) => (iv x.2.1 = 0 ∨ iv x.2.1 = 1) ∧ sh2 x.1.2 ∧ sh2 x.2.1.2, post := fun (x : (Bool × (List Int)) × (Bool × (List Int)) × Unit) (r : ((Bool × (List Int)) × (List Int)) × Unit) => r.1 = rc (divI x.1 x.2.1) }
def s_r02_FromInt : FSpec := { args := [.val false (.int .i64)], res := [.val true (.pair .bool (.sl (.int .u32)))], shared := true, pre := fun (x : Int × Unit) => True, post := fun (x : Int × Unit) (r : (Bool × (List Int)) × Unit) => r.1 = ic x.1 }
def s_r03_Norm : FSpec := { args := [.val true (.pair (.pair .bool (.sl (.int .u32))) (.sl (.int .u32)))], res := [.val true (.pair (.pair .bool (.sl (.int .u32))) (.sl (.int .u32)))], shared := true, pre := fun (x : ((Bool × (List Int)) × (List Int)) × Unit) => whole x.1, post := fun (x : ((Bool × (List Int)) × (List Int)) × Unit) (r : ((Bool × (List Int)) × (List Int)) × Unit) => r.1 = rc (rv x.1) }
def s_r02_Add : FSpec := { args := [.val true (.pair .bool (.sl (.int .u32))), .val true (.pair .bool (.sl (.int .u32)))], res := [.val true (.pair .bool (.sl (.int .u32)))], shared := true, pre := fun (x : (Bool × (List Int)) × (Bool × (List Int)) × Unit) => sh2 x.1.2 ∧ sh2 x.2.1.2, post := fun (x : (Bool × (List Int)) × (Bool × (List Int)) × Unit) (r : (Bool × (List Int)) × Unit) => r.1 = ic (iv x.1 + iv x.2.1) }
def s_r02_Mul : FSpec := { args := [.val true (.pair .bool (.sl (.int .u32))), .val true (.pair .bool (.sl (.int .u32)))], res := [.val true (.pair .bool (.sl (.int .u32)))], shared := true, pre := fun (x : (Bool × (List Int)) × (Bool × (List Int)) × Unit) => sh2 x.1.2 ∧ sh2 x.2.1.2, post := fun (x : (Bool × (List Int)) × (Bool × (List Int)) × Unit) (r : (Bool × (List Int)) × Unit) => r.1 = ic (iv x.1 * iv x.2.1) }
def s_r03_den : FSpec := { args := [.val true (.pair (.pair .bool (.sl (.int .u32))) (.sl (.int .u32)))], res := [.val true (.pair .bool (.sl (.int .u32)))], shared := true, pre := fun (x : ((Bool × (List Int)) × (List Int)) × Unit) => whole x.1, post := fun (x : ((Bool × (List Int)) × (List Int)) × Unit) (r : (Bool × (List Int)) × Unit) => r.1 = ic ((rv x.1).den : Int) }
def s_r02_Sign : FSpec := { args := [.val true (.pair .bool (.sl (.int .u32)))], res := [.val false (.int .i64)], shared := false, pre := fun (x : (Bool × (List Int)) × Unit) => sh1 x.1.2, post := fun (x : (Bool × (List Int)) × Unit) (r : Int × Unit) => r.1 = (iv x.1).sign }
def s_r19_Network : FSpec := { args := [.val false (.int .i64), .val false (.sl (.pair (.int .i64) (.int .i64)))], res := [.val false (.int .i64)], shared := false, pre := fun (x : Int × (List (Int × Int)) × Unit) => True, post := fun (x : Int × (List (Int × Int)) × Unit) (r : Int × Unit) => r.1 = netE x.1 x.2.1 }
def s_r18_Islands : FSpec := { args := [.val false (.int .i64), .val false (.sl (.pair (.int .i64) (.int .i64)))], res := [.val false (.sl (.int .i64))], shared := true, pre := fun (x : Int × (List (Int × Int)) × Unit) => netOk x.1 x.2.1, post := fun (x : Int × (List (Int × Int)) × Unit) (r : (List Int) × Unit) => r.1 = labs x.1 x.2.1 }
def s_r19_Bridges : FSpec := { args := [.val false (.int .i64), .val false (.sl (.pair (.int .i64) (.int .i64)))], res := [.val false (.sl (.int .i64))], shared := true, pre := fun (x : Int × (List (Int × Int)) × Unit) => netOk x.1 x.2.1 ∧ x.2.1.length ≤ 100000, post := fun (x : Int × (List (Int × Int)) × Unit) (r : (List Int) × Unit) => r.1 = bridgesF x.1 x.2.1 }
def s_r19_Forest : FSpec := { args := [.val false (.int .i64), .val false (.sl (.pair (.int .i64) (.int .i64)))], res := [.val false (.sl (.int .i64))], shared := true, pre := fun (x : Int × (List (Int × Int)) × Unit) => netOk x.1 x.2.1 ∧ x.2.1.length ≤ 100000, post := fun (x : Int × (List (Int × Int)) × Unit) (r : (List Int) × Unit) => r.1 = forestF x.1 x.2.1 }
def s_r19_Loop : FSpec := { args := [.val false (.int .i64), .val false (.sl (.pair (.int .i64) (.int .i64))), .val false (.int .i64)], res := [.val false (.sl (.pair (.int .i64) (.pair (.pair .bool (.sl (.int .u32))) (.sl (.int .u32))))), .val false (.int .i64)], shared := true, pre := fun (x : Int × (List (Int × Int)) × Int × Unit) => netOk x.1 x.2.1 ∧ x.2.1.length ≤ 20, post := fun (x : Int × (List (Int × Int)) × Int × Unit) (r : (List (Int × ((Bool × (List Int)) × (List Int)))) × Int × Unit) => r.1 = loopP x.1 x.2.1 x.2.2.1 ∧ r.2.1 = loopE x.1 x.2.1 x.2.2.1 }
def s_r18_Separated : FSpec := { args := [.val false (.int .i64), .val false (.sl (.pair (.int .i64) (.int .i64))), .val false (.sl (.int .i64))], res := [.val false .bool], shared := false, pre := fun (x : Int × (List (Int × Int)) × (List Int) × Unit) => netOk x.1 x.2.1 ∧ x.2.1.length ≤ 100000, post := fun (x : Int × (List (Int × Int)) × (List Int) × Unit) (r : Bool × Unit) => r.1 = sep x.1 x.2.1 (fun j => decide ((j : Int) ∈ x.2.2.1)) }
def s_topology_count : FSpec := { args := [.val false (.int .i64), .val false (.sl (.pair (.int .i64) (.int .i64))), .val false (.mp false (.int .i64) false .bool)], res := [.val false (.int .i64)], shared := false, pre := fun (x : Int × (List (Int × Int)) × (List (Int × Bool)) × Unit) => netOk x.1 x.2.1, post := fun (x : Int × (List (Int × Int)) × (List (Int × Bool)) × Unit) (r : Int × Unit) => r.1 = (cnt (labs x.1 (without x.2.1 fun j => mB x.2.2.1 (j : Int))) : Int) }
def s_r03_Canonical : FSpec := { args := [.val true (.pair (.pair .bool (.sl (.int .u32))) (.sl (.int .u32)))], res := [.val false .bool], shared := false, pre := fun (x : ((Bool × (List Int)) × (List Int)) × Unit) => whole x.1, post := fun (x : ((Bool × (List Int)) × (List Int)) × Unit) (r : Bool × Unit) => r.1 = decide (x.1 = rc (rv x.1)) }
def s_cmp_Less_int : FSpec := { args := [.val false (.int .i64), .val false (.int .i64)], res := [.val false .bool], shared := false, pre := fun (x : Int × Int × Unit) => True, post := fun (x : Int × Int × Unit) (r : Bool × Unit) => r.1 = decide (x.1 < x.2.1) }
def s_slices_isNaN_int : FSpec := { args := [.val false (.int .i64)], res := [.val false .bool], shared := false, pre := fun (x : Int × Unit) => True, post := fun (x : Int × Unit) (r : Bool × Unit) => r.1 = false }
def s_slices_IndexFunc_Sint_int : FSpec := { args := [.val false (.sl (.int .i64)), .fn [(false, (.int .i64))] false .bool], res := [.val false (.int .i64)], shared := false, pre := fun (x : (List Int) × (((Int × Unit) → Prop) × ((Int × Unit) → Bool)) × Unit) => ∀ i ∈ x.1, x.2.1.1 (i, ()), post := fun (x : (List Int) × (((Int × Unit) → Prop) × ((Int × Unit) → Bool)) × Unit) (r : Int × Unit) => r.1 = idxF (fun i => x.2.1.2 (i, ())) x.1 }
def s_integer_FromInt : FSpec := { args := [.val false (.int .i64)], res := [.val true (.pair .bool (.sl (.int .u32)))], shared := true, pre := fun (x : Int × Unit) => True, post := fun (x : Int × Unit) (r : (Bool × (List Int)) × Unit) => r.1 = ic x.1 }
def s_vector_merge : FSpec := { args := [.val false (.sl (.pair (.int .i64) (.pair (.pair .bool (.sl (.int .u32))) (.sl (.int .u32))))), .val false (.sl (.pair (.int .i64) (.pair (.pair .bool (.sl (.int .u32))) (.sl (.int .u32))))), .fn [(true, (.pair (.pair .bool (.sl (.int .u32))) (.sl (.int .u32)))), (true, (.pair (.pair .bool (.sl (.int .u32))) (.sl (.int .u32))))] true (.pair (.pair .bool (.sl (.int .u32))) (.sl (.int .u32)))], res := [.val false (.sl (.pair (.int .i64) (.pair (.pair .bool (.sl (.int .u32))) (.sl (.int .u32)))))], shared := true, pre := fun (x : (List (Int × ((Bool × (List Int)) × (List Int)))) × (List (Int × ((Bool × (List Int)) × (List Int)))) × (((((Bool × (List Int)) × (List Int)) × ((Bool × (List Int)) × (List Int)) × Unit) → Prop) × ((((Bool × (List Int)) × (List Int)) × ((Bool × (List Int)) × (List Int)) × Unit) → ((Bool × (List Int)) × (List Int)))) × Unit) => x.2.1 = [] ∧ x.1.length ≤ 100000 ∧ ∀ e ∈ x.1, x.2.2.1.1 (e.2, zr, ()) ∧ x.2.2.1.2 (e.2, zr, ()) = e.2 ∧ rsgn e.2 ≠ 0, post := fun (x : (List (Int × ((Bool × (List Int)) × (List Int)))) × (List (Int × ((Bool × (List Int)) × (List Int)))) × (((((Bool × (List Int)) × (List Int)) × ((Bool × (List Int)) × (List Int)) × Unit) → Prop) × ((((Bool × (List Int)) × (List Int)) × ((Bool × (List Int)) × (List Int)) × Unit) → ((Bool × (List Int)) × (List Int)))) × Unit) (r : (List (Int × ((Bool × (List Int)) × (List Int)))) × Unit) => r.1 = x.1 }
def s_vector_arrange : FSpec := { args := [.val false (.sl (.pair (.int .i64) (.pair (.pair .bool (.sl (.int .u32))) (.sl (.int .u32)))))], res := [.val false (.sl (.pair (.int .i64) (.pair (.pair .bool (.sl (.int .u32))) (.sl (.int .u32)))))], shared := true, pre := fun (x : (List (Int × ((Bool × (List Int)) × (List Int)))) × Unit) => x.1.length ≤ 20 ∧ (x.1.map (·.1)).Nodup, post := fun (x : (List (Int × ((Bool × (List Int)) × (List Int)))) × Unit) (r : (List (Int × ((Bool × (List Int)) × (List Int)))) × Unit) => r.1.Perm x.1 ∧ byIx r.1 }
def s_vector_Norm_1 : FSpec := { args := [.val true (.pair (.pair .bool (.sl (.int .u32))) (.sl (.int .u32))), .val true (.pair (.pair .bool (.sl (.int .u32))) (.sl (.int .u32)))], res := [.val true (.pair (.pair .bool (.sl (.int .u32))) (.sl (.int .u32)))], shared := true, pre := fun (x : ((Bool × (List Int)) × (List Int)) × ((Bool × (List Int)) × (List Int)) × Unit) => smallR x.1, post := fun (x : ((Bool × (List Int)) × (List Int)) × ((Bool × (List Int)) × (List Int)) × Unit) (r : ((Bool × (List Int)) × (List Int)) × Unit) => r.1 = rc (rv x.1) }
def s_rational_Norm : FSpec := { args := [.val true (.pair (.pair .bool (.sl (.int .u32))) (.sl (.int .u32)))], res := [.val true (.pair (.pair .bool (.sl (.int .u32))) (.sl (.int .u32)))], shared := true, pre := fun (x : ((Bool × (List Int)) × (List Int)) × Unit) => smallR x.1, post := fun (x : ((Bool × (List Int)) × (List Int)) × Unit) (r : ((Bool × (List Int)) × (List Int)) × Unit) => r.1 = rc (rv x.1) }
def s_r02_Norm : FSpec := { args := [.val true (.pair .bool (.sl (.int .u32)))], res := [.val true (.pair .bool (.sl (.int .u32)))], shared := true, pre := fun (x : (Bool × (List Int)) × Unit) => sh1 x.1.2, post := fun (x : (Bool × (List Int)) × Unit) (r : (Bool × (List Int)) × Unit) => r.1 = ic (iv x.1) }
def s_r02_GCD : FSpec := { args := [.val true (.pair .bool (.sl (.int .u32))), .val true (.pair .bool (.sl (.int .u32)))], res := [.val true (.pair .bool (.sl (.int .u32)))], shared := true, pre := fun (x : (Bool × (List Int)) × (Bool × (List Int)) × Unit) => False, post := fun (x : (Bool × (List Int)) × (Bool × (List Int)) × Unit) (r : (Bool × (List Int)) × Unit) => True }
def s_r02_DivMod : FSpec := { args := [.val true (.pair .bool (.sl (.int .u32))), .val true (.pair .bool (.sl (.int .u32)))], res := [.val true (.pair .bool (.sl (.int .u32))), .val true (.pair .bool (.sl (.int .u32))), .val false .bool], shared := true, pre := fun (x : (Bool × (List Int)) × (Bool × (List Int)) × Unit) => False, post := fun (x : (Bool × (List Int)) × (Bool × (List Int)) × Unit) (r : (Bool × (List Int)) × (Bool × (List Int)) × Bool × Unit) => True }
def s_r02_Neg : FSpec := { args := [.val true (.pair .bool (.sl (.int .u32)))], res := [.val true (.pair .bool (.sl (.int .u32)))], shared := true, pre := fun (x : (Bool × (List Int)) × Unit) => sh1 x.1.2, post := fun (x : (Bool × (List Int)) × Unit) (r : (Bool × (List Int)) × Unit) => r.1 = ic (- iv x.1) }
def s_r02_Make : FSpec := { args := [.val false .bool, .val false (.sl (.int .u32))], res := [.val true (.pair .bool (.sl (.int .u32)))], shared := true, pre := fun (x : Bool × (List Int) × Unit) => sh1 x.2.1, post := fun (x : Bool × (List Int) × Unit) (r : (Bool × (List Int)) × Unit) => r.1 = ic (iv (x.1, x.2.1)) }
def s_r01_FromUint64 : FSpec := { args := [.val false (.int .u64)], res := [.val false (.sl (.int .u32))], shared := true, pre := fun (x : Int × Unit) => True, post := fun (x : Int × Unit) (r : (List Int) × Unit) => r.1 = nc x.1.toNat }
def s_r01_Add : FSpec := { args := [.val false (.sl (.int .u32)), .val false (.sl (.int .u32))], res := [.val false (.sl (.int .u32))], shared := true, pre := fun (x : (List Int) × (List Int) × Unit) => sh1 x.1 ∧ sh1 x.2.1, post := fun (x : (List Int) × (List Int) × Unit) (r : (List Int) × Unit) => r.1 = nc (nv x.1 + nv x.2.1) }
def s_r01_Sub : FSpec := { args := [.val false (.sl (.int .u32)), .val false (.sl (.int .u32))], res := [.val false (.sl (.int .u32)), .val false .bool], shared := true, pre := fun (x : (List Int) × (List Int) × Unit) => sh1 x.1 ∧ sh1 x.2.1, post := fun (x : (List Int) × (List Int) × Unit) (r : (List Int) × Bool × Unit) => (nv x.1 < nv x.2.1 → r.1 = [] ∧ r.2.1 = false) ∧ (nv x.2.1 ≤ nv x.1 → r.1 = nc (nv x.1 - nv x.2.1) ∧ r.2.1 = true) }
def s_r01_Mul : FSpec := { args := [.val false (.sl (.int .u32)), .val false (.sl (.int .u32))], res := [.val false (.sl (.int .u32))], shared := true, pre := fun (x : (List Int) × (List Int) × Unit) => sh1 x.1 ∧ sh1 x.2.1, post := fun (x : (List Int) × (List Int) × Unit) (r : (List Int) × Unit) => r.1 = nc (nv x.1 * nv x.2.1) }
def s_r19_path : FSpec := { args := [.val false (.sl (.pair (.int .i64) (.int .i64))), .val false (.sl (.int .i64)), .val false (.int .i64), .val false (.int .i64), .val false (.sl (.int .i64))], res := [.own (.pair (.int .i64) (.pair (.pair .bool (.sl (.int .u32))) (.sl (.int .u32)))) 49, .val false .bool], shared := true, pre := fun (x : (List (Int × Int)) × (List Int) × Int × Int × (List Int) × Unit) => x.2.1.Nodup ∧ (∀ i ∈ x.2.1, 0 ≤ i ∧ i < (x.1.length : Int)) ∧ x.2.2.2.2.1.length + (x.2.1.filter fun i => decide (i ∉ x.2.2.2.2.1)).length ≤ 1000, post := fun (x : (List (Int × Int)) × (List Int) × Int × Int × (List Int) × Unit) (r : (List (Int × ((Bool × (List Int)) × (List Int)))) × Bool × Unit) => (r.2.1 = true → ∃ p, free x.1 x.2.1 x.2.2.2.2.1 x.2.2.1 x.2.2.2.1 p ∧ r.1 = (p.map ent).reverse) ∧ (r.2.1 = false → ∀ p, ¬ free x.1 x.2.1 x.2.2.2.2.1 x.2.2.1 x.2.2.2.1 p) }
def s_r19_pathn (n : Nat) : FSpec := { args := [.val false (.sl (.pair (.int .i64) (.int .i64))), .val false (.sl (.int .i64)), .val false (.int .i64), .val false (.int .i64), .val false (.sl (.int .i64))], res := [.own (.pair (.int .i64) (.pair (.pair .bool (.sl (.int .u32))) (.sl (.int .u32)))) 49, .val false .bool], shared := true, pre := fun (x : (List (Int × Int)) × (List Int) × Int × Int × (List Int) × Unit) => (x.2.1.Nodup ∧ (∀ i ∈ x.2.1, 0 ≤ i ∧ i < (x.1.length : Int)) ∧ x.2.2.2.2.1.length + (x.2.1.filter fun i => decide (i ∉ x.2.2.2.2.1)).length ≤ 1000) ∧ ((x.2.1.filter fun i => decide (i ∉ x.2.2.2.2.1)).length : Nat) < n, post := fun (x : (List (Int × Int)) × (List Int) × Int × Int × (List Int) × Unit) (r : (List (Int × ((Bool × (List Int)) × (List Int)))) × Bool × Unit) => (r.2.1 = true → ∃ p, free x.1 x.2.1 x.2.2.2.2.1 x.2.2.1 x.2.2.2.1 p ∧ r.1 = (p.map ent).reverse) ∧ (r.2.1 = false → ∀ p, ¬ free x.1 x.2.1 x.2.2.2.2.1 x.2.2.1 x.2.2.2.1 p) }
def s_r06_Norm : FSpec := { args := [.val false (.sl (.pair (.int .i64) (.pair (.pair .bool (.sl (.int .u32))) (.sl (.int .u32)))))], res := [.val false (.sl (.pair (.int .i64) (.pair (.pair .bool (.sl (.int .u32))) (.sl (.int .u32)))))], shared := true, pre := fun (x : (List (Int × ((Bool × (List Int)) × (List Int)))) × Unit) => x.1.length ≤ 1000 ∧ (x.1.map (·.1)).Nodup ∧ pm x.1, post := fun (x : (List (Int × ((Bool × (List Int)) × (List Int)))) × Unit) (r : (List (Int × ((Bool × (List Int)) × (List Int)))) × Unit) => r.1.Perm x.1 ∧ byIx r.1 }
def s_r18_has : FSpec := { args := [.val false (.sl (.int .i64)), .val false (.int .i64)], res := [.val false .bool], shared := false, pre := fun (x : (List Int) × Int × Unit) => True, post := fun (x : (List Int) × Int × Unit) (r : Bool × Unit) => r.1 = decide (x.2.1 ∈ x.1) }
def s_r18_count : FSpec := { args := [.val false (.sl (.int .i64))], res := [.val false (.int .i64)], shared := false, pre := fun (x : (List Int) × Unit) => True, post := fun (x : (List Int) × Unit) (r : Int × Unit) => r.1 = (cnt x.1 : Int) }
def s_cmp_isNaN_int : FSpec := { args := [.val false (.int .i64)], res := [.val false .bool], shared := false, pre := fun (x : Int × Unit) => True, post := fun (x : Int × Unit) (r : Bool × Unit) => r.1 = false }
def s_integer_signed : FSpec := { args := [.val false .bool, .val false (.sl (.int .u32))], res := [.val true (.pair .bool (.sl (.int .u32)))], shared := true, pre := fun (x : Bool × (List Int) × Unit) => True, post := fun (x : Bool × (List Int) × Unit) (r : (Bool × (List Int)) × Unit) => r.1 = (x.1 && decide (x.2.1 ≠ []), x.2.1) }
def s_natural_FromUint64 : FSpec := { args := [.val false (.int .u64)], res := [.val false (.sl (.int .u32))], shared := true, pre := fun (x : Int × Unit) => True, post := fun (x : Int × Unit) (r : (List Int) × Unit) => r.1 = nc x.1.toNat }
def s_rational_Sign : FSpec := { args := [.val true (.pair (.pair .bool (.sl (.int .u32))) (.sl (.int .u32)))], res := [.val false (.int .i64)], shared := false, pre := fun (x : ((Bool × (List Int)) × (List Int)) × Unit) => True, post := fun (x : ((Bool × (List Int)) × (List Int)) × Unit) (r : Int × Unit) => r.1 = rsgn x.1 }
def s_vector_ascending : FSpec := { args := [.val false (.sl (.pair (.int .i64) (.pair (.pair .bool (.sl (.int .u32))) (.sl (.int .u32)))))], res := [.val false .bool], shared := false, pre := fun (x : (List (Int × ((Bool × (List Int)) × (List Int)))) × Unit) => True, post := fun (x : (List (Int × ((Bool × (List Int)) × (List Int)))) × Unit) (r : Bool × Unit) => r.1 = decide (byIx x.1) }
def s_slices_SortStableFunc_SEntry_Entry : FSpec := { args := [.row (.pair (.int .i64) (.pair (.pair .bool (.sl (.int .u32))) (.sl (.int .u32)))) 49, .fn [(true, (.pair (.int .i64) (.pair (.pair .bool (.sl (.int .u32))) (.sl (.int .u32))))), (true, (.pair (.int .i64) (.pair (.pair .bool (.sl (.int .u32))) (.sl (.int .u32)))))] false (.int .i64)], res := [], shared := true, pre := fun (x : (List (Int × ((Bool × (List Int)) × (List Int)))) × ((((Int × ((Bool × (List Int)) × (List Int))) × (Int × ((Bool × (List Int)) × (List Int))) × Unit) → Prop) × (((Int × ((Bool × (List Int)) × (List Int))) × (Int × ((Bool × (List Int)) × (List Int))) × Unit) → Int)) × Unit) => okCmp x.2.1.1 x.2.1.2 ∧ x.1.length ≤ 20, post := fun (x : (List (Int × ((Bool × (List Int)) × (List Int)))) × ((((Int × ((Bool × (List Int)) × (List Int))) × (Int × ((Bool × (List Int)) × (List Int))) × Unit) → Prop) × (((Int × ((Bool × (List Int)) × (List Int))) × (Int × ((Bool × (List Int)) × (List Int))) × Unit) → Int)) × Unit) (r : Unit) => True, mpost := fun (x : (List (Int × ((Bool × (List Int)) × (List Int)))) × ((((Int × ((Bool × (List Int)) × (List Int))) × (Int × ((Bool × (List Int)) × (List Int))) × Unit) → Prop) × (((Int × ((Bool × (List Int)) × (List Int))) × (Int × ((Bool × (List Int)) × (List Int))) × Unit) → Int)) × Unit) (r : Unit) (o : (List (Int × ((Bool × (List Int)) × (List Int)))) × Unit) => o.1.Perm x.1 ∧ srtd x.2.1.2 o.1 }
def s_vector_byIndex : FSpec := { args := [.val true (.pair (.int .i64) (.pair (.pair .bool (.sl (.int .u32))) (.sl (.int .u32)))), .val true (.pair (.int .i64) (.pair (.pair .bool (.sl (.int .u32))) (.sl (.int .u32))))], res := [.val false (.int .i64)], shared := false, pre := fun (x : (Int × ((Bool × (List Int)) × (List Int))) × (Int × ((Bool × (List Int)) × (List Int))) × Unit) => True, post := fun (x : (Int × ((Bool × (List Int)) × (List Int))) × (Int × ((Bool × (List Int)) × (List Int))) × Unit) (r : Int × Unit) => r.1 = cmpI x.1.1 x.2.1.1 }
def s_rational_Add : FSpec := { args := [.val true (.pair (.pair .bool (.sl (.int .u32))) (.sl (.int .u32))), .val true (.pair (.pair .bool (.sl (.int .u32))) (.sl (.int .u32)))], res := [.val true (.pair (.pair .bool (.sl (.int .u32))) (.sl (.int .u32)))], shared := true, pre := fun (x : ((Bool × (List Int)) × (List Int)) × ((Bool × (List Int)) × (List Int)) × Unit) => False, post := fun (x : ((Bool × (List Int)) × (List Int)) × ((Bool × (List Int)) × (List Int)) × Unit) (r : ((Bool × (List Int)) × (List Int)) × Unit) => True }
def s_rational_small : FSpec := { args := [.val true (.pair (.pair .bool (.sl (.int .u32))) (.sl (.int .u32)))], res := [.val false (.int .i64), .val false (.int .i64), .val false .bool], shared := false, pre := fun (x : ((Bool × (List Int)) × (List Int)) × Unit) => True, post := fun (x : ((Bool × (List Int)) × (List Int)) × Unit) (r : Int × Int × Bool × Unit) => (smallR x.1 → r.1 = numS x.1 ∧ r.2.1 = denS x.1 ∧ r.2.2.1 = true) ∧ (¬ smallR x.1 → r.2.2.1 = false) }
def s_rational_quotient : FSpec := { args := [.val false (.int .i64), .val false (.int .i64)], res := [.val true (.pair (.pair .bool (.sl (.int .u32))) (.sl (.int .u32)))], shared := true, pre := fun (x : Int × Int × Unit) => 0 < x.2.1 ∧ x.2.1 ≤ 4611686018427387904 ∧ -4611686018427387904 ≤ x.1 ∧ x.1 ≤ 4611686018427387904, post := fun (x : Int × Int × Unit) (r : ((Bool × (List Int)) × (List Int)) × Unit) => r.1 = rc (mkRat x.1 x.2.1.toNat) }
def s_rational_lowest : FSpec := { args := [.val true (.pair .bool (.sl (.int .u32))), .val false (.sl (.int .u32))], res := [.val true (.pair (.pair .bool (.sl (.int .u32))) (.sl (.int .u32)))], shared := true, pre := fun (x : (Bool × (List Int)) × (List Int) × Unit) => False, post := fun (x : (Bool × (List Int)) × (List Int) × Unit) (r : ((Bool × (List Int)) × (List Int)) × Unit) => True }
def s_rational_parts : FSpec := { args := [.val true (.pair (.pair .bool (.sl (.int .u32))) (.sl (.int .u32)))], res := [.val true (.pair .bool (.sl (.int .u32))), .val false (.sl (.int .u32))], shared := true, pre := fun (x : ((Bool × (List Int)) × (List Int)) × Unit) => True, post := fun (x : ((Bool × (List Int)) × (List Int)) × Unit) (r : (Bool × (List Int)) × (List Int) × Unit) => (nv x.1.2 = 0 → r.1 = zi ∧ r.2.1 = [1]) ∧ (nv x.1.2 ≠ 0 → r.1 = x.1.1 ∧ r.2.1 = x.1.2) }
def s_r01_Trim : FSpec := { args := [.val false (.sl (.int .u32))], res := [.val false (.sl (.int .u32))], shared := true, pre := fun (x : (List Int) × Unit) => x.1.length ≤ 4000000000, post := fun (x : (List Int) × Unit) (r : (List Int) × Unit) => r.1 = nc (nv x.1) }
def s_r01_Compare : FSpec := { args := [.val false (.sl (.int .u32)), .val false (.sl (.int .u32))], res := [.val false (.int .i64)], shared := false, pre := fun (x : (List Int) × (List Int) × Unit) => sh1 x.1 ∧ sh1 x.2.1, post := fun (x : (List Int) × (List Int) × Unit) (r : Int × Unit) => r.1 = ncmp (nv x.1) (nv x.2.1) }
def s_r06_Indices : FSpec := { args := [.val false (.sl (.sl (.pair (.int .i64) (.pair (.pair .bool (.sl (.int .u32))) (.sl (.int .u32))))))], res := [.val false (.sl (.int .i64))], shared := true, pre := fun (x : (List (List (Int × ((Bool × (List Int)) × (List Int))))) × Unit) => x.1.length ≤ 4 ∧ ∀ v ∈ x.1, v.length ≤ 1000, post := fun (x : (List (List (Int × ((Bool × (List Int)) × (List Int))))) × Unit) (r : (List Int) × Unit) => r.1.Pairwise (· < ·) ∧ ∀ i, i ∈ r.1 ↔ ∃ v ∈ x.1, ∃ e ∈ v, e.1 = i }
def s_natural_cut : FSpec := { args := [.val false (.sl (.int .u32))], res := [.val false (.sl (.int .u32))], shared := true, pre := fun (x : (List Int) × Unit) => True, post := fun (x : (List Int) × Unit) (r : (List Int) × Unit) => r.1 = nc (nv x.1) }
def s_integer_Sign : FSpec := { args := [.val true (.pair .bool (.sl (.int .u32)))], res := [.val false (.int .i64)], shared := false, pre := fun (x : (Bool × (List Int)) × Unit) => True, post := fun (x : (Bool × (List Int)) × Unit) (r : Int × Unit) => r.1 = (iv x.1).sign }
def s_slices_stableCmpFunc_Entry : FSpec := { args := [.row (.pair (.int .i64) (.pair (.pair .bool (.sl (.int .u32))) (.sl (.int .u32)))) 49, .val false (.int .i64), .fn [(true, (.pair (.int .i64) (.pair (.pair .bool (.sl (.int .u32))) (.sl (.int .u32))))), (true, (.pair (.int .i64) (.pair (.pair .bool (.sl (.int .u32))) (.sl (.int .u32)))))] false (.int .i64)], res := [], shared := true, pre := fun (x : (List (Int × ((Bool × (List Int)) × (List Int)))) × Int × ((((Int × ((Bool × (List Int)) × (List Int))) × (Int × ((Bool × (List Int)) × (List Int))) × Unit) → Prop) × (((Int × ((Bool × (List Int)) × (List Int))) × (Int × ((Bool × (List Int)) × (List Int))) × Unit) → Int)) × Unit) => okCmp x.2.2.1.1 x.2.2.1.2 ∧ x.2.1 = (x.1.length : Int) ∧ x.1.length ≤ 20, post := fun (x : (List (Int × ((Bool × (List Int)) × (List Int)))) × Int × ((((Int × ((Bool × (List Int)) × (List Int))) × (Int × ((Bool × (List Int)) × (List Int))) × Unit) → Prop) × (((Int × ((Bool × (List Int)) × (List Int))) × (Int × ((Bool × (List Int)) × (List Int))) × Unit) → Int)) × Unit) (r : Unit) => True, mpost := fun (x : (List (Int × ((Bool × (List Int)) × (List Int)))) × Int × ((((Int × ((Bool × (List Int)) × (List Int))) × (Int × ((Bool × (List Int)) × (List Int))) × Unit) → Prop) × (((Int × ((Bool × (List Int)) × (List Int))) × (Int × ((Bool × (List Int)) × (List Int))) × Unit) → Int)) × Unit) (r : Unit) (o : (List (Int × ((Bool × (List Int)) × (List Int)))) × Unit) => o.1.Perm x.1 ∧ srtd x.2.2.1.2 o.1 }
def s_cmp_Compare_int : FSpec := { args := [.val false (.int .i64), .val false (.int .i64)], res := [.val false (.int .i64)], shared := false, pre := fun (x : Int × Int × Unit) => True, post := fun (x : Int × Int × Unit) (r : Int × Unit) => r.1 = cmpI x.1 x.2.1 }
def s_natural_Compare : FSpec := { args := [.val false (.sl (.int .u32)), .val false (.sl (.int .u32))], res := [.val false (.int .i64)], shared := false, pre := fun (x : (List Int) × (List Int) × Unit) => True, post := fun (x : (List Int) × (List Int) × Unit) (r : Int × Unit) => r.1 = ncmp (nv x.1) (nv x.2.1) }
def s_natural_Uint64 : FSpec := { args := [.val false (.sl (.int .u32))], res := [.val false (.int .u64), .val false .bool], shared := false, pre := fun (x : (List Int) × Unit) => True, post := fun (x : (List Int) × Unit) (r : Int × Bool × Unit) => (nv x.1 < 18446744073709551616 → r.1 = (nv x.1 : Int) ∧ r.2.1 = true) ∧ (18446744073709551616 ≤ nv x.1 → r.2.1 = false) }
def s_slices_insertionSortCmpFunc_Entry : FSpec := { args := [.row (.pair (.int .i64) (.pair (.pair .bool (.sl (.int .u32))) (.sl (.int .u32)))) 49, .val false (.int .i64), .val false (.int .i64), .fn [(true, (.pair (.int .i64) (.pair (.pair .bool (.sl (.int .u32))) (.sl (.int .u32))))), (true, (.pair (.int .i64) (.pair (.pair .bool (.sl (.int .u32))) (.sl (.int .u32)))))] false (.int .i64)], res := [], shared := true, pre := fun (x : (List (Int × ((Bool × (List Int)) × (List Int)))) × Int × Int × ((((Int × ((Bool × (List Int)) × (List Int))) × (Int × ((Bool × (List Int)) × (List Int))) × Unit) → Prop) × (((Int × ((Bool × (List Int)) × (List Int))) × (Int × ((Bool × (List Int)) × (List Int))) × Unit) → Int)) × Unit) => okCmp x.2.2.2.1.1 x.2.2.2.1.2 ∧ 0 ≤ x.2.1 ∧ x.2.1 ≤ x.2.2.1 ∧ x.2.2.1 ≤ (x.1.length : Int) ∧ x.1.length ≤ 100000, post := fun (x : (List (Int × ((Bool × (List Int)) × (List Int)))) × Int × Int × ((((Int × ((Bool × (List Int)) × (List Int))) × (Int × ((Bool × (List Int)) × (List Int))) × Unit) → Prop) × (((Int × ((Bool × (List Int)) × (List Int))) × (Int × ((Bool × (List Int)) × (List Int))) × Unit) → Int)) × Unit) (r : Unit) => True, mpost := fun (x : (List (Int × ((Bool × (List Int)) × (List Int)))) × Int × Int × ((((Int × ((Bool × (List Int)) × (List Int))) × (Int × ((Bool × (List Int)) × (List Int))) × Unit) → Prop) × (((Int × ((Bool × (List Int)) × (List Int))) × (Int × ((Bool × (List Int)) × (List Int))) × Unit) → Int)) × Unit) (r : Unit) (o : (List (Int × ((Bool × (List Int)) × (List Int)))) × Unit) => o.1.Perm x.1 ∧ o.1.take x.2.1.toNat = x.1.take x.2.1.toNat ∧ o.1.drop x.2.2.1.toNat = x.1.drop x.2.2.1.toNat ∧ srtd x.2.2.2.1.2 ((o.1.drop x.2.1.toNat).take (x.2.2.1.toNat - x.2.1.toNat)) }
def s_slices_symMergeCmpFunc_Entry : FSpec := { args := [.row (.pair (.int .i64) (.pair (.pair .bool (.sl (.int .u32))) (.sl (.int .u32)))) 49, .val false (.int .i64), .val false (.int .i64), .val false (.int .i64), .fn [(true, (.pair (.int .i64) (.pair (.pair .bool (.sl (.int .u32))) (.sl (.int .u32))))), (true, (.pair (.int .i64) (.pair (.pair .bool (.sl (.int .u32))) (.sl (.int .u32)))))] false (.int .i64)], res := [], shared := true, pre := fun (x : (List (Int × ((Bool × (List Int)) × (List Int)))) × Int × Int × Int × ((((Int × ((Bool × (List Int)) × (List Int))) × (Int × ((Bool × (List Int)) × (List Int))) × Unit) → Prop) × (((Int × ((Bool × (List Int)) × (List Int))) × (Int × ((Bool × (List Int)) × (List Int))) × Unit) → Int)) × Unit) => False, post := fun (x : (List (Int × ((Bool × (List Int)) × (List Int)))) × Int × Int × Int × ((((Int × ((Bool × (List Int)) × (List Int))) × (Int × ((Bool × (List Int)) × (List Int))) × Unit) → Prop) × (((Int × ((Bool × (List Int)) × (List Int))) × (Int × ((Bool × (List Int)) × (List Int))) × Unit) → Int)) × Unit) (r : Unit) => True }
def s_natural_word : FSpec := { args := [.val false (.sl (.int .u32))], res := [.val false (.int .u64)], shared := false, pre := fun (x : (List Int) × Unit) => x.1.length ≤ 2, post := fun (x : (List Int) × Unit) (r : Int × Unit) => r.1 = (nv x.1 : Int) }
end Go.Proofs.YtppgpdigopffbaaGreat
namespace Go.Proofs.YtppgpdigopffbaaGreat
open Go.Vc Go.Gw
def an_topology_check : An := { loop := [(4, ⟨[0, 13, 14], [], [(15, false, [.val (.int .i64)])], [], []⟩)] }
def sp_topology_check : Specs := []
def an_topology_separate : An := { loop := [(3, ⟨[3, 8], [], [(9, false, [.val (.int .i64)])], [], [(0, .row (.int .i64) 3)]⟩)] }
def sp_topology_separate : Specs := []
def an_topology_sets_least : An := { loop := [(1, ⟨[0], [], [(1, false, [.val (.int .i64)])], [], [(0, .row (.int .i64) 3)]⟩)] }
def sp_topology_sets_least : Specs := []
def an_topology_sets_join : An := { plan := [(1, [2], [3, 7], false, (.p 0 (.p 1 (.q 2 (.p 4 (.p 5 (.or 3 (.e 6 (.e 7 (.p 8 (.p 9 .done)))) (.e 6 (.e 3 (.e 7 (.p 8 (.p 9 .done))))))))))))] }
def sp_topology_sets_join : Specs := [(34, s_topology_sets_least)]
def vc_topology_check : dens s_topology_check.args → Prop := fun (x : Int × List (Int × Int) × Unit) => (sel (decide (x.fst < (0 : Int))) true (decide ((16384 : Int) < x.fst)) = true → (3 : Int) = netE x.fst x.snd.fst) ∧ (sel (decide (x.fst < (0 : Int))) true (decide ((16384 : Int) < x.fst)) = false → ∃ (I : Int × Unit → Prop), ∃ (μ : Int × Unit → Nat), I ((0 : Int), ()) ∧ ∀ (p : Int × Unit), In64 p.fst ∧ True → I p → (decide (p.fst < (↑(List.length x.snd.fst) : Int)) = true → ((0 : Int) ≤ p.fst ∧ p.fst < (↑(List.length x.snd.fst) : Int)) ∧ ((0 : Int) ≤ (0 : Int) ∧ (0 : Int) < (↑(2 : Nat) : Int)) ∧ (decide ((gx ((0 : Int), (0 : Int)) x.snd.fst p.fst).fst < (0 : Int)) = false → (0 : Int) ≤ (0 : Int) ∧ (0 : Int) < (↑(2 : Nat) : Int)) ∧ (sel (decide ((gx ((0 : Int), (0 : Int)) x.snd.fst p.fst).fst < (0 : Int))) true (decide (x.fst ≤ (gx ((0 : Int), (0 : Int)) x.snd.fst p.fst).fst)) = false → (0 : Int) ≤ (1 : Int) ∧ (1 : Int) < (↑(2 : Nat) : Int)) ∧ (sel (sel (decide ((gx ((0 : Int), (0 : Int)) x.snd.fst p.fst).fst < (0 : Int))) true (decide (x.fst ≤ (gx ((0 : Int), (0 : Int)) x.snd.fst p.fst).fst))) true (decide ((gx ((0 : Int), (0 : Int)) x.snd.fst p.fst).snd < (0 : Int))) = false → (0 : Int) ≤ (1 : Int) ∧ (1 : Int) < (↑(2 : Nat) : Int)) ∧ (sel (sel (sel (decide ((gx ((0 : Int), (0 : Int)) x.snd.fst p.fst).fst < (0 : Int))) true (decide (x.fst ≤ (gx ((0 : Int), (0 : Int)) x.snd.fst p.fst).fst))) true (decide ((gx ((0 : Int), (0 : Int)) x.snd.fst p.fst).snd < (0 : Int)))) true (decide (x.fst ≤ (gx ((0 : Int), (0 : Int)) x.snd.fst p.fst).snd)) = true → (12 : Int) = netE x.fst x.snd.fst) ∧ (sel (sel (sel (decide ((gx ((0 : Int), (0 : Int)) x.snd.fst p.fst).fst < (0 : Int))) true (decide (x.fst ≤ (gx ((0 : Int), (0 : Int)) x.snd.fst p.fst).fst))) true (decide ((gx ((0 : Int), (0 : Int)) x.snd.fst p.fst).snd < (0 : Int)))) true (decide (x.fst ≤ (gx ((0 : Int), (0 : Int)) x.snd.fst p.fst).snd)) = false → I (IntKind.i64.wrap (p.fst + (1 : Int)), ()) ∧ μ (IntKind.i64.wrap (p.fst + (1 : Int)), ()) < μ p)) ∧ (decide (p.fst < (↑(List.length x.snd.fst) : Int)) = false → (0 : Int) = netE x.fst x.snd.fst))
theorem vc_topology_check_eq (x : dens s_topology_check.args) : semF ⟨Tryz.prog, tys⟩ sp_topology_check an_topology_check s_topology_check Tryz.f30.results.toList (Tryz.f30.body.getD .skip) x = vc_topology_check x := by kernel_rfl
theorem m_topology_check (hsp : SpOk Tryz.prog sp_topology_check) (h : ∀ x, awf s_topology_check.args x → s_topology_check.pre x → vc_topology_check x) : Meets Tryz.prog 30 s_topology_check := meets_vc (cx := ⟨Tryz.prog, tys⟩) (sp := sp_topology_check) (an := an_topology_check) (s := s_topology_check) (fn := Tryz.f30) (c := Tryz.f30.body.getD .skip) Tryz.func30 (by kernel_rfl) (Nat.le_of_ble_eq_true (by kernel_rfl)) (by kernel_rfl) tys_ok hsp vc_topology_check_eq h
def vc_topology_separate : dens s_topology_separate.args → Prop := fun (x : Int × Unit) => ((0 : Int) ≤ x.fst ∧ x.fst ≤ x.fst ∧ (↑(8 : Nat) : Int) * x.fst ≤ (281474976710656 : Int) ∧ x.fst ≤ (9223372036854775807 : Int)) ∧ ∃ (I : Int × List Int × Unit → Prop), ∃ (μ : Int × List Int × Unit → Nat), I ((0 : Int), List.replicate (Int.toNat x.fst) (0 : Int), ()) ∧ ∀ (p : Int × List Int × Unit), In64 p.fst ∧ WfI p.snd.fst ∧ True → I p → (decide (p.fst < (↑(List.replicate (Int.toNat x.fst) (0 : Int)).length : Int)) = true → ((0 : Int) ≤ p.fst ∧ p.fst < (↑(List.length p.snd.fst) : Int)) ∧ I (IntKind.i64.wrap (p.fst + (1 : Int)), List.set p.snd.fst (Int.toNat p.fst) p.fst, ()) ∧ μ (IntKind.i64.wrap (p.fst + (1 : Int)), List.set p.snd.fst (Int.toNat p.fst) p.fst, ()) < μ p) ∧ (decide (p.fst < (↑(List.replicate (Int.toNat x.fst) (0 : Int)).length : Int)) = false → p.snd.fst = idL x.fst)
theorem vc_topology_separate_eq (x : dens s_topology_separate.args) : semF ⟨Tryz.prog, tys⟩ sp_topology_separate an_topology_separate s_topology_separate Tryz.f32.results.toList (Tryz.f32.body.getD .skip) x = vc_topology_separate x := by kernel_rfl
theorem m_topology_separate (hsp : SpOk Tryz.prog sp_topology_separate) (h : ∀ x, awf s_topology_separate.args x → s_topology_separate.pre x → vc_topology_separate x) : Meets Tryz.prog 32 s_topology_separate := meets_vc (cx := ⟨Tryz.prog, tys⟩) (sp := sp_topology_separate) (an := an_topology_separate) (s := s_topology_separate) (fn := Tryz.f32) (c := Tryz.f32.body.getD .skip) Tryz.func32 (by kernel_rfl) (Nat.le_of_ble_eq_true (by kernel_rfl)) (by kernel_rfl) tys_ok hsp vc_topology_separate_eq h
def vc_topology_sets_least : dens s_topology_sets_least.args → Prop := fun (x : List Int × Int × Unit) => ∃ (I : Int × List Int × Unit → Prop), ∃ (μ : Int × List Int × Unit → Nat), I (x.snd.fst, x.fst, ()) ∧ ∀ (p : Int × List Int × Unit), In64 p.fst ∧ WfI p.snd.fst ∧ True → I p → ((0 : Int) ≤ p.fst ∧ p.fst < (↑(List.length p.snd.fst) : Int)) ∧ (decide (List.getD p.snd.fst (Int.toNat p.fst) (0 : Int) ≠ p.fst) = true → ((0 : Int) ≤ p.fst ∧ p.fst < (↑(List.length p.snd.fst) : Int)) ∧ ((0 : Int) ≤ List.getD p.snd.fst (Int.toNat p.fst) (0 : Int) ∧ List.getD p.snd.fst (Int.toNat p.fst) (0 : Int) < (↑(List.length p.snd.fst) : Int)) ∧ ((0 : Int) ≤ p.fst ∧ p.fst < (↑(List.length p.snd.fst) : Int)) ∧ ((0 : Int) ≤ p.fst ∧ p.fst < (↑(List.set p.snd.fst (Int.toNat p.fst) (List.getD p.snd.fst (List.getD p.snd.fst (Int.toNat p.fst) (0 : Int)).toNat (0 : Int))).length : Int)) ∧ I ((List.set p.snd.fst (Int.toNat p.fst) (List.getD p.snd.fst (List.getD p.snd.fst (Int.toNat p.fst) (0 : Int)).toNat (0 : Int))).getD (Int.toNat p.fst) (0 : Int), List.set p.snd.fst (Int.toNat p.fst) (List.getD p.snd.fst (List.getD p.snd.fst (Int.toNat p.fst) (0 : Int)).toNat (0 : Int)), ()) ∧ μ ((List.set p.snd.fst (Int.toNat p.fst) (List.getD p.snd.fst (List.getD p.snd.fst (Int.toNat p.fst) (0 : Int)).toNat (0 : Int))).getD (Int.toNat p.fst) (0 : Int), List.set p.snd.fst (Int.toNat p.fst) (List.getD p.snd.fst (List.getD p.snd.fst (Int.toNat p.fst) (0 : Int)).toNat (0 : Int)), ()) < μ p) ∧ (decide (List.getD p.snd.fst (Int.toNat p.fst) (0 : Int) ≠ p.fst) = false → p.fst = root x.fst x.snd.fst ∧ UF p.snd.fst ∧ List.length p.snd.fst = x.fst.length ∧ ∀ (i : Int), (0 : Int) ≤ i → i < (↑x.fst.length : Int) → root p.snd.fst i = root x.fst i)
theorem vc_topology_sets_least_eq (x : dens s_topology_sets_least.args) : semF ⟨Tryz.prog, tys⟩ sp_topology_sets_least an_topology_sets_least s_topology_sets_least Tryz.f34.results.toList (Tryz.f34.body.getD .skip) x = vc_topology_sets_least x := by kernel_rfl
theorem m_topology_sets_least (hsp : SpOk Tryz.prog sp_topology_sets_least) (h : ∀ x, awf s_topology_sets_least.args x → s_topology_sets_least.pre x → vc_topology_sets_least x) : Meets Tryz.prog 34 s_topology_sets_least := meets_vc (cx := ⟨Tryz.prog, tys⟩) (sp := sp_topology_sets_least) (an := an_topology_sets_least) (s := s_topology_sets_least) (fn := Tryz.f34) (c := Tryz.f34.body.getD .skip) Tryz.func34 (by kernel_rfl) (Nat.le_of_ble_eq_true (by kernel_rfl)) (by kernel_rfl) tys_ok hsp vc_topology_sets_least_eq h
def vc_topology_sets_join : dens s_topology_sets_join.args → Prop := fun (x : List Int × (Int × Int) × Unit) => ((0 : Int) ≤ (0 : Int) ∧ (0 : Int) < (↑(2 : Nat) : Int)) ∧ ((0 : Int) ≤ (1 : Int) ∧ (1 : Int) < (↑(2 : Nat) : Int)) ∧ ((UF x.fst ∧ (0 : Int) ≤ x.snd.fst.fst ∧ x.snd.fst.fst < (↑(List.length x.fst) : Int) ∧ List.length x.fst ≤ (16384 : Nat)) ∧ ∀ (r : Int × Unit) (o : List Int × Unit), In64 r.fst ∧ True → (Ty.int IntKind.i64).sl.wf o.fst ∧ True → r.fst = root x.fst x.snd.fst.fst → (UF o.fst ∧ o.fst.length = List.length x.fst ∧ ∀ (i : Int), (0 : Int) ≤ i → i < (↑(List.length x.fst) : Int) → root o.fst i = root x.fst i) → (UF o.fst ∧ (0 : Int) ≤ x.snd.fst.snd ∧ x.snd.fst.snd < (↑o.fst.length : Int) ∧ o.fst.length ≤ (16384 : Nat)) ∧ ∀ (r_1 : Int × Unit) (o_1 : List Int × Unit), In64 r_1.fst ∧ True → (Ty.int IntKind.i64).sl.wf o_1.fst ∧ True → r_1.fst = root o.fst x.snd.fst.snd → (UF o_1.fst ∧ o_1.fst.length = o.fst.length ∧ ∀ (i : Int), (0 : Int) ≤ i → i < (↑o.fst.length : Int) → root o_1.fst i = root o.fst i) → ((0 : Int) ≤ Max.max r.fst r_1.fst ∧ Max.max r.fst r_1.fst < (↑o_1.fst.length : Int)) ∧ decide (r.fst ≠ r_1.fst) = decide (root x.fst x.snd.fst.fst ≠ root x.fst x.snd.fst.snd) ∧ UF (o_1.fst.set (Max.max r.fst r_1.fst).toNat (Min.min r.fst r_1.fst)) ∧ (o_1.fst.set (Max.max r.fst r_1.fst).toNat (Min.min r.fst r_1.fst)).length = x.fst.length ∧ ∀ (i : Int), (0 : Int) ≤ i → i < (↑x.fst.length : Int) → root (o_1.fst.set (Max.max r.fst r_1.fst).toNat (Min.min r.fst r_1.fst)) i = if root x.fst i = Max.max (root x.fst x.snd.fst.fst) (root x.fst x.snd.fst.snd) then Min.min (root x.fst x.snd.fst.fst) (root x.fst x.snd.fst.snd) else root x.fst i) ∧ (UF x.fst ∧ (0 : Int) ≤ x.snd.fst.fst ∧ x.snd.fst.fst < (↑(List.length x.fst) : Int) ∧ List.length x.fst ≤ (16384 : Nat)) ∧ ∀ (r : Int × Unit) (o : List Int × Unit), In64 r.fst ∧ True → (Ty.int IntKind.i64).sl.wf o.fst ∧ True → r.fst = root x.fst x.snd.fst.fst → (UF o.fst ∧ o.fst.length = List.length x.fst ∧ ∀ (i : Int), (0 : Int) ≤ i → i < (↑(List.length x.fst) : Int) → root o.fst i = root x.fst i) → (UF o.fst ∧ (0 : Int) ≤ x.snd.fst.snd ∧ x.snd.fst.snd < (↑o.fst.length : Int) ∧ o.fst.length ≤ (16384 : Nat)) ∧ ∀ (r_1 : Int × Unit) (o_1 : List Int × Unit), In64 r_1.fst ∧ True → (Ty.int IntKind.i64).sl.wf o_1.fst ∧ True → r_1.fst = root o.fst x.snd.fst.snd → (UF o_1.fst ∧ o_1.fst.length = o.fst.length ∧ ∀ (i : Int), (0 : Int) ≤ i → i < (↑o.fst.length : Int) → root o_1.fst i = root o.fst i) → ((0 : Int) ≤ Max.max r.fst r_1.fst ∧ Max.max r.fst r_1.fst < (↑o_1.fst.length : Int)) ∧ decide (r.fst ≠ r_1.fst) = decide (root x.fst x.snd.fst.fst ≠ root x.fst x.snd.fst.snd) ∧ UF (o_1.fst.set (Max.max r.fst r_1.fst).toNat (Min.min r.fst r_1.fst)) ∧ (o_1.fst.set (Max.max r.fst r_1.fst).toNat (Min.min r.fst r_1.fst)).length = x.fst.length ∧ ∀ (i : Int), (0 : Int) ≤ i → i < (↑x.fst.length : Int) → root (o_1.fst.set (Max.max r.fst r_1.fst).toNat (Min.min r.fst r_1.fst)) i = if root x.fst i = Max.max (root x.fst x.snd.fst.fst) (root x.fst x.snd.fst.snd) then Min.min (root x.fst x.snd.fst.fst) (root x.fst x.snd.fst.snd) else root x.fst i
theorem vc_topology_sets_join_eq (x : dens s_topology_sets_join.args) : semF ⟨Tryz.prog, tys⟩ sp_topology_sets_join an_topology_sets_join s_topology_sets_join Tryz.f33.results.toList (Tryz.f33.body.getD .skip) x = vc_topology_sets_join x := by kernel_rfl
theorem m_topology_sets_join (hsp : SpOk Tryz.prog sp_topology_sets_join) (h : ∀ x, awf s_topology_sets_join.args x → s_topology_sets_join.pre x → vc_topology_sets_join x) : Meets Tryz.prog 33 s_topology_sets_join := meets_vc (cx := ⟨Tryz.prog, tys⟩) (sp := sp_topology_sets_join) (an := an_topology_sets_join) (s := s_topology_sets_join) (fn := Tryz.f33) (c := Tryz.f33.body.getD .skip) Tryz.func33 (by kernel_rfl) (Nat.le_of_ble_eq_true (by kernel_rfl)) (by kernel_rfl) tys_ok hsp vc_topology_sets_join_eq h
end Go.Proofs.YtppgpdigopffbaaGreat
namespace Go.Proofs.YtppgpdigopffbaaGreat
open Go.Vc Go.Gw
theorem vc_topology_check_ok (x : dens s_topology_check.args) (hw : awf s_topology_check.args x) (_ : s_topology_check.pre x) : vc_topology_check x := by
  obtain ⟨n, ls, _⟩ := x
  have hl : ls.length ≤ 9223372036854775807 := hw.2.1.1
  change Int at n
  simp only [vc_topology_check, sel_or, Bool.or_eq_true, Bool.or_eq_false_iff, decide_eq_true_eq, decide_eq_false_iff_not]
  refine ⟨fun h => by rw [netE, if_pos h], fun h => ?_⟩
  refine ⟨fun p => 0 ≤ p.1 ∧ p.1 ≤ (ls.length : Int) ∧ ∀ l ∈ ls.take p.1.toNat, inB n l, fun p => ((ls.length : Int) - p.1).toNat, ⟨by omega, by omega, by simp⟩, ?_⟩
  rintro ⟨i, _⟩ _ ⟨h0, h1, h2⟩
  change Int at i
  simp only at h0 h1 h2 ⊢
  refine ⟨fun hi => ⟨⟨h0, hi⟩, by omega, fun _ => by omega, fun _ => by omega, fun _ => by omega, fun hb => ?_, fun hb => ?_⟩, fun hi => ?_⟩
  · rw [netE, if_neg (by omega), if_neg]
    intro hall
    have := hall _ (gx_mem (d := ((0 : Int), (0 : Int))) h0 hi)
    unfold inB at this
    omega
  · rw [wr (by omega) (by omega)]
    refine ⟨⟨by omega, by omega, before_step (d := ((0 : Int), (0 : Int))) h0 hi h2 ?_⟩, by omega⟩
    unfold inB
    omega
  · rw [take_all (by omega)] at h2
    rw [netE, if_neg (by omega), if_pos h2]
theorem vc_topology_separate_ok (x : dens s_topology_separate.args) (hw : awf s_topology_separate.args x) (hp : s_topology_separate.pre x) : vc_topology_separate x := by
  obtain ⟨n, _⟩ := x
  change Int at n
  obtain ⟨p0, p1⟩ : 0 ≤ n ∧ n ≤ 16384 := hp
  simp only [vc_topology_separate, List.length_replicate]
  refine ⟨by omega, fun p => 0 ≤ p.1 ∧ p.1 ≤ n ∧ p.2.1.length = n.toNat ∧ ∀ i : Nat, (i : Int) < p.1 → p.2.1[i]? = some (i : Int), fun p => (n - p.1).toNat, ⟨by omega, by omega, by simp, fun i hi => by omega⟩, ?_⟩
  rintro ⟨i, t, _⟩ _ ⟨h0, h1, h2, h3⟩
  change Int at i
  change List Int at t
  simp only at h0 h1 h2 h3 ⊢
  refine ⟨fun h => ?_, fun h => ?_⟩
  · have h := of_decide_eq_true h
    rw [wr (by omega) (by omega)]
    refine ⟨⟨h0, by omega⟩, ⟨by omega, by omega, by rw [List.length_set]; exact h2, fun j hj => ?_⟩, by omega⟩
    rw [List.getElem?_set]
    by_cases hij : i.toNat = j
    · rw [if_pos hij, if_pos (by omega)]
      congr 1; omega
    · rw [if_neg hij]; exact h3 j (by omega)
  · have h := of_decide_eq_false h
    unfold idL
    apply List.ext_getElem?
    intro j
    by_cases hj : j < n.toNat
    · rw [h3 j (by omega), List.getElem?_map, List.getElem?_range hj]; rfl
    · rw [List.getElem?_eq_none (by omega), List.getElem?_eq_none (by simp; omega)]
theorem vc_topology_sets_least_ok (x : dens s_topology_sets_least.args) (hw : awf s_topology_sets_least.args x) (hp : s_topology_sets_least.pre x) : vc_topology_sets_least x := by
  obtain ⟨s, b, _⟩ := x
  change List Int at s
  change Int at b
  obtain ⟨hu, b0, b1, hl⟩ : UF s ∧ 0 ≤ b ∧ b < (s.length : Int) ∧ s.length ≤ 16384 := hp
  simp only [vc_topology_sets_least]
  refine ⟨fun p => UF p.2.1 ∧ p.2.1.length = s.length ∧ 0 ≤ p.1 ∧ p.1 < (s.length : Int) ∧ root s p.1 = root s b ∧ ∀ i : Int, 0 ≤ i → i < (s.length : Int) → root p.2.1 i = root s i, fun p => p.1.toNat, ⟨hu, rfl, b0, b1, rfl, fun _ _ _ => rfl⟩, ?_⟩
  rintro ⟨c, t, _⟩ _ ⟨h1, h2, h3, h4, h5, h6⟩
  change Int at c
  change List Int at t
  simp only at h1 h2 h3 h4 h5 h6 ⊢
  have hle := h1.le h3 (by omega : c < (t.length : Int))
  have hlc : t.getD c.toNat 0 = lat t c := rfl
  rw [hlc]
  refine ⟨⟨h3, by omega⟩, fun h => ?_, fun h => ?_⟩
  · have hne : lat t c ≠ c := of_decide_eq_true h
    have hle2 := h1.le hle.1 (by omega : lat t c < (t.length : Int))
    have hlc2 : t.getD (lat t c).toNat 0 = lat t (lat t c) := rfl
    rw [hlc2]
    obtain ⟨g1, g2⟩ := halve h1 h3 (by omega : c < (t.length : Int))
    have hk : c.toNat < t.length := by omega
    have hlc3 : (t.set c.toNat (lat t (lat t c))).getD c.toNat 0 = lat t (lat t c) := by
      have := lat_set (v := lat t (lat t c)) (i := c) hk
      rw [if_pos rfl] at this
      exact this
    rw [hlc3, List.length_set]
    refine ⟨⟨h3, by omega⟩, ⟨hle.1, by omega⟩, ⟨h3, by omega⟩, ⟨h3, by omega⟩, ⟨g1, h2, hle2.1, by omega, ?_, fun i i0 i1 => by rw [g2 i i0 (by omega)]; exact h6 i i0 i1⟩, by omega⟩
    rw [← h5, ← h6 _ hle2.1 (by omega), ← h6 c h3 h4, root_step h1 hle.1 (by omega), root_step h1 h3 (by omega)]
  · have he : lat t c = c := by simpa using h
    refine ⟨?_, h1, h2, h6⟩
    rw [← h5, ← h6 c h3 h4, root_fix h1 h3 (by omega) he]
theorem vc_topology_sets_join_ok (x : dens s_topology_sets_join.args) (hw : awf s_topology_sets_join.args x) (hp : s_topology_sets_join.pre x) : vc_topology_sets_join x := by
  obtain ⟨s, ⟨a, b⟩, _⟩ := x
  change List Int at s
  change Int at a b
  obtain ⟨hu, ⟨a0, a1, b0, b1⟩, hl⟩ : UF s ∧ inB s.length (a, b) ∧ s.length ≤ 16384 := hp
  simp only at a0 a1 b0 b1
  simp only [vc_topology_sets_join]
  refine ⟨by omega, by omega, ?_, ?_⟩
  all_goals
    refine ⟨⟨hu, a0, a1, hl⟩, ?_⟩
    rintro ⟨r, _⟩ ⟨o, _⟩ _ _ e1 ⟨h1, h2, h3⟩
    simp only at e1 h1 h2 h3 ⊢
    refine ⟨⟨h1, b0, by omega, by omega⟩, ?_⟩
    rintro ⟨r1, _⟩ ⟨o1, _⟩ _ _ e2 ⟨g1, g2, g3⟩
    simp only at e2 g1 g2 g3 ⊢
    rw [h3 b b0 b1] at e2
    subst e1 e2
    obtain ⟨ra0, ra1, ra2⟩ := root_le hu a0 a1
    obtain ⟨rb0, rb1, rb2⟩ := root_le hu b0 b1
    have hall : ∀ i : Int, 0 ≤ i → i < (s.length : Int) → root o1 i = root s i := fun i i0 i1 => by rw [g3 i i0 (by omega), h3 i i0 i1]
    have hfix : ∀ c : Int, 0 ≤ c → c < (s.length : Int) → lat s c = c → lat o1 c = c := fun c c0 c1 hc => by
      have e := hall c c0 c1
      rw [root_fix hu c0 c1 hc] at e
      have := (root_le g1 c0 (by omega)).2.2
      rw [e] at this
      exact this
    have fa := hfix _ ra0 (by omega) ra2
    have fb := hfix _ rb0 (by omega) rb2
    have hmax : (max (root s a) (root s b) = root s a ∧ min (root s a) (root s b) = root s b ∧ root s b ≤ root s a) ∨ (max (root s a) (root s b) = root s b ∧ min (root s a) (root s b) = root s a ∧ root s a ≤ root s b) := by omega
    have hj : UF (o1.set (max (root s a) (root s b)).toNat (min (root s a) (root s b))) ∧ ∀ i : Int, 0 ≤ i → i < (o1.length : Int) → root (o1.set (max (root s a) (root s b)).toNat (min (root s a) (root s b))) i = if root o1 i = max (root s a) (root s b) then min (root s a) (root s b) else root o1 i := by
      rcases hmax with ⟨e1, e2, e3⟩ | ⟨e1, e2, e3⟩
      · rw [e1, e2]; exact joined g1 rb0 e3 (by omega) fb fa
      · rw [e1, e2]; exact joined g1 ra0 e3 (by omega) fa fb
    refine ⟨⟨by omega, by omega⟩, rfl, hj.1, by rw [List.length_set]; omega, fun i i0 i1 => ?_⟩
    rw [hj.2 i i0 (by omega), hall i i0 i1]
end Go.Proofs.YtppgpdigopffbaaGreat
namespace Go.Proofs.YtppgpdigopffbaaGreat
open Go.Vc Go.Gw
def an_topology_tree : An := { join := [(11, ⟨[6, 7, 15, 16, 17], [], [(8, false, [.own (.int .i64) 3])], [], [(0, .row (.int .i64) 3), (1, .rows (.pair (.int .i64) (.int .i64)) 23 30)]⟩)], loop := [(5, ⟨[6, 7, 15, 16], [], [(8, false, [.own (.int .i64) 3]), (17, false, [.val (.int .i64)])], [], [(0, .row (.int .i64) 3), (1, .rows (.pair (.int .i64) (.int .i64)) 23 30)]⟩)], plan := [(9, [5, 7, 10], [13, 15], false, (.p 0 (.p 1 (.p 3 (.p 4 (.q 5 (.p 6 (.q 7 (.p 8 (.p 9 (.q 10 (.p 11 (.or 2 (.e 12 (.e 13 (.p 14 (.e 15 .done)))) (.e 12 (.or 2 (.e 13 (.p 14 (.e 15 .done))) (.e 13 (.e 2 (.p 14 (.e 15 .done))))))))))))))))))), (10, [5, 7, 10], [13, 15], false, (.p 0 (.p 1 (.p 3 (.p 4 (.q 5 (.p 6 (.q 7 (.p 8 (.p 9 (.q 10 (.p 11 (.or 2 (.e 12 (.e 13 (.p 14 (.e 15 .done)))) (.e 12 (.or 2 (.e 13 (.p 14 (.e 15 .done))) (.e 13 (.e 2 (.p 14 (.e 15 .done)))))))))))))))))))] }
def sp_topology_tree : Specs := [(32, s_topology_separate), (33, s_topology_sets_join)]
def an_topology_Islands : An := { loop := [(6, ⟨[0, 7, 20, 21], [], [(22, false, [.val (.int .i64)])], [], [(0, .row (.int .i64) 3)]⟩), (12, ⟨[7, 10, 33], [], [(34, false, [.val (.int .i64)])], [], [(0, .row (.int .i64) 3), (1, .row (.int .i64) 3)]⟩)] }
def sp_topology_Islands : Specs := [(30, s_topology_check), (32, s_topology_separate), (33, s_topology_sets_join), (34, s_topology_sets_least)]
def an_topology_Forest : An := {}
def sp_topology_Forest : Specs := [(30, s_topology_check), (31, s_topology_tree)]
def vc_topology_tree : dens s_topology_tree.args → Prop := fun (x : Int × List (Int × Int) × Unit) => ((0 : Int) ≤ x.fst ∧ x.fst ≤ (16384 : Int)) ∧ ∀ (r : List Int × Unit), WfI r.fst ∧ True → r.fst = idL x.fst → ((0 : Int) ≤ x.fst ∧ x.fst ≤ x.fst ∧ (↑(24 : Nat) : Int) * x.fst ≤ (281474976710656 : Int) ∧ x.fst ≤ (9223372036854775807 : Int)) ∧ ∃ (I : List Int × Int × List Int × List (List (Int × Int)) × Unit → Prop), ∃ (μ : List Int × Int × List Int × List (List (Int × Int)) × Unit → Nat), I ([], (0 : Int), r.fst, List.replicate (Int.toNat x.fst) [], ()) ∧ ∀ (p : List Int × Int × List Int × List (List (Int × Int)) × Unit), WfI p.fst ∧ In64 p.snd.fst ∧ WfI p.snd.snd.fst ∧ (List.length p.snd.snd.snd.fst ≤ 9223372036854775807 ∧ ∀ (x : List (Int × Int)), x ∈ p.snd.snd.snd.fst → x.length ≤ 9223372036854775807 ∧ ∀ (x_1 : Int × Int), x_1 ∈ x → In64 x_1.fst ∧ In64 x_1.snd) ∧ True → I p → (decide (p.snd.fst < (↑(List.length x.snd.fst) : Int)) = true → ∃ (J : List Int × List Int × List (List (Int × Int)) × Unit → Prop), (((0 : Int) ≤ p.snd.fst ∧ p.snd.fst < (↑(List.length x.snd.fst) : Int)) ∧ (UF p.snd.snd.fst ∧ inB (↑(List.length p.snd.snd.fst) : Int) (gx ((0 : Int), (0 : Int)) x.snd.fst p.snd.fst) ∧ List.length p.snd.snd.fst ≤ (16384 : Nat)) ∧ ∀ (r_1 : Bool × Unit) (o : List Int × Unit), True ∧ True → (Ty.int IntKind.i64).sl.wf o.fst ∧ True → r_1.fst = decide (root p.snd.snd.fst (gx ((0 : Int), (0 : Int)) x.snd.fst p.snd.fst).fst ≠ root p.snd.snd.fst (gx ((0 : Int), (0 : Int)) x.snd.fst p.snd.fst).snd) → (UF o.fst ∧ o.fst.length = List.length p.snd.snd.fst ∧ ∀ (i : Int), (0 : Int) ≤ i → i < (↑(List.length p.snd.snd.fst) : Int) → root o.fst i = if root p.snd.snd.fst i = Max.max (root p.snd.snd.fst (gx ((0 : Int), (0 : Int)) x.snd.fst p.snd.fst).fst) (root p.snd.snd.fst (gx ((0 : Int), (0 : Int)) x.snd.fst p.snd.fst).snd) then Min.min (root p.snd.snd.fst (gx ((0 : Int), (0 : Int)) x.snd.fst p.snd.fst).fst) (root p.snd.snd.fst (gx ((0 : Int), (0 : Int)) x.snd.fst p.snd.fst).snd) else root p.snd.snd.fst i) → (r_1.fst = true → ((List.length p.fst + [p.snd.fst].length) * (8 : Nat) ≤ (140737488355328 : Nat) ∧ List.length p.fst + [p.snd.fst].length ≤ 9223372036854775807) ∧ ((0 : Int) ≤ (0 : Int) ∧ (0 : Int) < (↑(2 : Nat) : Int)) ∧ ((0 : Int) ≤ (0 : Int) ∧ (0 : Int) < (↑(2 : Nat) : Int)) ∧ ((0 : Int) ≤ (gx ((0 : Int), (0 : Int)) x.snd.fst p.snd.fst).fst ∧ (gx ((0 : Int), (0 : Int)) x.snd.fst p.snd.fst).fst < (↑(List.length p.snd.snd.snd.fst) : Int)) ∧ ((0 : Int) ≤ (1 : Int) ∧ (1 : Int) < (↑(2 : Nat) : Int)) ∧ ((((List.getD p.snd.snd.snd.fst (Int.toNat (gx ((0 : Int), (0 : Int)) x.snd.fst p.snd.fst).fst) []).length + [(p.snd.fst, (gx ((0 : Int), (0 : Int)) x.snd.fst p.snd.fst).snd)].length) * (16 : Nat) ≤ (140737488355328 : Nat) ∧ (List.getD p.snd.snd.snd.fst (Int.toNat (gx ((0 : Int), (0 : Int)) x.snd.fst p.snd.fst).fst) []).length + [(p.snd.fst, (gx ((0 : Int), (0 : Int)) x.snd.fst p.snd.fst).snd)].length ≤ 9223372036854775807) ∧ ((0 : Int) ≤ (gx ((0 : Int), (0 : Int)) x.snd.fst p.snd.fst).fst ∧ (gx ((0 : Int), (0 : Int)) x.snd.fst p.snd.fst).fst < (↑(List.length p.snd.snd.snd.fst) : Int)) ∧ Int.toNat (gx ((0 : Int), (0 : Int)) x.snd.fst p.snd.fst).fst = Int.toNat (gx ((0 : Int), (0 : Int)) x.snd.fst p.snd.fst).fst ∧ ((0 : Int) ≤ (1 : Int) ∧ (1 : Int) < (↑(2 : Nat) : Int)) ∧ ((0 : Int) ≤ (1 : Int) ∧ (1 : Int) < (↑(2 : Nat) : Int)) ∧ ((0 : Int) ≤ (gx ((0 : Int), (0 : Int)) x.snd.fst p.snd.fst).snd ∧ (gx ((0 : Int), (0 : Int)) x.snd.fst p.snd.fst).snd < (↑(List.set p.snd.snd.snd.fst (Int.toNat (gx ((0 : Int), (0 : Int)) x.snd.fst p.snd.fst).fst) (List.getD p.snd.snd.snd.fst (Int.toNat (gx ((0 : Int), (0 : Int)) x.snd.fst p.snd.fst).fst) [] ++ [(p.snd.fst, (gx ((0 : Int), (0 : Int)) x.snd.fst p.snd.fst).snd)])).length : Int)) ∧ ((0 : Int) ≤ (0 : Int) ∧ (0 : Int) < (↑(2 : Nat) : Int)) ∧ (((((List.set p.snd.snd.snd.fst (Int.toNat (gx ((0 : Int), (0 : Int)) x.snd.fst p.snd.fst).fst) (List.getD p.snd.snd.snd.fst (Int.toNat (gx ((0 : Int), (0 : Int)) x.snd.fst p.snd.fst).fst) [] ++ [(p.snd.fst, (gx ((0 : Int), (0 : Int)) x.snd.fst p.snd.fst).snd)])).getD (Int.toNat (gx ((0 : Int), (0 : Int)) x.snd.fst p.snd.fst).snd) []).length + [(p.snd.fst, (gx ((0 : Int), (0 : Int)) x.snd.fst p.snd.fst).fst)].length) * (16 : Nat) ≤ (140737488355328 : Nat) ∧ ((List.set p.snd.snd.snd.fst (Int.toNat (gx ((0 : Int), (0 : Int)) x.snd.fst p.snd.fst).fst) (List.getD p.snd.snd.snd.fst (Int.toNat (gx ((0 : Int), (0 : Int)) x.snd.fst p.snd.fst).fst) [] ++ [(p.snd.fst, (gx ((0 : Int), (0 : Int)) x.snd.fst p.snd.fst).snd)])).getD (Int.toNat (gx ((0 : Int), (0 : Int)) x.snd.fst p.snd.fst).snd) []).length + [(p.snd.fst, (gx ((0 : Int), (0 : Int)) x.snd.fst p.snd.fst).fst)].length ≤ 9223372036854775807) ∧ ((0 : Int) ≤ (gx ((0 : Int), (0 : Int)) x.snd.fst p.snd.fst).snd ∧ (gx ((0 : Int), (0 : Int)) x.snd.fst p.snd.fst).snd < (↑(List.set p.snd.snd.snd.fst (Int.toNat (gx ((0 : Int), (0 : Int)) x.snd.fst p.snd.fst).fst) (List.getD p.snd.snd.snd.fst (Int.toNat (gx ((0 : Int), (0 : Int)) x.snd.fst p.snd.fst).fst) [] ++ [(p.snd.fst, (gx ((0 : Int), (0 : Int)) x.snd.fst p.snd.fst).snd)])).length : Int)) ∧ Int.toNat (gx ((0 : Int), (0 : Int)) x.snd.fst p.snd.fst).snd = Int.toNat (gx ((0 : Int), (0 : Int)) x.snd.fst p.snd.fst).snd ∧ J (p.fst ++ [p.snd.fst], o.fst, (List.set p.snd.snd.snd.fst (Int.toNat (gx ((0 : Int), (0 : Int)) x.snd.fst p.snd.fst).fst) (List.getD p.snd.snd.snd.fst (Int.toNat (gx ((0 : Int), (0 : Int)) x.snd.fst p.snd.fst).fst) [] ++ [(p.snd.fst, (gx ((0 : Int), (0 : Int)) x.snd.fst p.snd.fst).snd)])).set (Int.toNat (gx ((0 : Int), (0 : Int)) x.snd.fst p.snd.fst).snd) ((List.set p.snd.snd.snd.fst (Int.toNat (gx ((0 : Int), (0 : Int)) x.snd.fst p.snd.fst).fst) (List.getD p.snd.snd.snd.fst (Int.toNat (gx ((0 : Int), (0 : Int)) x.snd.fst p.snd.fst).fst) [] ++ [(p.snd.fst, (gx ((0 : Int), (0 : Int)) x.snd.fst p.snd.fst).snd)])).getD (Int.toNat (gx ((0 : Int), (0 : Int)) x.snd.fst p.snd.fst).snd) [] ++ [(p.snd.fst, (gx ((0 : Int), (0 : Int)) x.snd.fst p.snd.fst).fst)]), ())) ∧ (((((List.set p.snd.snd.snd.fst (Int.toNat (gx ((0 : Int), (0 : Int)) x.snd.fst p.snd.fst).fst) (List.getD p.snd.snd.snd.fst (Int.toNat (gx ((0 : Int), (0 : Int)) x.snd.fst p.snd.fst).fst) [] ++ [(p.snd.fst, (gx ((0 : Int), (0 : Int)) x.snd.fst p.snd.fst).snd)])).getD (Int.toNat (gx ((0 : Int), (0 : Int)) x.snd.fst p.snd.fst).snd) []).length + [(p.snd.fst, (gx ((0 : Int), (0 : Int)) x.snd.fst p.snd.fst).fst)].length) * (16 : Nat) ≤ (140737488355328 : Nat) ∧ ((List.set p.snd.snd.snd.fst (Int.toNat (gx ((0 : Int), (0 : Int)) x.snd.fst p.snd.fst).fst) (List.getD p.snd.snd.snd.fst (Int.toNat (gx ((0 : Int), (0 : Int)) x.snd.fst p.snd.fst).fst) [] ++ [(p.snd.fst, (gx ((0 : Int), (0 : Int)) x.snd.fst p.snd.fst).snd)])).getD (Int.toNat (gx ((0 : Int), (0 : Int)) x.snd.fst p.snd.fst).snd) []).length + [(p.snd.fst, (gx ((0 : Int), (0 : Int)) x.snd.fst p.snd.fst).fst)].length ≤ 9223372036854775807) ∧ ((0 : Int) ≤ (gx ((0 : Int), (0 : Int)) x.snd.fst p.snd.fst).snd ∧ (gx ((0 : Int), (0 : Int)) x.snd.fst p.snd.fst).snd < (↑(List.set p.snd.snd.snd.fst (Int.toNat (gx ((0 : Int), (0 : Int)) x.snd.fst p.snd.fst).fst) (List.getD p.snd.snd.snd.fst (Int.toNat (gx ((0 : Int), (0 : Int)) x.snd.fst p.snd.fst).fst) [] ++ [(p.snd.fst, (gx ((0 : Int), (0 : Int)) x.snd.fst p.snd.fst).snd)])).length : Int)) ∧ Int.toNat (gx ((0 : Int), (0 : Int)) x.snd.fst p.snd.fst).snd = Int.toNat (gx ((0 : Int), (0 : Int)) x.snd.fst p.snd.fst).snd ∧ J (p.fst ++ [p.snd.fst], o.fst, (List.set p.snd.snd.snd.fst (Int.toNat (gx ((0 : Int), (0 : Int)) x.snd.fst p.snd.fst).fst) (List.getD p.snd.snd.snd.fst (Int.toNat (gx ((0 : Int), (0 : Int)) x.snd.fst p.snd.fst).fst) [] ++ [(p.snd.fst, (gx ((0 : Int), (0 : Int)) x.snd.fst p.snd.fst).snd)])).set (Int.toNat (gx ((0 : Int), (0 : Int)) x.snd.fst p.snd.fst).snd) ((List.set p.snd.snd.snd.fst (Int.toNat (gx ((0 : Int), (0 : Int)) x.snd.fst p.snd.fst).fst) (List.getD p.snd.snd.snd.fst (Int.toNat (gx ((0 : Int), (0 : Int)) x.snd.fst p.snd.fst).fst) [] ++ [(p.snd.fst, (gx ((0 : Int), (0 : Int)) x.snd.fst p.snd.fst).snd)])).getD (Int.toNat (gx ((0 : Int), (0 : Int)) x.snd.fst p.snd.fst).snd) [] ++ [(p.snd.fst, (gx ((0 : Int), (0 : Int)) x.snd.fst p.snd.fst).fst)]), ())) ∧ ((((List.set p.snd.snd.snd.fst (Int.toNat (gx ((0 : Int), (0 : Int)) x.snd.fst p.snd.fst).fst) (List.getD p.snd.snd.snd.fst (Int.toNat (gx ((0 : Int), (0 : Int)) x.snd.fst p.snd.fst).fst) [] ++ [(p.snd.fst, (gx ((0 : Int), (0 : Int)) x.snd.fst p.snd.fst).snd)])).getD (Int.toNat (gx ((0 : Int), (0 : Int)) x.snd.fst p.snd.fst).snd) []).length + [(p.snd.fst, (gx ((0 : Int), (0 : Int)) x.snd.fst p.snd.fst).fst)].length) * (16 : Nat) ≤ (140737488355328 : Nat) ∧ ((List.set p.snd.snd.snd.fst (Int.toNat (gx ((0 : Int), (0 : Int)) x.snd.fst p.snd.fst).fst) (List.getD p.snd.snd.snd.fst (Int.toNat (gx ((0 : Int), (0 : Int)) x.snd.fst p.snd.fst).fst) [] ++ [(p.snd.fst, (gx ((0 : Int), (0 : Int)) x.snd.fst p.snd.fst).snd)])).getD (Int.toNat (gx ((0 : Int), (0 : Int)) x.snd.fst p.snd.fst).snd) []).length + [(p.snd.fst, (gx ((0 : Int), (0 : Int)) x.snd.fst p.snd.fst).fst)].length ≤ 9223372036854775807) ∧ ((0 : Int) ≤ (gx ((0 : Int), (0 : Int)) x.snd.fst p.snd.fst).snd ∧ (gx ((0 : Int), (0 : Int)) x.snd.fst p.snd.fst).snd < (↑(List.set p.snd.snd.snd.fst (Int.toNat (gx ((0 : Int), (0 : Int)) x.snd.fst p.snd.fst).fst) (List.getD p.snd.snd.snd.fst (Int.toNat (gx ((0 : Int), (0 : Int)) x.snd.fst p.snd.fst).fst) [] ++ [(p.snd.fst, (gx ((0 : Int), (0 : Int)) x.snd.fst p.snd.fst).snd)])).length : Int)) ∧ Int.toNat (gx ((0 : Int), (0 : Int)) x.snd.fst p.snd.fst).snd = Int.toNat (gx ((0 : Int), (0 : Int)) x.snd.fst p.snd.fst).snd ∧ J (p.fst ++ [p.snd.fst], o.fst, (List.set p.snd.snd.snd.fst (Int.toNat (gx ((0 : Int), (0 : Int)) x.snd.fst p.snd.fst).fst) (List.getD p.snd.snd.snd.fst (Int.toNat (gx ((0 : Int), (0 : Int)) x.snd.fst p.snd.fst).fst) [] ++ [(p.snd.fst, (gx ((0 : Int), (0 : Int)) x.snd.fst p.snd.fst).snd)])).set (Int.toNat (gx ((0 : Int), (0 : Int)) x.snd.fst p.snd.fst).snd) ((List.set p.snd.snd.snd.fst (Int.toNat (gx ((0 : Int), (0 : Int)) x.snd.fst p.snd.fst).fst) (List.getD p.snd.snd.snd.fst (Int.toNat (gx ((0 : Int), (0 : Int)) x.snd.fst p.snd.fst).fst) [] ++ [(p.snd.fst, (gx ((0 : Int), (0 : Int)) x.snd.fst p.snd.fst).snd)])).getD (Int.toNat (gx ((0 : Int), (0 : Int)) x.snd.fst p.snd.fst).snd) [] ++ [(p.snd.fst, (gx ((0 : Int), (0 : Int)) x.snd.fst p.snd.fst).fst)]), ())) ∧ ((((List.getD p.snd.snd.snd.fst (Int.toNat (gx ((0 : Int), (0 : Int)) x.snd.fst p.snd.fst).fst) []).length + [(p.snd.fst, (gx ((0 : Int), (0 : Int)) x.snd.fst p.snd.fst).snd)].length) * (16 : Nat) ≤ (140737488355328 : Nat) ∧ (List.getD p.snd.snd.snd.fst (Int.toNat (gx ((0 : Int), (0 : Int)) x.snd.fst p.snd.fst).fst) []).length + [(p.snd.fst, (gx ((0 : Int), (0 : Int)) x.snd.fst p.snd.fst).snd)].length ≤ 9223372036854775807) ∧ ((0 : Int) ≤ (gx ((0 : Int), (0 : Int)) x.snd.fst p.snd.fst).fst ∧ (gx ((0 : Int), (0 : Int)) x.snd.fst p.snd.fst).fst < (↑(List.length p.snd.snd.snd.fst) : Int)) ∧ Int.toNat (gx ((0 : Int), (0 : Int)) x.snd.fst p.snd.fst).fst = Int.toNat (gx ((0 : Int), (0 : Int)) x.snd.fst p.snd.fst).fst ∧ ((0 : Int) ≤ (1 : Int) ∧ (1 : Int) < (↑(2 : Nat) : Int)) ∧ ((0 : Int) ≤ (1 : Int) ∧ (1 : Int) < (↑(2 : Nat) : Int)) ∧ ((0 : Int) ≤ (gx ((0 : Int), (0 : Int)) x.snd.fst p.snd.fst).snd ∧ (gx ((0 : Int), (0 : Int)) x.snd.fst p.snd.fst).snd < (↑(List.set p.snd.snd.snd.fst (Int.toNat (gx ((0 : Int), (0 : Int)) x.snd.fst p.snd.fst).fst) (List.getD p.snd.snd.snd.fst (Int.toNat (gx ((0 : Int), (0 : Int)) x.snd.fst p.snd.fst).fst) [] ++ [(p.snd.fst, (gx ((0 : Int), (0 : Int)) x.snd.fst p.snd.fst).snd)])).length : Int)) ∧ ((0 : Int) ≤ (0 : Int) ∧ (0 : Int) < (↑(2 : Nat) : Int)) ∧ (((((List.set p.snd.snd.snd.fst (Int.toNat (gx ((0 : Int), (0 : Int)) x.snd.fst p.snd.fst).fst) (List.getD p.snd.snd.snd.fst (Int.toNat (gx ((0 : Int), (0 : Int)) x.snd.fst p.snd.fst).fst) [] ++ [(p.snd.fst, (gx ((0 : Int), (0 : Int)) x.snd.fst p.snd.fst).snd)])).getD (Int.toNat (gx ((0 : Int), (0 : Int)) x.snd.fst p.snd.fst).snd) []).length + [(p.snd.fst, (gx ((0 : Int), (0 : Int)) x.snd.fst p.snd.fst).fst)].length) * (16 : Nat) ≤ (140737488355328 : Nat) ∧ ((List.set p.snd.snd.snd.fst (Int.toNat (gx ((0 : Int), (0 : Int)) x.snd.fst p.snd.fst).fst) (List.getD p.snd.snd.snd.fst (Int.toNat (gx ((0 : Int), (0 : Int)) x.snd.fst p.snd.fst).fst) [] ++ [(p.snd.fst, (gx ((0 : Int), (0 : Int)) x.snd.fst p.snd.fst).snd)])).getD (Int.toNat (gx ((0 : Int), (0 : Int)) x.snd.fst p.snd.fst).snd) []).length + [(p.snd.fst, (gx ((0 : Int), (0 : Int)) x.snd.fst p.snd.fst).fst)].length ≤ 9223372036854775807) ∧ ((0 : Int) ≤ (gx ((0 : Int), (0 : Int)) x.snd.fst p.snd.fst).snd ∧ (gx ((0 : Int), (0 : Int)) x.snd.fst p.snd.fst).snd < (↑(List.set p.snd.snd.snd.fst (Int.toNat (gx ((0 : Int), (0 : Int)) x.snd.fst p.snd.fst).fst) (List.getD p.snd.snd.snd.fst (Int.toNat (gx ((0 : Int), (0 : Int)) x.snd.fst p.snd.fst).fst) [] ++ [(p.snd.fst, (gx ((0 : Int), (0 : Int)) x.snd.fst p.snd.fst).snd)])).length : Int)) ∧ Int.toNat (gx ((0 : Int), (0 : Int)) x.snd.fst p.snd.fst).snd = Int.toNat (gx ((0 : Int), (0 : Int)) x.snd.fst p.snd.fst).snd ∧ J (p.fst ++ [p.snd.fst], o.fst, (List.set p.snd.snd.snd.fst (Int.toNat (gx ((0 : Int), (0 : Int)) x.snd.fst p.snd.fst).fst) (List.getD p.snd.snd.snd.fst (Int.toNat (gx ((0 : Int), (0 : Int)) x.snd.fst p.snd.fst).fst) [] ++ [(p.snd.fst, (gx ((0 : Int), (0 : Int)) x.snd.fst p.snd.fst).snd)])).set (Int.toNat (gx ((0 : Int), (0 : Int)) x.snd.fst p.snd.fst).snd) ((List.set p.snd.snd.snd.fst (Int.toNat (gx ((0 : Int), (0 : Int)) x.snd.fst p.snd.fst).fst) (List.getD p.snd.snd.snd.fst (Int.toNat (gx ((0 : Int), (0 : Int)) x.snd.fst p.snd.fst).fst) [] ++ [(p.snd.fst, (gx ((0 : Int), (0 : Int)) x.snd.fst p.snd.fst).snd)])).getD (Int.toNat (gx ((0 : Int), (0 : Int)) x.snd.fst p.snd.fst).snd) [] ++ [(p.snd.fst, (gx ((0 : Int), (0 : Int)) x.snd.fst p.snd.fst).fst)]), ())) ∧ (((((List.set p.snd.snd.snd.fst (Int.toNat (gx ((0 : Int), (0 : Int)) x.snd.fst p.snd.fst).fst) (List.getD p.snd.snd.snd.fst (Int.toNat (gx ((0 : Int), (0 : Int)) x.snd.fst p.snd.fst).fst) [] ++ [(p.snd.fst, (gx ((0 : Int), (0 : Int)) x.snd.fst p.snd.fst).snd)])).getD (Int.toNat (gx ((0 : Int), (0 : Int)) x.snd.fst p.snd.fst).snd) []).length + [(p.snd.fst, (gx ((0 : Int), (0 : Int)) x.snd.fst p.snd.fst).fst)].length) * (16 : Nat) ≤ (140737488355328 : Nat) ∧ ((List.set p.snd.snd.snd.fst (Int.toNat (gx ((0 : Int), (0 : Int)) x.snd.fst p.snd.fst).fst) (List.getD p.snd.snd.snd.fst (Int.toNat (gx ((0 : Int), (0 : Int)) x.snd.fst p.snd.fst).fst) [] ++ [(p.snd.fst, (gx ((0 : Int), (0 : Int)) x.snd.fst p.snd.fst).snd)])).getD (Int.toNat (gx ((0 : Int), (0 : Int)) x.snd.fst p.snd.fst).snd) []).length + [(p.snd.fst, (gx ((0 : Int), (0 : Int)) x.snd.fst p.snd.fst).fst)].length ≤ 9223372036854775807) ∧ ((0 : Int) ≤ (gx ((0 : Int), (0 : Int)) x.snd.fst p.snd.fst).snd ∧ (gx ((0 : Int), (0 : Int)) x.snd.fst p.snd.fst).snd < (↑(List.set p.snd.snd.snd.fst (Int.toNat (gx ((0 : Int), (0 : Int)) x.snd.fst p.snd.fst).fst) (List.getD p.snd.snd.snd.fst (Int.toNat (gx ((0 : Int), (0 : Int)) x.snd.fst p.snd.fst).fst) [] ++ [(p.snd.fst, (gx ((0 : Int), (0 : Int)) x.snd.fst p.snd.fst).snd)])).length : Int)) ∧ Int.toNat (gx ((0 : Int), (0 : Int)) x.snd.fst p.snd.fst).snd = Int.toNat (gx ((0 : Int), (0 : Int)) x.snd.fst p.snd.fst).snd ∧ J (p.fst ++ [p.snd.fst], o.fst, (List.set p.snd.snd.snd.fst (Int.toNat (gx ((0 : Int), (0 : Int)) x.snd.fst p.snd.fst).fst) (List.getD p.snd.snd.snd.fst (Int.toNat (gx ((0 : Int), (0 : Int)) x.snd.fst p.snd.fst).fst) [] ++ [(p.snd.fst, (gx ((0 : Int), (0 : Int)) x.snd.fst p.snd.fst).snd)])).set (Int.toNat (gx ((0 : Int), (0 : Int)) x.snd.fst p.snd.fst).snd) ((List.set p.snd.snd.snd.fst (Int.toNat (gx ((0 : Int), (0 : Int)) x.snd.fst p.snd.fst).fst) (List.getD p.snd.snd.snd.fst (Int.toNat (gx ((0 : Int), (0 : Int)) x.snd.fst p.snd.fst).fst) [] ++ [(p.snd.fst, (gx ((0 : Int), (0 : Int)) x.snd.fst p.snd.fst).snd)])).getD (Int.toNat (gx ((0 : Int), (0 : Int)) x.snd.fst p.snd.fst).snd) [] ++ [(p.snd.fst, (gx ((0 : Int), (0 : Int)) x.snd.fst p.snd.fst).fst)]), ())) ∧ ((((List.set p.snd.snd.snd.fst (Int.toNat (gx ((0 : Int), (0 : Int)) x.snd.fst p.snd.fst).fst) (List.getD p.snd.snd.snd.fst (Int.toNat (gx ((0 : Int), (0 : Int)) x.snd.fst p.snd.fst).fst) [] ++ [(p.snd.fst, (gx ((0 : Int), (0 : Int)) x.snd.fst p.snd.fst).snd)])).getD (Int.toNat (gx ((0 : Int), (0 : Int)) x.snd.fst p.snd.fst).snd) []).length + [(p.snd.fst, (gx ((0 : Int), (0 : Int)) x.snd.fst p.snd.fst).fst)].length) * (16 : Nat) ≤ (140737488355328 : Nat) ∧ ((List.set p.snd.snd.snd.fst (Int.toNat (gx ((0 : Int), (0 : Int)) x.snd.fst p.snd.fst).fst) (List.getD p.snd.snd.snd.fst (Int.toNat (gx ((0 : Int), (0 : Int)) x.snd.fst p.snd.fst).fst) [] ++ [(p.snd.fst, (gx ((0 : Int), (0 : Int)) x.snd.fst p.snd.fst).snd)])).getD (Int.toNat (gx ((0 : Int), (0 : Int)) x.snd.fst p.snd.fst).snd) []).length + [(p.snd.fst, (gx ((0 : Int), (0 : Int)) x.snd.fst p.snd.fst).fst)].length ≤ 9223372036854775807) ∧ ((0 : Int) ≤ (gx ((0 : Int), (0 : Int)) x.snd.fst p.snd.fst).snd ∧ (gx ((0 : Int), (0 : Int)) x.snd.fst p.snd.fst).snd < (↑(List.set p.snd.snd.snd.fst (Int.toNat (gx ((0 : Int), (0 : Int)) x.snd.fst p.snd.fst).fst) (List.getD p.snd.snd.snd.fst (Int.toNat (gx ((0 : Int), (0 : Int)) x.snd.fst p.snd.fst).fst) [] ++ [(p.snd.fst, (gx ((0 : Int), (0 : Int)) x.snd.fst p.snd.fst).snd)])).length : Int)) ∧ Int.toNat (gx ((0 : Int), (0 : Int)) x.snd.fst p.snd.fst).snd = Int.toNat (gx ((0 : Int), (0 : Int)) x.snd.fst p.snd.fst).snd ∧ J (p.fst ++ [p.snd.fst], o.fst, (List.set p.snd.snd.snd.fst (Int.toNat (gx ((0 : Int), (0 : Int)) x.snd.fst p.snd.fst).fst) (List.getD p.snd.snd.snd.fst (Int.toNat (gx ((0 : Int), (0 : Int)) x.snd.fst p.snd.fst).fst) [] ++ [(p.snd.fst, (gx ((0 : Int), (0 : Int)) x.snd.fst p.snd.fst).snd)])).set (Int.toNat (gx ((0 : Int), (0 : Int)) x.snd.fst p.snd.fst).snd) ((List.set p.snd.snd.snd.fst (Int.toNat (gx ((0 : Int), (0 : Int)) x.snd.fst p.snd.fst).fst) (List.getD p.snd.snd.snd.fst (Int.toNat (gx ((0 : Int), (0 : Int)) x.snd.fst p.snd.fst).fst) [] ++ [(p.snd.fst, (gx ((0 : Int), (0 : Int)) x.snd.fst p.snd.fst).snd)])).getD (Int.toNat (gx ((0 : Int), (0 : Int)) x.snd.fst p.snd.fst).snd) [] ++ [(p.snd.fst, (gx ((0 : Int), (0 : Int)) x.snd.fst p.snd.fst).fst)]), ())) ∧ (((List.getD p.snd.snd.snd.fst (Int.toNat (gx ((0 : Int), (0 : Int)) x.snd.fst p.snd.fst).fst) []).length + [(p.snd.fst, (gx ((0 : Int), (0 : Int)) x.snd.fst p.snd.fst).snd)].length) * (16 : Nat) ≤ (140737488355328 : Nat) ∧ (List.getD p.snd.snd.snd.fst (Int.toNat (gx ((0 : Int), (0 : Int)) x.snd.fst p.snd.fst).fst) []).length + [(p.snd.fst, (gx ((0 : Int), (0 : Int)) x.snd.fst p.snd.fst).snd)].length ≤ 9223372036854775807) ∧ ((0 : Int) ≤ (gx ((0 : Int), (0 : Int)) x.snd.fst p.snd.fst).fst ∧ (gx ((0 : Int), (0 : Int)) x.snd.fst p.snd.fst).fst < (↑(List.length p.snd.snd.snd.fst) : Int)) ∧ Int.toNat (gx ((0 : Int), (0 : Int)) x.snd.fst p.snd.fst).fst = Int.toNat (gx ((0 : Int), (0 : Int)) x.snd.fst p.snd.fst).fst ∧ ((0 : Int) ≤ (1 : Int) ∧ (1 : Int) < (↑(2 : Nat) : Int)) ∧ ((0 : Int) ≤ (1 : Int) ∧ (1 : Int) < (↑(2 : Nat) : Int)) ∧ ((0 : Int) ≤ (gx ((0 : Int), (0 : Int)) x.snd.fst p.snd.fst).snd ∧ (gx ((0 : Int), (0 : Int)) x.snd.fst p.snd.fst).snd < (↑(List.set p.snd.snd.snd.fst (Int.toNat (gx ((0 : Int), (0 : Int)) x.snd.fst p.snd.fst).fst) (List.getD p.snd.snd.snd.fst (Int.toNat (gx ((0 : Int), (0 : Int)) x.snd.fst p.snd.fst).fst) [] ++ [(p.snd.fst, (gx ((0 : Int), (0 : Int)) x.snd.fst p.snd.fst).snd)])).length : Int)) ∧ ((0 : Int) ≤ (0 : Int) ∧ (0 : Int) < (↑(2 : Nat) : Int)) ∧ (((((List.set p.snd.snd.snd.fst (Int.toNat (gx ((0 : Int), (0 : Int)) x.snd.fst p.snd.fst).fst) (List.getD p.snd.snd.snd.fst (Int.toNat (gx ((0 : Int), (0 : Int)) x.snd.fst p.snd.fst).fst) [] ++ [(p.snd.fst, (gx ((0 : Int), (0 : Int)) x.snd.fst p.snd.fst).snd)])).getD (Int.toNat (gx ((0 : Int), (0 : Int)) x.snd.fst p.snd.fst).snd) []).length + [(p.snd.fst, (gx ((0 : Int), (0 : Int)) x.snd.fst p.snd.fst).fst)].length) * (16 : Nat) ≤ (140737488355328 : Nat) ∧ ((List.set p.snd.snd.snd.fst (Int.toNat (gx ((0 : Int), (0 : Int)) x.snd.fst p.snd.fst).fst) (List.getD p.snd.snd.snd.fst (Int.toNat (gx ((0 : Int), (0 : Int)) x.snd.fst p.snd.fst).fst) [] ++ [(p.snd.fst, (gx ((0 : Int), (0 : Int)) x.snd.fst p.snd.fst).snd)])).getD (Int.toNat (gx ((0 : Int), (0 : Int)) x.snd.fst p.snd.fst).snd) []).length + [(p.snd.fst, (gx ((0 : Int), (0 : Int)) x.snd.fst p.snd.fst).fst)].length ≤ 9223372036854775807) ∧ ((0 : Int) ≤ (gx ((0 : Int), (0 : Int)) x.snd.fst p.snd.fst).snd ∧ (gx ((0 : Int), (0 : Int)) x.snd.fst p.snd.fst).snd < (↑(List.set p.snd.snd.snd.fst (Int.toNat (gx ((0 : Int), (0 : Int)) x.snd.fst p.snd.fst).fst) (List.getD p.snd.snd.snd.fst (Int.toNat (gx ((0 : Int), (0 : Int)) x.snd.fst p.snd.fst).fst) [] ++ [(p.snd.fst, (gx ((0 : Int), (0 : Int)) x.snd.fst p.snd.fst).snd)])).length : Int)) ∧ Int.toNat (gx ((0 : Int), (0 : Int)) x.snd.fst p.snd.fst).snd = Int.toNat (gx ((0 : Int), (0 : Int)) x.snd.fst p.snd.fst).snd ∧ J (p.fst ++ [p.snd.fst], o.fst, (List.set p.snd.snd.snd.fst (Int.toNat (gx ((0 : Int), (0 : Int)) x.snd.fst p.snd.fst).fst) (List.getD p.snd.snd.snd.fst (Int.toNat (gx ((0 : Int), (0 : Int)) x.snd.fst p.snd.fst).fst) [] ++ [(p.snd.fst, (gx ((0 : Int), (0 : Int)) x.snd.fst p.snd.fst).snd)])).set (Int.toNat (gx ((0 : Int), (0 : Int)) x.snd.fst p.snd.fst).snd) ((List.set p.snd.snd.snd.fst (Int.toNat (gx ((0 : Int), (0 : Int)) x.snd.fst p.snd.fst).fst) (List.getD p.snd.snd.snd.fst (Int.toNat (gx ((0 : Int), (0 : Int)) x.snd.fst p.snd.fst).fst) [] ++ [(p.snd.fst, (gx ((0 : Int), (0 : Int)) x.snd.fst p.snd.fst).snd)])).getD (Int.toNat (gx ((0 : Int), (0 : Int)) x.snd.fst p.snd.fst).snd) [] ++ [(p.snd.fst, (gx ((0 : Int), (0 : Int)) x.snd.fst p.snd.fst).fst)]), ())) ∧ (((((List.set p.snd.snd.snd.fst (Int.toNat (gx ((0 : Int), (0 : Int)) x.snd.fst p.snd.fst).fst) (List.getD p.snd.snd.snd.fst (Int.toNat (gx ((0 : Int), (0 : Int)) x.snd.fst p.snd.fst).fst) [] ++ [(p.snd.fst, (gx ((0 : Int), (0 : Int)) x.snd.fst p.snd.fst).snd)])).getD (Int.toNat (gx ((0 : Int), (0 : Int)) x.snd.fst p.snd.fst).snd) []).length + [(p.snd.fst, (gx ((0 : Int), (0 : Int)) x.snd.fst p.snd.fst).fst)].length) * (16 : Nat) ≤ (140737488355328 : Nat) ∧ ((List.set p.snd.snd.snd.fst (Int.toNat (gx ((0 : Int), (0 : Int)) x.snd.fst p.snd.fst).fst) (List.getD p.snd.snd.snd.fst (Int.toNat (gx ((0 : Int), (0 : Int)) x.snd.fst p.snd.fst).fst) [] ++ [(p.snd.fst, (gx ((0 : Int), (0 : Int)) x.snd.fst p.snd.fst).snd)])).getD (Int.toNat (gx ((0 : Int), (0 : Int)) x.snd.fst p.snd.fst).snd) []).length + [(p.snd.fst, (gx ((0 : Int), (0 : Int)) x.snd.fst p.snd.fst).fst)].length ≤ 9223372036854775807) ∧ ((0 : Int) ≤ (gx ((0 : Int), (0 : Int)) x.snd.fst p.snd.fst).snd ∧ (gx ((0 : Int), (0 : Int)) x.snd.fst p.snd.fst).snd < (↑(List.set p.snd.snd.snd.fst (Int.toNat (gx ((0 : Int), (0 : Int)) x.snd.fst p.snd.fst).fst) (List.getD p.snd.snd.snd.fst (Int.toNat (gx ((0 : Int), (0 : Int)) x.snd.fst p.snd.fst).fst) [] ++ [(p.snd.fst, (gx ((0 : Int), (0 : Int)) x.snd.fst p.snd.fst).snd)])).length : Int)) ∧ Int.toNat (gx ((0 : Int), (0 : Int)) x.snd.fst p.snd.fst).snd = Int.toNat (gx ((0 : Int), (0 : Int)) x.snd.fst p.snd.fst).snd ∧ J (p.fst ++ [p.snd.fst], o.fst, (List.set p.snd.snd.snd.fst (Int.toNat (gx ((0 : Int), (0 : Int)) x.snd.fst p.snd.fst).fst) (List.getD p.snd.snd.snd.fst (Int.toNat (gx ((0 : Int), (0 : Int)) x.snd.fst p.snd.fst).fst) [] ++ [(p.snd.fst, (gx ((0 : Int), (0 : Int)) x.snd.fst p.snd.fst).snd)])).set (Int.toNat (gx ((0 : Int), (0 : Int)) x.snd.fst p.snd.fst).snd) ((List.set p.snd.snd.snd.fst (Int.toNat (gx ((0 : Int), (0 : Int)) x.snd.fst p.snd.fst).fst) (List.getD p.snd.snd.snd.fst (Int.toNat (gx ((0 : Int), (0 : Int)) x.snd.fst p.snd.fst).fst) [] ++ [(p.snd.fst, (gx ((0 : Int), (0 : Int)) x.snd.fst p.snd.fst).snd)])).getD (Int.toNat (gx ((0 : Int), (0 : Int)) x.snd.fst p.snd.fst).snd) [] ++ [(p.snd.fst, (gx ((0 : Int), (0 : Int)) x.snd.fst p.snd.fst).fst)]), ())) ∧ ((((List.set p.snd.snd.snd.fst (Int.toNat (gx ((0 : Int), (0 : Int)) x.snd.fst p.snd.fst).fst) (List.getD p.snd.snd.snd.fst (Int.toNat (gx ((0 : Int), (0 : Int)) x.snd.fst p.snd.fst).fst) [] ++ [(p.snd.fst, (gx ((0 : Int), (0 : Int)) x.snd.fst p.snd.fst).snd)])).getD (Int.toNat (gx ((0 : Int), (0 : Int)) x.snd.fst p.snd.fst).snd) []).length + [(p.snd.fst, (gx ((0 : Int), (0 : Int)) x.snd.fst p.snd.fst).fst)].length) * (16 : Nat) ≤ (140737488355328 : Nat) ∧ ((List.set p.snd.snd.snd.fst (Int.toNat (gx ((0 : Int), (0 : Int)) x.snd.fst p.snd.fst).fst) (List.getD p.snd.snd.snd.fst (Int.toNat (gx ((0 : Int), (0 : Int)) x.snd.fst p.snd.fst).fst) [] ++ [(p.snd.fst, (gx ((0 : Int), (0 : Int)) x.snd.fst p.snd.fst).snd)])).getD (Int.toNat (gx ((0 : Int), (0 : Int)) x.snd.fst p.snd.fst).snd) []).length + [(p.snd.fst, (gx ((0 : Int), (0 : Int)) x.snd.fst p.snd.fst).fst)].length ≤ 9223372036854775807) ∧ ((0 : Int) ≤ (gx ((0 : Int), (0 : Int)) x.snd.fst p.snd.fst).snd ∧ (gx ((0 : Int), (0 : Int)) x.snd.fst p.snd.fst).snd < (↑(List.set p.snd.snd.snd.fst (Int.toNat (gx ((0 : Int), (0 : Int)) x.snd.fst p.snd.fst).fst) (List.getD p.snd.snd.snd.fst (Int.toNat (gx ((0 : Int), (0 : Int)) x.snd.fst p.snd.fst).fst) [] ++ [(p.snd.fst, (gx ((0 : Int), (0 : Int)) x.snd.fst p.snd.fst).snd)])).length : Int)) ∧ Int.toNat (gx ((0 : Int), (0 : Int)) x.snd.fst p.snd.fst).snd = Int.toNat (gx ((0 : Int), (0 : Int)) x.snd.fst p.snd.fst).snd ∧ J (p.fst ++ [p.snd.fst], o.fst, (List.set p.snd.snd.snd.fst (Int.toNat (gx ((0 : Int), (0 : Int)) x.snd.fst p.snd.fst).fst) (List.getD p.snd.snd.snd.fst (Int.toNat (gx ((0 : Int), (0 : Int)) x.snd.fst p.snd.fst).fst) [] ++ [(p.snd.fst, (gx ((0 : Int), (0 : Int)) x.snd.fst p.snd.fst).snd)])).set (Int.toNat (gx ((0 : Int), (0 : Int)) x.snd.fst p.snd.fst).snd) ((List.set p.snd.snd.snd.fst (Int.toNat (gx ((0 : Int), (0 : Int)) x.snd.fst p.snd.fst).fst) (List.getD p.snd.snd.snd.fst (Int.toNat (gx ((0 : Int), (0 : Int)) x.snd.fst p.snd.fst).fst) [] ++ [(p.snd.fst, (gx ((0 : Int), (0 : Int)) x.snd.fst p.snd.fst).snd)])).getD (Int.toNat (gx ((0 : Int), (0 : Int)) x.snd.fst p.snd.fst).snd) [] ++ [(p.snd.fst, (gx ((0 : Int), (0 : Int)) x.snd.fst p.snd.fst).fst)]), ())) ∧ (r_1.fst = false → J (p.fst, o.fst, p.snd.snd.snd.fst, ()))) ∧ ∀ (p_1 : List Int × List Int × List (List (Int × Int)) × Unit), WfI p_1.fst ∧ WfI p_1.snd.fst ∧ (List.length p_1.snd.snd.fst ≤ 9223372036854775807 ∧ ∀ (x : List (Int × Int)), x ∈ p_1.snd.snd.fst → x.length ≤ 9223372036854775807 ∧ ∀ (x_1 : Int × Int), x_1 ∈ x → In64 x_1.fst ∧ In64 x_1.snd) ∧ True → J p_1 → I (p_1.fst, IntKind.i64.wrap (p.snd.fst + (1 : Int)), p_1.snd.fst, p_1.snd.snd.fst, ()) ∧ μ (p_1.fst, IntKind.i64.wrap (p.snd.fst + (1 : Int)), p_1.snd.fst, p_1.snd.snd.fst, ()) < μ p) ∧ (decide (p.snd.fst < (↑(List.length x.snd.fst) : Int)) = false → p.fst = forestF x.fst x.snd.fst ∧ p.snd.snd.snd.fst = nextT x.fst x.snd.fst)
theorem vc_topology_tree_eq (x : dens s_topology_tree.args) : semF ⟨Tryz.prog, tysR⟩ sp_topology_tree an_topology_tree s_topology_tree Tryz.f31.results.toList (Tryz.f31.body.getD .skip) x = vc_topology_tree x := by kernel_rfl
theorem m_topology_tree (hsp : SpOk Tryz.prog sp_topology_tree) (h : ∀ x, awf s_topology_tree.args x → s_topology_tree.pre x → vc_topology_tree x) : Meets Tryz.prog 31 s_topology_tree := meets_vc (cx := ⟨Tryz.prog, tysR⟩) (sp := sp_topology_tree) (an := an_topology_tree) (s := s_topology_tree) (fn := Tryz.f31) (c := Tryz.f31.body.getD .skip) Tryz.func31 (by kernel_rfl) (Nat.le_of_ble_eq_true (by kernel_rfl)) (by kernel_rfl) tysR_ok hsp vc_topology_tree_eq h
def vc_topology_Islands : dens s_topology_Islands.args → Prop := fun (x : Int × List (Int × Int) × Unit) => True ∧ ∀ (r : Int × Unit), In64 r.fst ∧ True → r.fst = netE x.fst x.snd.fst → (decide (r.fst ≠ (0 : Int)) = true → (nilL Int = if netE x.fst x.snd.fst = (0 : Int) then labs x.fst x.snd.fst else []) ∧ r.fst = netE x.fst x.snd.fst) ∧ (decide (r.fst ≠ (0 : Int)) = false → ((0 : Int) ≤ x.fst ∧ x.fst ≤ (16384 : Int)) ∧ ∀ (r_1 : List Int × Unit), WfI r_1.fst ∧ True → r_1.fst = idL x.fst → ∃ (I : Int × List Int × Unit → Prop), ∃ (μ : Int × List Int × Unit → Nat), I ((0 : Int), r_1) ∧ ∀ (p : Int × List Int × Unit), In64 p.fst ∧ WfI p.snd.fst ∧ True → I p → (decide (p.fst < (↑(List.length x.snd.fst) : Int)) = true → ((0 : Int) ≤ p.fst ∧ p.fst < (↑(List.length x.snd.fst) : Int)) ∧ (UF p.snd.fst ∧ inB (↑(List.length p.snd.fst) : Int) (gx ((0 : Int), (0 : Int)) x.snd.fst p.fst) ∧ List.length p.snd.fst ≤ (16384 : Nat)) ∧ ∀ (r_2 : Bool × Unit) (o : List Int × Unit), True ∧ True → (Ty.int IntKind.i64).sl.wf o.fst ∧ True → r_2.fst = decide (root p.snd.fst (gx ((0 : Int), (0 : Int)) x.snd.fst p.fst).fst ≠ root p.snd.fst (gx ((0 : Int), (0 : Int)) x.snd.fst p.fst).snd) → (UF o.fst ∧ o.fst.length = List.length p.snd.fst ∧ ∀ (i : Int), (0 : Int) ≤ i → i < (↑(List.length p.snd.fst) : Int) → root o.fst i = if root p.snd.fst i = Max.max (root p.snd.fst (gx ((0 : Int), (0 : Int)) x.snd.fst p.fst).fst) (root p.snd.fst (gx ((0 : Int), (0 : Int)) x.snd.fst p.fst).snd) then Min.min (root p.snd.fst (gx ((0 : Int), (0 : Int)) x.snd.fst p.fst).fst) (root p.snd.fst (gx ((0 : Int), (0 : Int)) x.snd.fst p.fst).snd) else root p.snd.fst i) → I (IntKind.i64.wrap (p.fst + (1 : Int)), o) ∧ μ (IntKind.i64.wrap (p.fst + (1 : Int)), o) < μ p) ∧ (decide (p.fst < (↑(List.length x.snd.fst) : Int)) = false → ((0 : Int) ≤ x.fst ∧ x.fst ≤ x.fst ∧ (↑(8 : Nat) : Int) * x.fst ≤ (281474976710656 : Int) ∧ x.fst ≤ (9223372036854775807 : Int)) ∧ ∃ (I : Int × List Int × List Int × Unit → Prop), ∃ (μ : Int × List Int × List Int × Unit → Nat), I ((0 : Int), p.snd.fst, List.replicate (Int.toNat x.fst) (0 : Int), ()) ∧ ∀ (p : Int × List Int × List Int × Unit), In64 p.fst ∧ WfI p.snd.fst ∧ WfI p.snd.snd.fst ∧ True → I p → (decide (p.fst < (↑(List.replicate (Int.toNat x.fst) (0 : Int)).length : Int)) = true → (UF p.snd.fst ∧ (0 : Int) ≤ p.fst ∧ p.fst < (↑(List.length p.snd.fst) : Int) ∧ List.length p.snd.fst ≤ (16384 : Nat)) ∧ ∀ (r : Int × Unit) (o : List Int × Unit), In64 r.fst ∧ True → (Ty.int IntKind.i64).sl.wf o.fst ∧ True → r.fst = root p.snd.fst p.fst → (UF o.fst ∧ o.fst.length = List.length p.snd.fst ∧ ∀ (i : Int), (0 : Int) ≤ i → i < (↑(List.length p.snd.fst) : Int) → root o.fst i = root p.snd.fst i) → ((0 : Int) ≤ p.fst ∧ p.fst < (↑(List.length p.snd.snd.fst) : Int)) ∧ I (IntKind.i64.wrap (p.fst + (1 : Int)), o.fst, List.set p.snd.snd.fst (Int.toNat p.fst) r.fst, ()) ∧ μ (IntKind.i64.wrap (p.fst + (1 : Int)), o.fst, List.set p.snd.snd.fst (Int.toNat p.fst) r.fst, ()) < μ p) ∧ (decide (p.fst < (↑(List.replicate (Int.toNat x.fst) (0 : Int)).length : Int)) = false → (p.snd.snd.fst = if netE x.fst x.snd.fst = (0 : Int) then labs x.fst x.snd.fst else []) ∧ (0 : Int) = netE x.fst x.snd.fst)))
theorem vc_topology_Islands_eq (x : dens s_topology_Islands.args) : semF ⟨Tryz.prog, tys⟩ sp_topology_Islands an_topology_Islands s_topology_Islands Tryz.f9.results.toList (Tryz.f9.body.getD .skip) x = vc_topology_Islands x := by kernel_rfl
theorem m_topology_Islands (hsp : SpOk Tryz.prog sp_topology_Islands) (h : ∀ x, awf s_topology_Islands.args x → s_topology_Islands.pre x → vc_topology_Islands x) : Meets Tryz.prog 9 s_topology_Islands := meets_vc (cx := ⟨Tryz.prog, tys⟩) (sp := sp_topology_Islands) (an := an_topology_Islands) (s := s_topology_Islands) (fn := Tryz.f9) (c := Tryz.f9.body.getD .skip) Tryz.func9 (by kernel_rfl) (Nat.le_of_ble_eq_true (by kernel_rfl)) (by kernel_rfl) tys_ok hsp vc_topology_Islands_eq h
def vc_topology_Forest : dens s_topology_Forest.args → Prop := fun (x : Int × List (Int × Int) × Unit) => True ∧ ∀ (r : Int × Unit), In64 r.fst ∧ True → r.fst = netE x.fst x.snd.fst → (decide (r.fst ≠ (0 : Int)) = true → (nilL Int = if netE x.fst x.snd.fst = (0 : Int) then forestF x.fst x.snd.fst else []) ∧ r.fst = netE x.fst x.snd.fst) ∧ (decide (r.fst ≠ (0 : Int)) = false → netOk x.fst x.snd.fst ∧ ∀ (r : List Int × List (List (Int × Int)) × Unit), WfI r.fst ∧ (List.length r.snd.fst ≤ 9223372036854775807 ∧ ∀ (x : List (Int × Int)), x ∈ r.snd.fst → x.length ≤ 9223372036854775807 ∧ ∀ (x_1 : Int × Int), x_1 ∈ x → In64 x_1.fst ∧ In64 x_1.snd) ∧ True → r.fst = forestF x.fst x.snd.fst ∧ r.snd.fst = nextT x.fst x.snd.fst → (r.fst = if netE x.fst x.snd.fst = (0 : Int) then forestF x.fst x.snd.fst else []) ∧ (0 : Int) = netE x.fst x.snd.fst)
theorem vc_topology_Forest_eq (x : dens s_topology_Forest.args) : semF ⟨Tryz.prog, tys⟩ sp_topology_Forest an_topology_Forest s_topology_Forest Tryz.f8.results.toList (Tryz.f8.body.getD .skip) x = vc_topology_Forest x := by kernel_rfl
theorem m_topology_Forest (hsp : SpOk Tryz.prog sp_topology_Forest) (h : ∀ x, awf s_topology_Forest.args x → s_topology_Forest.pre x → vc_topology_Forest x) : Meets Tryz.prog 8 s_topology_Forest := meets_vc (cx := ⟨Tryz.prog, tys⟩) (sp := sp_topology_Forest) (an := an_topology_Forest) (s := s_topology_Forest) (fn := Tryz.f8) (c := Tryz.f8.body.getD .skip) Tryz.func8 (by kernel_rfl) (Nat.le_of_ble_eq_true (by kernel_rfl)) (by kernel_rfl) tys_ok hsp vc_topology_Forest_eq h
end Go.Proofs.YtppgpdigopffbaaGreat
namespace Go.Proofs.YtppgpdigopffbaaGreat
open Go.Vc Go.Gw
def Says (s L : List Int) : Prop := UF s ∧ s.length = L.length ∧ ∀ i : Int, 0 ≤ i → i < (s.length : Int) → root s i = lat L i
theorem says_id {n : Int} (h0 : 0 ≤ n) : Says (idL n) (idL n) := by
  have hu : UF (idL n) := fun i hi => by
    rw [idL_len] at hi
    rw [lat_idL (by omega) (by omega)]
    omega
  refine ⟨hu, rfl, fun i i0 i1 => ?_⟩
  have i2 := i1
  rw [idL_len] at i2
  rw [root_fix hu i0 i1 (lat_idL i0 (by omega)), lat_idL i0 (by omega)]
theorem says_join {s o L : List Int} {l : Ln} (h : Says s L) (hl : inB s.length l) (h1 : UF o) (h2 : o.length = s.length) (h3 : ∀ i : Int, 0 ≤ i → i < (s.length : Int) → root o i = if root s i = max (root s l.1) (root s l.2) then min (root s l.1) (root s l.2) else root s i) : Says o (joinF L l) := by
  obtain ⟨g1, g2, g3⟩ := h
  obtain ⟨a0, a1, b0, b1⟩ := hl
  refine ⟨h1, by rw [joinF_len]; omega, fun i i0 i1 => ?_⟩
  rw [h3 i i0 (by omega), lat_joinF i0 (by omega), g3 i i0 (by omega), g3 _ a0 a1, g3 _ b0 b1]
theorem vc_topology_Islands_ok (x : dens s_topology_Islands.args) (hw : awf s_topology_Islands.args x) (_ : s_topology_Islands.pre x) : vc_topology_Islands x := by
  obtain ⟨n, ls, _⟩ := x
  have hl : ls.length ≤ 9223372036854775807 := hw.2.1.1
  change Int at n
  change List (Int × Int) at ls
  simp only [vc_topology_Islands]
  refine ⟨trivial, ?_⟩
  rintro ⟨e, _⟩ _ he
  simp only at he ⊢
  subst he
  refine ⟨fun h => ?_, fun h => ?_⟩
  · have h := of_decide_eq_true h
    exact ⟨by rw [if_neg h], rfl⟩
  · have h : netE n ls = 0 := by simpa using h
    have hok := netE_ok.1 h
    obtain ⟨n0, n1, nb⟩ := hok
    refine ⟨⟨n0, n1⟩, ?_⟩
    rintro ⟨s0, _⟩ _ hs0
    simp only at hs0 ⊢
    subst hs0
    refine ⟨fun p => 0 ≤ p.1 ∧ p.1 ≤ (ls.length : Int) ∧ Says p.2.1 (labs n (ls.take p.1.toNat)), fun p => ((ls.length : Int) - p.1).toNat, ⟨by omega, by omega, by simpa [labs] using says_id n0⟩, ?_⟩
    rintro ⟨i, s, _⟩ _ ⟨h0, h1, h2⟩
    change Int at i
    change List Int at s
    simp only at h0 h1 h2 ⊢
    have hsl : s.length = n.toNat := by rw [h2.2.1, labs_len]
    refine ⟨fun hi => ?_, fun hi => ?_⟩
    · have hi := of_decide_eq_true hi
      have hin : inB (s.length : Int) (gx ((0 : Int), (0 : Int)) ls i) := by
        rw [hsl, show ((n.toNat : Nat) : Int) = n from by omega]
        exact nb _ (gx_mem h0 hi)
      refine ⟨⟨h0, hi⟩, ⟨h2.1, hin, by omega⟩, ?_⟩
      rintro ⟨r, _⟩ ⟨o, _⟩ _ _ _ ⟨g1, g2, g3⟩
      simp only at g1 g2 g3 ⊢
      rw [wr (by omega) (by omega)]
      refine ⟨⟨by omega, by omega, ?_⟩, by omega⟩
      rw [show (i + 1).toNat = i.toNat + 1 from by omega, take_snoc (d := ((0 : Int), (0 : Int))) (by omega), labs_snoc, ← gx_getD h0 hi]
      exact says_join h2 hin g1 g2 g3
    · have hi := of_decide_eq_false hi
      rw [take_all (by omega)] at h2
      simp only [List.length_replicate]
      refine ⟨by omega, fun p => 0 ≤ p.1 ∧ p.1 ≤ n ∧ Says p.2.1 (labs n ls) ∧ p.2.2.1.length = n.toNat ∧ ∀ j : Nat, (j : Int) < p.1 → p.2.2.1[j]? = some (lat (labs n ls) j), fun p => (n - p.1).toNat, ⟨by omega, by omega, h2, by simp, fun j hj => by omega⟩, ?_⟩
      rintro ⟨b, t, out, _⟩ _ ⟨q0, q1, q2, q3, q4⟩
      change Int at b
      change List Int at t out
      simp only at q0 q1 q2 q3 q4 ⊢
      have htl : t.length = n.toNat := by rw [q2.2.1, labs_len]
      refine ⟨fun hb => ?_, fun hb => ?_⟩
      · have hb := of_decide_eq_true hb
        refine ⟨⟨q2.1, q0, by omega, by omega⟩, ?_⟩
        rintro ⟨r, _⟩ ⟨o, _⟩ _ _ hr ⟨g1, g2, g3⟩
        simp only at hr g1 g2 g3 ⊢
        rw [wr (by omega) (by omega)]
        refine ⟨⟨q0, by omega⟩, ⟨by omega, by omega, ⟨g1, by rw [g2]; exact q2.2.1, fun i i0 i1 => by rw [g3 i i0 (by omega)]; exact q2.2.2 i i0 (by omega)⟩, by rw [List.length_set]; exact q3, fun j hj => ?_⟩, by omega⟩
        rw [List.getElem?_set]
        by_cases hij : b.toNat = j
        · rw [if_pos hij, if_pos (by omega), hr, q2.2.2 b q0 (by omega), show ((j : Nat) : Int) = b from by omega]
        · rw [if_neg hij]; exact q4 j (by omega)
      · have hb := of_decide_eq_false hb
        rw [if_pos h]
        refine ⟨?_, h.symm⟩
        apply List.ext_getElem?
        intro j
        by_cases hj : j < n.toNat
        · rw [q4 j (by omega)]
          have := lat_get (L := labs n ls) (i := (j : Int)) (by omega) (by rw [labs_len]; omega)
          rw [Int.toNat_natCast] at this
          exact this.symm
        · rw [List.getElem?_eq_none (by omega), List.getElem?_eq_none (by rw [labs_len]; omega)]
theorem vc_topology_Forest_ok (x : dens s_topology_Forest.args) (hw : awf s_topology_Forest.args x) (_ : s_topology_Forest.pre x) : vc_topology_Forest x := by
  obtain ⟨n, ls, _⟩ := x
  change Int at n
  change List (Int × Int) at ls
  simp only [vc_topology_Forest]
  refine ⟨trivial, ?_⟩
  rintro ⟨e, _⟩ _ he
  simp only at he ⊢
  subst he
  refine ⟨fun h => ?_, fun h => ?_⟩
  · have h := of_decide_eq_true h
    exact ⟨by rw [if_neg h], rfl⟩
  · have h : netE n ls = 0 := by simpa using h
    refine ⟨netE_ok.1 h, ?_⟩
    rintro ⟨f, N, _⟩ _ ⟨h1, _⟩
    exact ⟨by rw [if_pos h]; exact h1, h.symm⟩
theorem vc_topology_tree_ok (x : dens s_topology_tree.args) (hw : awf s_topology_tree.args x) (hp : s_topology_tree.pre x) : vc_topology_tree x := by
  obtain ⟨n, ls, _⟩ := x
  have hl : ls.length ≤ 9223372036854775807 := hw.2.1.1
  change Int at n
  change List (Int × Int) at ls
  have hok : netOk n ls := hp
  obtain ⟨n0, n1, nb⟩ := id hok
  simp only [vc_topology_tree]
  refine ⟨⟨n0, n1⟩, ?_⟩
  rintro ⟨s0, _⟩ _ hs0
  simp only at hs0 ⊢
  subst hs0
  refine ⟨by omega, fun p => 0 ≤ p.2.1 ∧ p.2.1 ≤ (ls.length : Int) ∧ p.1 = (treeF n ls p.2.1.toNat).2.1 ∧ Says p.2.2.1 (treeF n ls p.2.1.toNat).1 ∧ p.2.2.2.1 = (treeF n ls p.2.1.toNat).2.2, fun p => ((ls.length : Int) - p.2.1).toNat, ⟨Int.le_refl _, Int.natCast_nonneg _, rfl, says_id n0, rfl⟩, ?_⟩
  rintro ⟨f, i, s, N, _⟩ _ ⟨h0, h1, h2, h3, h4⟩
  change Int at i
  change List Int at s f
  change List (List (Int × Int)) at N
  simp only at h0 h1 h2 h3 h4 ⊢
  obtain ⟨t1, t2, t3, t4⟩ := treeF_spec hok i.toNat (by omega)
  have hfl := forest_le hok (k := i.toNat) (by omega)
  have hsl : s.length = n.toNat := by rw [h3.2.1, t1, labs_len]
  refine ⟨fun hi => ?_, fun hi => ?_⟩
  · have hi := of_decide_eq_true hi
    have hin : inB n (gx ((0 : Int), (0 : Int)) ls i) := nb _ (gx_mem h0 hi)
    have hg := gx_getD (d := ((0 : Int), (0 : Int))) h0 hi
    generalize gx ((0 : Int), (0 : Int)) ls i = l at hin hg ⊢
    obtain ⟨a, b⟩ := l
    obtain ⟨a0, a1, b0, b1⟩ := hin
    simp only at a0 a1 b0 b1 ⊢
    have hin2 : inB (s.length : Int) (a, b) := by rw [hsl]; exact ⟨a0, by omega, b0, by omega⟩
    have hNl : N.length = n.toNat := by rw [h4]; exact t3
    have hrow : ∀ (M : List (List Ln)) (m j : Nat), (∀ r ∈ M, r.length ≤ m) → (M.getD j []).length ≤ m := fun M m j hM => by
      rw [List.getD_eq_getElem?_getD]
      cases hi : M[j]? with
      | none => simp
      | some r => exact hM r (List.mem_of_getElem? hi)
    have hr1 : (N.getD a.toNat []).length ≤ 32768 := by have := hrow N _ a.toNat (by rw [h4]; exact t4); omega
    have hr2 : ((N.set a.toNat (N.getD a.toNat [] ++ [(i, b)])).getD b.toNat []).length ≤ 32769 := by
      refine hrow _ 32769 b.toNat fun r hr => ?_
      rcases List.mem_or_eq_of_mem_set hr with hr | hr
      · rw [h4] at hr; have := t4 r hr; omega
      · rw [hr, List.length_append, List.length_singleton]; omega
    have hf1 : f.length ≤ 16384 := by rw [h2]; exact hfl
    refine ⟨fun p => p.1 = (treeF n ls (i.toNat + 1)).2.1 ∧ Says p.2.1 (treeF n ls (i.toNat + 1)).1 ∧ p.2.2.1 = (treeF n ls (i.toNat + 1)).2.2, ⟨⟨h0, hi⟩, ⟨h3.1, hin2, by omega⟩, ?_⟩, ?_⟩
    · rintro ⟨r, _⟩ ⟨o, _⟩ _ _ hr ⟨g1, g2, g3⟩
      simp only at hr g1 g2 g3 ⊢
      have hra : root s a = lat (treeF n ls i.toNat).1 a := h3.2.2 a a0 (by omega)
      have hrb : root s b = lat (treeF n ls i.toNat).1 b := h3.2.2 b b0 (by omega)
      have hsj := says_join h3 hin2 g1 g2 g3
      refine ⟨fun ht => ?_, fun hf => ?_⟩
      · have hne : lat (treeF n ls i.toNat).1 a ≠ lat (treeF n ls i.toNat).1 b := by
          rw [ht] at hr
          have := of_decide_eq_true hr.symm
          rw [hra, hrb] at this; exact this
        have e1 : treeF n ls (i.toNat + 1) = (joinF (treeF n ls i.toNat).1 (a, b), (treeF n ls i.toNat).2.1 ++ [((i.toNat : Nat) : Int)], adj (treeF n ls i.toNat).2.2 i.toNat (a, b)) := by
          rw [treeF]
          simp only [← hg]
          rw [if_neg hne]
        have hii : ((i.toNat : Nat) : Int) = i := by omega
        have HJ : f ++ [i] = (treeF n ls (i.toNat + 1)).2.1 ∧ Says o (treeF n ls (i.toNat + 1)).1 ∧ (N.set a.toNat (N.getD a.toNat [] ++ [(i, b)])).set b.toNat ((N.set a.toNat (N.getD a.toNat [] ++ [(i, b)])).getD b.toNat [] ++ [(i, a)]) = (treeF n ls (i.toNat + 1)).2.2 := by
          rw [e1, hii]
          exact ⟨by rw [h2], hsj, by rw [h4]; rfl⟩
        have HA : (f.length + [i].length) * 8 ≤ 140737488355328 := by rw [List.length_singleton]; omega
        have HA2 : f.length + [i].length ≤ 9223372036854775807 := by rw [List.length_singleton]; omega
        have HB : ((N.getD a.toNat []).length + [(i, b)].length) * 16 ≤ 140737488355328 := by rw [List.length_singleton]; omega
        have HB2 : (N.getD a.toNat []).length + [(i, b)].length ≤ 9223372036854775807 := by rw [List.length_singleton]; omega
        have HC : (((N.set a.toNat (N.getD a.toNat [] ++ [(i, b)])).getD b.toNat []).length + [(i, a)].length) * 16 ≤ 140737488355328 := by rw [List.length_singleton]; omega
        have HC2 : ((N.set a.toNat (N.getD a.toNat [] ++ [(i, b)])).getD b.toNat []).length + [(i, a)].length ≤ 9223372036854775807 := by rw [List.length_singleton]; omega
        have HD : a < (N.length : Int) := by omega
        have HE : b < ((N.set a.toNat (N.getD a.toNat [] ++ [(i, b)])).length : Int) := by rw [List.length_set]; omega
        have H01 : (0 : Int) ≤ 1 := by omega
        have H12 : (1 : Int) < ((2 : Nat) : Int) := by omega
        have H02 : (0 : Int) < ((2 : Nat) : Int) := by omega
        have H00 : (0 : Int) ≤ 0 := by omega
        obtain ⟨J1, J2, J3⟩ := HJ
        repeat' (refine And.intro ?_ ?_)
        all_goals first | exact HA | exact HA2 | exact HB | exact HB2 | exact HC | exact HC2 | exact HD | exact HE | exact a0 | exact b0 | exact H00 | exact H01 | exact H12 | exact H02 | exact rfl | exact trivial | exact J1 | exact J2.1 | exact J2.2.1 | exact J2.2.2 | exact J3
      · have heq : lat (treeF n ls i.toNat).1 a = lat (treeF n ls i.toNat).1 b := by
          rw [hf] at hr
          have := of_decide_eq_false hr.symm
          rw [hra, hrb] at this
          simpa using this
        have e1 : treeF n ls (i.toNat + 1) = treeF n ls i.toNat := by
          rw [treeF]
          simp only [← hg]
          rw [if_pos heq]
        rw [e1]
        refine ⟨h2, ?_, h4⟩
        rw [joinF_id heq] at hsj
        exact hsj
    · rintro ⟨f', s', N', _⟩ _ ⟨k1, k2, k3⟩
      simp only at k1 k2 k3 ⊢
      rw [wr (by omega) (by omega), show (i + 1).toNat = i.toNat + 1 from by omega]
      exact ⟨⟨by omega, by omega, k1, k2, k3⟩, by omega⟩
  · have hi := of_decide_eq_false hi
    have : i.toNat = ls.length := by omega
    rw [this] at h2 h4
    exact ⟨h2, h4⟩
end Go.Proofs.YtppgpdigopffbaaGreat
namespace Go.Proofs.YtppgpdigopffbaaGreat
open Go.Vc Go.Gw
def an_topology_count : An := { join := [(7, ⟨[2, 7, 12, 13, 14], [], [(0, false, [.val (.int .i64)])], [], [(0, .row (.int .i64) 3)]⟩)], loop := [(3, ⟨[2, 7, 12, 13], [], [(0, false, [.val (.int .i64)]), (14, false, [.val (.int .i64)])], [], [(0, .row (.int .i64) 3)]⟩)] }
def sp_topology_count : Specs := [(32, s_topology_separate), (33, s_topology_sets_join)]
def an_topology_Separates : An := { loop := [(6, ⟨[0, 1, 9, 19, 20], [], [(21, false, [.val (.int .i64)])], [], [(0, .map false (.int .i64) false .bool)]⟩)] }
def sp_topology_Separates : Specs := [(30, s_topology_check), (60, s_topology_count)]
def an_r18_has : An := { loop := [(2, ⟨[0, 1], [], [(5, false, [.val (.int .i64)])], [], []⟩)] }
def sp_r18_has : Specs := []
def an_r18_Islands : An := { loop := [(3, ⟨[0, 1, 5], [], [(6, false, [.val (.int .i64)])], [], [(0, .row (.int .i64) 3)]⟩), (10, ⟨[1, 5, 23, 24], [], [(7, false, [.val .bool]), (25, false, [.val (.int .i64)])], [], [(0, .row (.int .i64) 3)]⟩), (7, ⟨[1, 5], [], [(7, false, [.val .bool])], [], [(0, .row (.int .i64) 3)]⟩)], plan := [(12, [2, 4, 7, 9], [], true, (.p 0 (.p 1 (.q 2 (.p 3 (.q 4 (.p 5 (.p 6 (.q 7 (.p 8 (.q 9 (.p 10 (.p 11 .done))))))))))))), (14, [2], [9, 11], false, (.p 0 (.p 1 (.q 2 (.p 3 (.p 4 (.p 6 (.p 7 (.p 8 (.or 5 (.e 9 (.p 10 (.e 11 .done))) (.e 9 (.e 5 (.p 10 (.e 11 .done))))))))))))))] }
def sp_r18_Islands : Specs := []
def an_r18_count : An := { join := [(4, ⟨[0, 4], [], [(3, false, [.val (.int .i64)])], [], []⟩)], loop := [(3, ⟨[0], [], [(3, false, [.val (.int .i64)]), (4, false, [.val (.int .i64)])], [], []⟩)] }
def sp_r18_count : Specs := []
def an_r18_Separated : An := { join := [(4, ⟨[0, 1, 2, 8], [], [(7, false, [.own (.pair (.int .i64) (.int .i64)) 30])], [], []⟩)], loop := [(3, ⟨[0, 1, 2], [], [(7, false, [.own (.pair (.int .i64) (.int .i64)) 30]), (8, false, [.val (.int .i64)])], [], []⟩)] }
def sp_r18_Separated : Specs := [(55, s_r18_Islands), (81, s_r18_has), (82, s_r18_count)]
def an_r19_Network : An := { loop := [(4, ⟨[0, 1], [], [(5, false, [.val (.int .i64)])], [], []⟩)] }
def sp_r19_Network : Specs := []
def an_r19_Forest : An := { join := [(4, ⟨[0, 1, 6], [], [(5, false, [.own (.int .i64) 3])], [], []⟩)], loop := [(3, ⟨[0, 1], [], [(5, false, [.own (.int .i64) 3]), (6, false, [.val (.int .i64)])], [], []⟩)], plan := [(6, [5, 7, 13, 15], [], true, (.p 0 (.p 1 (.p 2 (.p 3 (.p 4 (.q 5 (.p 6 (.q 7 (.p 8 (.p 9 (.p 10 (.p 11 (.p 12 (.q 13 (.p 14 (.q 15 (.p 16 .done))))))))))))))))))] }
def sp_r19_Forest : Specs := [(55, s_r18_Islands)]
def an_r19_Bridges : An := { join := [(4, ⟨[0, 1, 6], [], [(5, false, [.own (.int .i64) 3])], [], []⟩)], loop := [(3, ⟨[0, 1], [], [(5, false, [.own (.int .i64) 3]), (6, false, [.val (.int .i64)])], [], []⟩)] }
def sp_r19_Bridges : Specs := [(59, s_r18_Separated)]
def vc_topology_count : dens s_topology_count.args → Prop := fun (x : Int × List (Int × Int) × List (Int × Bool) × Unit) => ((0 : Int) ≤ x.fst ∧ x.fst ≤ (16384 : Int)) ∧ ∀ (r : List Int × Unit), WfI r.fst ∧ True → r.fst = idL x.fst → ∃ (I : Int × Int × List Int × Unit → Prop), ∃ (μ : Int × Int × List Int × Unit → Nat), I (x.fst, (0 : Int), r) ∧ ∀ (p : Int × Int × List Int × Unit), In64 p.fst ∧ In64 p.snd.fst ∧ WfI p.snd.snd.fst ∧ True → I p → (decide (p.snd.fst < (↑(List.length x.snd.fst) : Int)) = true → ∃ (J : Int × List Int × Unit → Prop), (((0 : Int) ≤ p.snd.fst ∧ p.snd.fst < (↑(List.length x.snd.fst) : Int)) ∧ ((!(mfind (Ty.int IntKind.i64) p.snd.fst x.snd.snd.fst).getD false) = true → (UF p.snd.snd.fst ∧ inB (↑(List.length p.snd.snd.fst) : Int) (gx ((0 : Int), (0 : Int)) x.snd.fst p.snd.fst) ∧ List.length p.snd.snd.fst ≤ (16384 : Nat)) ∧ ∀ (r_1 : Bool × Unit) (o : List Int × Unit), True ∧ True → (Ty.int IntKind.i64).sl.wf o.fst ∧ True → r_1.fst = decide (root p.snd.snd.fst (gx ((0 : Int), (0 : Int)) x.snd.fst p.snd.fst).fst ≠ root p.snd.snd.fst (gx ((0 : Int), (0 : Int)) x.snd.fst p.snd.fst).snd) → (UF o.fst ∧ o.fst.length = List.length p.snd.snd.fst ∧ ∀ (i : Int), (0 : Int) ≤ i → i < (↑(List.length p.snd.snd.fst) : Int) → root o.fst i = if root p.snd.snd.fst i = Max.max (root p.snd.snd.fst (gx ((0 : Int), (0 : Int)) x.snd.fst p.snd.fst).fst) (root p.snd.snd.fst (gx ((0 : Int), (0 : Int)) x.snd.fst p.snd.fst).snd) then Min.min (root p.snd.snd.fst (gx ((0 : Int), (0 : Int)) x.snd.fst p.snd.fst).fst) (root p.snd.snd.fst (gx ((0 : Int), (0 : Int)) x.snd.fst p.snd.fst).snd) else root p.snd.snd.fst i) → (sel (!(mfind (Ty.int IntKind.i64) p.snd.fst x.snd.snd.fst).getD false) r_1.fst false = true → J (IntKind.i64.wrap (p.fst - (1 : Int)), o)) ∧ (sel (!(mfind (Ty.int IntKind.i64) p.snd.fst x.snd.snd.fst).getD false) r_1.fst false = false → J (p.fst, o))) ∧ (((!(mfind (Ty.int IntKind.i64) p.snd.fst x.snd.snd.fst).getD false) = true → False) → (sel (!(mfind (Ty.int IntKind.i64) p.snd.fst x.snd.snd.fst).getD false) false false = true → J (IntKind.i64.wrap (p.fst - (1 : Int)), p.snd.snd.fst, ())) ∧ (sel (!(mfind (Ty.int IntKind.i64) p.snd.fst x.snd.snd.fst).getD false) false false = false → J (p.fst, p.snd.snd.fst, ())))) ∧ ∀ (p_1 : Int × List Int × Unit), In64 p_1.fst ∧ WfI p_1.snd.fst ∧ True → J p_1 → I (p_1.fst, IntKind.i64.wrap (p.snd.fst + (1 : Int)), p_1.snd.fst, ()) ∧ μ (p_1.fst, IntKind.i64.wrap (p.snd.fst + (1 : Int)), p_1.snd.fst, ()) < μ p) ∧ (decide (p.snd.fst < (↑(List.length x.snd.fst) : Int)) = false → p.fst = (↑(cnt (labs x.fst (without x.snd.fst fun (j : Nat) => mB x.snd.snd.fst (↑j : Int)))) : Int))
theorem vc_topology_count_eq (x : dens s_topology_count.args) : semF ⟨Tryz.prog, tys⟩ sp_topology_count an_topology_count s_topology_count Tryz.f60.results.toList (Tryz.f60.body.getD .skip) x = vc_topology_count x := by kernel_rfl
theorem m_topology_count (hsp : SpOk Tryz.prog sp_topology_count) (h : ∀ x, awf s_topology_count.args x → s_topology_count.pre x → vc_topology_count x) : Meets Tryz.prog 60 s_topology_count := meets_vc (cx := ⟨Tryz.prog, tys⟩) (sp := sp_topology_count) (an := an_topology_count) (s := s_topology_count) (fn := Tryz.f60) (c := Tryz.f60.body.getD .skip) Tryz.func60 (by kernel_rfl) (Nat.le_of_ble_eq_true (by kernel_rfl)) (by kernel_rfl) tys_ok hsp vc_topology_count_eq h
def vc_topology_Separates : dens s_topology_Separates.args → Prop := fun (x : Int × List (Int × Int) × List Int × Unit) => True ∧ ∀ (r : Int × Unit), In64 r.fst ∧ True → r.fst = netE x.fst x.snd.fst → (decide (r.fst ≠ (0 : Int)) = true → (netE x.fst x.snd.fst ≠ (0 : Int) → false = false ∧ r.fst = netE x.fst x.snd.fst) ∧ (netE x.fst x.snd.fst = (0 : Int) → (∀ (i : Int), i ∈ x.snd.snd.fst → (0 : Int) ≤ i ∧ i < (↑x.snd.fst.length : Int)) → (false = sep x.fst x.snd.fst fun (j : Nat) => decide ((↑j : Int) ∈ x.snd.snd.fst)) ∧ r.fst = (0 : Int)) ∧ (netE x.fst x.snd.fst = (0 : Int) → (¬∀ (i : Int), i ∈ x.snd.snd.fst → (0 : Int) ≤ i ∧ i < (↑x.snd.fst.length : Int)) → false = false ∧ r.fst = (12 : Int))) ∧ (decide (r.fst ≠ (0 : Int)) = false → ∃ (I : Int × List (Int × Bool) × Unit → Prop), ∃ (μ : Int × List (Int × Bool) × Unit → Nat), I ((0 : Int), [], ()) ∧ ∀ (p : Int × List (Int × Bool) × Unit), In64 p.fst ∧ (∀ (x : Int × Bool), x ∈ p.snd.fst → In64 x.fst ∧ True) ∧ True → I p → (decide (p.fst < (↑(List.length x.snd.snd.fst) : Int)) = true → ((0 : Int) ≤ p.fst ∧ p.fst < (↑(List.length x.snd.snd.fst) : Int)) ∧ (sel (decide (gx (0 : Int) x.snd.snd.fst p.fst < (0 : Int))) true (decide ((↑(List.length x.snd.fst) : Int) ≤ gx (0 : Int) x.snd.snd.fst p.fst)) = true → (netE x.fst x.snd.fst ≠ (0 : Int) → false = false ∧ (12 : Int) = netE x.fst x.snd.fst) ∧ (netE x.fst x.snd.fst = (0 : Int) → (∀ (i : Int), i ∈ x.snd.snd.fst → (0 : Int) ≤ i ∧ i < (↑x.snd.fst.length : Int)) → (false = sep x.fst x.snd.fst fun (j : Nat) => decide ((↑j : Int) ∈ x.snd.snd.fst)) ∧ (12 : Int) = (0 : Int)) ∧ (netE x.fst x.snd.fst = (0 : Int) → (¬∀ (i : Int), i ∈ x.snd.snd.fst → (0 : Int) ≤ i ∧ i < (↑x.snd.fst.length : Int)) → false = false ∧ (12 : Int) = (12 : Int))) ∧ (sel (decide (gx (0 : Int) x.snd.snd.fst p.fst < (0 : Int))) true (decide ((↑(List.length x.snd.fst) : Int) ≤ gx (0 : Int) x.snd.snd.fst p.fst)) = false → I (IntKind.i64.wrap (p.fst + (1 : Int)), mput (Ty.int IntKind.i64) (gx (0 : Int) x.snd.snd.fst p.fst) true p.snd.fst, ()) ∧ μ (IntKind.i64.wrap (p.fst + (1 : Int)), mput (Ty.int IntKind.i64) (gx (0 : Int) x.snd.snd.fst p.fst) true p.snd.fst, ()) < μ p)) ∧ (decide (p.fst < (↑(List.length x.snd.snd.fst) : Int)) = false → netOk x.fst x.snd.fst ∧ ∀ (r : Int × Unit), In64 r.fst ∧ True → r.fst = (↑(cnt (labs x.fst (without x.snd.fst fun (j : Nat) => mB p.snd.fst (↑j : Int)))) : Int) → netOk x.fst x.snd.fst ∧ ∀ (r_1 : Int × Unit), In64 r_1.fst ∧ True → r_1.fst = (↑(cnt (labs x.fst (without x.snd.fst fun (j : Nat) => mB [] (↑j : Int)))) : Int) → (netE x.fst x.snd.fst ≠ (0 : Int) → decide (r_1.fst < r.fst) = false ∧ (0 : Int) = netE x.fst x.snd.fst) ∧ (netE x.fst x.snd.fst = (0 : Int) → (∀ (i : Int), i ∈ x.snd.snd.fst → (0 : Int) ≤ i ∧ i < (↑x.snd.fst.length : Int)) → (decide (r_1.fst < r.fst) = sep x.fst x.snd.fst fun (j : Nat) => decide ((↑j : Int) ∈ x.snd.snd.fst)) ∧ (0 : Int) = (0 : Int)) ∧ (netE x.fst x.snd.fst = (0 : Int) → (¬∀ (i : Int), i ∈ x.snd.snd.fst → (0 : Int) ≤ i ∧ i < (↑x.snd.fst.length : Int)) → decide (r_1.fst < r.fst) = false ∧ (0 : Int) = (12 : Int))))
theorem vc_topology_Separates_eq (x : dens s_topology_Separates.args) : semF ⟨Tryz.prog, tys⟩ sp_topology_Separates an_topology_Separates s_topology_Separates Tryz.f29.results.toList (Tryz.f29.body.getD .skip) x = vc_topology_Separates x := by kernel_rfl
theorem m_topology_Separates (hsp : SpOk Tryz.prog sp_topology_Separates) (h : ∀ x, awf s_topology_Separates.args x → s_topology_Separates.pre x → vc_topology_Separates x) : Meets Tryz.prog 29 s_topology_Separates := meets_vc (cx := ⟨Tryz.prog, tys⟩) (sp := sp_topology_Separates) (an := an_topology_Separates) (s := s_topology_Separates) (fn := Tryz.f29) (c := Tryz.f29.body.getD .skip) Tryz.func29 (by kernel_rfl) (Nat.le_of_ble_eq_true (by kernel_rfl)) (by kernel_rfl) tys_ok hsp vc_topology_Separates_eq h
def vc_r18_has : dens s_r18_has.args → Prop := fun (x : List Int × Int × Unit) => ∃ (I : Int × Unit → Prop), ∃ (μ : Int × Unit → Nat), I ((0 : Int), ()) ∧ ∀ (p : Int × Unit), In64 p.fst ∧ True → I p → (decide (p.fst < (↑(List.length x.fst) : Int)) = true → ((0 : Int) ≤ p.fst ∧ p.fst < (↑(List.length x.fst) : Int)) ∧ (decide (gx (0 : Int) x.fst p.fst = x.snd.fst) = true → true = decide (x.snd.fst ∈ x.fst)) ∧ (decide (gx (0 : Int) x.fst p.fst = x.snd.fst) = false → I (IntKind.i64.wrap (p.fst + (1 : Int)), ()) ∧ μ (IntKind.i64.wrap (p.fst + (1 : Int)), ()) < μ p)) ∧ (decide (p.fst < (↑(List.length x.fst) : Int)) = false → false = decide (x.snd.fst ∈ x.fst))
theorem vc_r18_has_eq (x : dens s_r18_has.args) : semF ⟨Tryz.prog, tys⟩ sp_r18_has an_r18_has s_r18_has Tryz.f81.results.toList (Tryz.f81.body.getD .skip) x = vc_r18_has x := by kernel_rfl
theorem m_r18_has (hsp : SpOk Tryz.prog sp_r18_has) (h : ∀ x, awf s_r18_has.args x → s_r18_has.pre x → vc_r18_has x) : Meets Tryz.prog 81 s_r18_has := meets_vc (cx := ⟨Tryz.prog, tys⟩) (sp := sp_r18_has) (an := an_r18_has) (s := s_r18_has) (fn := Tryz.f81) (c := Tryz.f81.body.getD .skip) Tryz.func81 (by kernel_rfl) (Nat.le_of_ble_eq_true (by kernel_rfl)) (by kernel_rfl) tys_ok hsp vc_r18_has_eq h
def vc_r18_Islands : dens s_r18_Islands.args → Prop := fun (x : Int × List (Int × Int) × Unit) => ((0 : Int) ≤ x.fst ∧ x.fst ≤ x.fst ∧ (↑(8 : Nat) : Int) * x.fst ≤ (281474976710656 : Int) ∧ x.fst ≤ (9223372036854775807 : Int)) ∧ ∃ (I : Int × List Int × Unit → Prop), ∃ (μ : Int × List Int × Unit → Nat), I ((0 : Int), List.replicate (Int.toNat x.fst) (0 : Int), ()) ∧ ∀ (p : Int × List Int × Unit), In64 p.fst ∧ WfI p.snd.fst ∧ True → I p → (decide (p.fst < x.fst) = true → ((0 : Int) ≤ p.fst ∧ p.fst < (↑(List.length p.snd.fst) : Int)) ∧ I (IntKind.i64.wrap (p.fst + (1 : Int)), List.set p.snd.fst (Int.toNat p.fst) p.fst, ()) ∧ μ (IntKind.i64.wrap (p.fst + (1 : Int)), List.set p.snd.fst (Int.toNat p.fst) p.fst, ()) < μ p) ∧ (decide (p.fst < x.fst) = false → ∃ (I : Bool × List Int × Unit → Prop), ∃ (μ : Bool × List Int × Unit → Nat), I (true, p.snd.fst, ()) ∧ ∀ (p_1 : Bool × List Int × Unit), True ∧ WfI p_1.snd.fst ∧ True → I p_1 → (p_1.fst = true → ∃ (I_1 : Bool × Int × List Int × Unit → Prop), ∃ (μ_1 : Bool × Int × List Int × Unit → Nat), I_1 (false, (0 : Int), p_1.snd.fst, ()) ∧ ∀ (p_2 : Bool × Int × List Int × Unit), True ∧ In64 p_2.snd.fst ∧ WfI p_2.snd.snd.fst ∧ True → I_1 p_2 → (decide (p_2.snd.fst < (↑(List.length x.snd.fst) : Int)) = true → ((0 : Int) ≤ p_2.snd.fst ∧ p_2.snd.fst < (↑(List.length x.snd.fst) : Int)) ∧ ((0 : Int) ≤ (0 : Int) ∧ (0 : Int) < (↑(2 : Nat) : Int)) ∧ ((0 : Int) ≤ (gx ((0 : Int), (0 : Int)) x.snd.fst p_2.snd.fst).fst ∧ (gx ((0 : Int), (0 : Int)) x.snd.fst p_2.snd.fst).fst < (↑(List.length p_2.snd.snd.fst) : Int)) ∧ ((0 : Int) ≤ (1 : Int) ∧ (1 : Int) < (↑(2 : Nat) : Int)) ∧ ((0 : Int) ≤ (gx ((0 : Int), (0 : Int)) x.snd.fst p_2.snd.fst).snd ∧ (gx ((0 : Int), (0 : Int)) x.snd.fst p_2.snd.fst).snd < (↑(List.length p_2.snd.snd.fst) : Int)) ∧ (p_2.fst = false → (0 : Int) ≤ (0 : Int) ∧ (0 : Int) < (↑(2 : Nat) : Int)) ∧ (p_2.fst = false → (0 : Int) ≤ (gx ((0 : Int), (0 : Int)) x.snd.fst p_2.snd.fst).fst ∧ (gx ((0 : Int), (0 : Int)) x.snd.fst p_2.snd.fst).fst < (↑(List.length p_2.snd.snd.fst) : Int)) ∧ (sel p_2.fst true (decide (List.getD p_2.snd.snd.fst (Int.toNat (gx ((0 : Int), (0 : Int)) x.snd.fst p_2.snd.fst).fst) (0 : Int) ≠ Min.min (List.getD p_2.snd.snd.fst (Int.toNat (gx ((0 : Int), (0 : Int)) x.snd.fst p_2.snd.fst).fst) (0 : Int)) (List.getD p_2.snd.snd.fst (Int.toNat (gx ((0 : Int), (0 : Int)) x.snd.fst p_2.snd.fst).snd) (0 : Int)))) = false → (0 : Int) ≤ (1 : Int) ∧ (1 : Int) < (↑(2 : Nat) : Int)) ∧ (sel p_2.fst true (decide (List.getD p_2.snd.snd.fst (Int.toNat (gx ((0 : Int), (0 : Int)) x.snd.fst p_2.snd.fst).fst) (0 : Int) ≠ Min.min (List.getD p_2.snd.snd.fst (Int.toNat (gx ((0 : Int), (0 : Int)) x.snd.fst p_2.snd.fst).fst) (0 : Int)) (List.getD p_2.snd.snd.fst (Int.toNat (gx ((0 : Int), (0 : Int)) x.snd.fst p_2.snd.fst).snd) (0 : Int)))) = false → (0 : Int) ≤ (gx ((0 : Int), (0 : Int)) x.snd.fst p_2.snd.fst).snd ∧ (gx ((0 : Int), (0 : Int)) x.snd.fst p_2.snd.fst).snd < (↑(List.length p_2.snd.snd.fst) : Int)) ∧ ((0 : Int) ≤ (0 : Int) ∧ (0 : Int) < (↑(2 : Nat) : Int)) ∧ ((0 : Int) ≤ (1 : Int) ∧ (1 : Int) < (↑(2 : Nat) : Int)) ∧ ((0 : Int) ≤ (gx ((0 : Int), (0 : Int)) x.snd.fst p_2.snd.fst).fst ∧ (gx ((0 : Int), (0 : Int)) x.snd.fst p_2.snd.fst).fst < (↑(List.length p_2.snd.snd.fst) : Int)) ∧ (((0 : Int) ≤ (gx ((0 : Int), (0 : Int)) x.snd.fst p_2.snd.fst).snd ∧ (gx ((0 : Int), (0 : Int)) x.snd.fst p_2.snd.fst).snd < (↑(List.set p_2.snd.snd.fst (Int.toNat (gx ((0 : Int), (0 : Int)) x.snd.fst p_2.snd.fst).fst) (Min.min (List.getD p_2.snd.snd.fst (Int.toNat (gx ((0 : Int), (0 : Int)) x.snd.fst p_2.snd.fst).fst) (0 : Int)) (List.getD p_2.snd.snd.fst (Int.toNat (gx ((0 : Int), (0 : Int)) x.snd.fst p_2.snd.fst).snd) (0 : Int)))).length : Int)) ∧ I_1 (sel (sel p_2.fst true (decide (List.getD p_2.snd.snd.fst (Int.toNat (gx ((0 : Int), (0 : Int)) x.snd.fst p_2.snd.fst).fst) (0 : Int) ≠ Min.min (List.getD p_2.snd.snd.fst (Int.toNat (gx ((0 : Int), (0 : Int)) x.snd.fst p_2.snd.fst).fst) (0 : Int)) (List.getD p_2.snd.snd.fst (Int.toNat (gx ((0 : Int), (0 : Int)) x.snd.fst p_2.snd.fst).snd) (0 : Int))))) true (decide (List.getD p_2.snd.snd.fst (Int.toNat (gx ((0 : Int), (0 : Int)) x.snd.fst p_2.snd.fst).snd) (0 : Int) ≠ Min.min (List.getD p_2.snd.snd.fst (Int.toNat (gx ((0 : Int), (0 : Int)) x.snd.fst p_2.snd.fst).fst) (0 : Int)) (List.getD p_2.snd.snd.fst (Int.toNat (gx ((0 : Int), (0 : Int)) x.snd.fst p_2.snd.fst).snd) (0 : Int)))), IntKind.i64.wrap (p_2.snd.fst + (1 : Int)), (List.set p_2.snd.snd.fst (Int.toNat (gx ((0 : Int), (0 : Int)) x.snd.fst p_2.snd.fst).fst) (Min.min (List.getD p_2.snd.snd.fst (Int.toNat (gx ((0 : Int), (0 : Int)) x.snd.fst p_2.snd.fst).fst) (0 : Int)) (List.getD p_2.snd.snd.fst (Int.toNat (gx ((0 : Int), (0 : Int)) x.snd.fst p_2.snd.fst).snd) (0 : Int)))).set (Int.toNat (gx ((0 : Int), (0 : Int)) x.snd.fst p_2.snd.fst).snd) (Min.min (List.getD p_2.snd.snd.fst (Int.toNat (gx ((0 : Int), (0 : Int)) x.snd.fst p_2.snd.fst).fst) (0 : Int)) (List.getD p_2.snd.snd.fst (Int.toNat (gx ((0 : Int), (0 : Int)) x.snd.fst p_2.snd.fst).snd) (0 : Int))), ()) ∧ μ_1 (sel (sel p_2.fst true (decide (List.getD p_2.snd.snd.fst (Int.toNat (gx ((0 : Int), (0 : Int)) x.snd.fst p_2.snd.fst).fst) (0 : Int) ≠ Min.min (List.getD p_2.snd.snd.fst (Int.toNat (gx ((0 : Int), (0 : Int)) x.snd.fst p_2.snd.fst).fst) (0 : Int)) (List.getD p_2.snd.snd.fst (Int.toNat (gx ((0 : Int), (0 : Int)) x.snd.fst p_2.snd.fst).snd) (0 : Int))))) true (decide (List.getD p_2.snd.snd.fst (Int.toNat (gx ((0 : Int), (0 : Int)) x.snd.fst p_2.snd.fst).snd) (0 : Int) ≠ Min.min (List.getD p_2.snd.snd.fst (Int.toNat (gx ((0 : Int), (0 : Int)) x.snd.fst p_2.snd.fst).fst) (0 : Int)) (List.getD p_2.snd.snd.fst (Int.toNat (gx ((0 : Int), (0 : Int)) x.snd.fst p_2.snd.fst).snd) (0 : Int)))), IntKind.i64.wrap (p_2.snd.fst + (1 : Int)), (List.set p_2.snd.snd.fst (Int.toNat (gx ((0 : Int), (0 : Int)) x.snd.fst p_2.snd.fst).fst) (Min.min (List.getD p_2.snd.snd.fst (Int.toNat (gx ((0 : Int), (0 : Int)) x.snd.fst p_2.snd.fst).fst) (0 : Int)) (List.getD p_2.snd.snd.fst (Int.toNat (gx ((0 : Int), (0 : Int)) x.snd.fst p_2.snd.fst).snd) (0 : Int)))).set (Int.toNat (gx ((0 : Int), (0 : Int)) x.snd.fst p_2.snd.fst).snd) (Min.min (List.getD p_2.snd.snd.fst (Int.toNat (gx ((0 : Int), (0 : Int)) x.snd.fst p_2.snd.fst).fst) (0 : Int)) (List.getD p_2.snd.snd.fst (Int.toNat (gx ((0 : Int), (0 : Int)) x.snd.fst p_2.snd.fst).snd) (0 : Int))), ()) < μ_1 p_2) ∧ ((0 : Int) ≤ (gx ((0 : Int), (0 : Int)) x.snd.fst p_2.snd.fst).snd ∧ (gx ((0 : Int), (0 : Int)) x.snd.fst p_2.snd.fst).snd < (↑(List.set p_2.snd.snd.fst (Int.toNat (gx ((0 : Int), (0 : Int)) x.snd.fst p_2.snd.fst).fst) (Min.min (List.getD p_2.snd.snd.fst (Int.toNat (gx ((0 : Int), (0 : Int)) x.snd.fst p_2.snd.fst).fst) (0 : Int)) (List.getD p_2.snd.snd.fst (Int.toNat (gx ((0 : Int), (0 : Int)) x.snd.fst p_2.snd.fst).snd) (0 : Int)))).length : Int)) ∧ I_1 (sel (sel p_2.fst true (decide (List.getD p_2.snd.snd.fst (Int.toNat (gx ((0 : Int), (0 : Int)) x.snd.fst p_2.snd.fst).fst) (0 : Int) ≠ Min.min (List.getD p_2.snd.snd.fst (Int.toNat (gx ((0 : Int), (0 : Int)) x.snd.fst p_2.snd.fst).fst) (0 : Int)) (List.getD p_2.snd.snd.fst (Int.toNat (gx ((0 : Int), (0 : Int)) x.snd.fst p_2.snd.fst).snd) (0 : Int))))) true (decide (List.getD p_2.snd.snd.fst (Int.toNat (gx ((0 : Int), (0 : Int)) x.snd.fst p_2.snd.fst).snd) (0 : Int) ≠ Min.min (List.getD p_2.snd.snd.fst (Int.toNat (gx ((0 : Int), (0 : Int)) x.snd.fst p_2.snd.fst).fst) (0 : Int)) (List.getD p_2.snd.snd.fst (Int.toNat (gx ((0 : Int), (0 : Int)) x.snd.fst p_2.snd.fst).snd) (0 : Int)))), IntKind.i64.wrap (p_2.snd.fst + (1 : Int)), (List.set p_2.snd.snd.fst (Int.toNat (gx ((0 : Int), (0 : Int)) x.snd.fst p_2.snd.fst).fst) (Min.min (List.getD p_2.snd.snd.fst (Int.toNat (gx ((0 : Int), (0 : Int)) x.snd.fst p_2.snd.fst).fst) (0 : Int)) (List.getD p_2.snd.snd.fst (Int.toNat (gx ((0 : Int), (0 : Int)) x.snd.fst p_2.snd.fst).snd) (0 : Int)))).set (Int.toNat (gx ((0 : Int), (0 : Int)) x.snd.fst p_2.snd.fst).snd) (Min.min (List.getD p_2.snd.snd.fst (Int.toNat (gx ((0 : Int), (0 : Int)) x.snd.fst p_2.snd.fst).fst) (0 : Int)) (List.getD p_2.snd.snd.fst (Int.toNat (gx ((0 : Int), (0 : Int)) x.snd.fst p_2.snd.fst).snd) (0 : Int))), ()) ∧ μ_1 (sel (sel p_2.fst true (decide (List.getD p_2.snd.snd.fst (Int.toNat (gx ((0 : Int), (0 : Int)) x.snd.fst p_2.snd.fst).fst) (0 : Int) ≠ Min.min (List.getD p_2.snd.snd.fst (Int.toNat (gx ((0 : Int), (0 : Int)) x.snd.fst p_2.snd.fst).fst) (0 : Int)) (List.getD p_2.snd.snd.fst (Int.toNat (gx ((0 : Int), (0 : Int)) x.snd.fst p_2.snd.fst).snd) (0 : Int))))) true (decide (List.getD p_2.snd.snd.fst (Int.toNat (gx ((0 : Int), (0 : Int)) x.snd.fst p_2.snd.fst).snd) (0 : Int) ≠ Min.min (List.getD p_2.snd.snd.fst (Int.toNat (gx ((0 : Int), (0 : Int)) x.snd.fst p_2.snd.fst).fst) (0 : Int)) (List.getD p_2.snd.snd.fst (Int.toNat (gx ((0 : Int), (0 : Int)) x.snd.fst p_2.snd.fst).snd) (0 : Int)))), IntKind.i64.wrap (p_2.snd.fst + (1 : Int)), (List.set p_2.snd.snd.fst (Int.toNat (gx ((0 : Int), (0 : Int)) x.snd.fst p_2.snd.fst).fst) (Min.min (List.getD p_2.snd.snd.fst (Int.toNat (gx ((0 : Int), (0 : Int)) x.snd.fst p_2.snd.fst).fst) (0 : Int)) (List.getD p_2.snd.snd.fst (Int.toNat (gx ((0 : Int), (0 : Int)) x.snd.fst p_2.snd.fst).snd) (0 : Int)))).set (Int.toNat (gx ((0 : Int), (0 : Int)) x.snd.fst p_2.snd.fst).snd) (Min.min (List.getD p_2.snd.snd.fst (Int.toNat (gx ((0 : Int), (0 : Int)) x.snd.fst p_2.snd.fst).fst) (0 : Int)) (List.getD p_2.snd.snd.fst (Int.toNat (gx ((0 : Int), (0 : Int)) x.snd.fst p_2.snd.fst).snd) (0 : Int))), ()) < μ_1 p_2) ∧ (decide (p_2.snd.fst < (↑(List.length x.snd.fst) : Int)) = false → I (p_2.fst, p_2.snd.snd.fst, ()) ∧ μ (p_2.fst, p_2.snd.snd.fst, ()) < μ p_1)) ∧ (p_1.fst = false → p_1.snd.fst = labs x.fst x.snd.fst))
theorem vc_r18_Islands_eq (x : dens s_r18_Islands.args) : semF ⟨Tryz.prog, tys⟩ sp_r18_Islands an_r18_Islands s_r18_Islands Tryz.f55.results.toList (Tryz.f55.body.getD .skip) x = vc_r18_Islands x := by kernel_rfl
theorem m_r18_Islands (hsp : SpOk Tryz.prog sp_r18_Islands) (h : ∀ x, awf s_r18_Islands.args x → s_r18_Islands.pre x → vc_r18_Islands x) : Meets Tryz.prog 55 s_r18_Islands := meets_vc (cx := ⟨Tryz.prog, tys⟩) (sp := sp_r18_Islands) (an := an_r18_Islands) (s := s_r18_Islands) (fn := Tryz.f55) (c := Tryz.f55.body.getD .skip) Tryz.func55 (by kernel_rfl) (Nat.le_of_ble_eq_true (by kernel_rfl)) (by kernel_rfl) tys_ok hsp vc_r18_Islands_eq h
def vc_r18_count : dens s_r18_count.args → Prop := fun (x : List Int × Unit) => ∃ (I : Int × Int × Unit → Prop), ∃ (μ : Int × Int × Unit → Nat), I ((0 : Int), (0 : Int), ()) ∧ ∀ (p : Int × Int × Unit), In64 p.fst ∧ In64 p.snd.fst ∧ True → I p → (decide (p.snd.fst < (↑(List.length x.fst) : Int)) = true → ∃ (J : Int × Unit → Prop), (((0 : Int) ≤ p.snd.fst ∧ p.snd.fst < (↑(List.length x.fst) : Int)) ∧ (decide (gx (0 : Int) x.fst p.snd.fst = p.snd.fst) = true → J (IntKind.i64.wrap (p.fst + (1 : Int)), ())) ∧ (decide (gx (0 : Int) x.fst p.snd.fst = p.snd.fst) = false → J (p.fst, ()))) ∧ ∀ (p_1 : Int × Unit), In64 p_1.fst ∧ True → J p_1 → I (p_1.fst, IntKind.i64.wrap (p.snd.fst + (1 : Int)), ()) ∧ μ (p_1.fst, IntKind.i64.wrap (p.snd.fst + (1 : Int)), ()) < μ p) ∧ (decide (p.snd.fst < (↑(List.length x.fst) : Int)) = false → p.fst = (↑(cnt x.fst) : Int))
theorem vc_r18_count_eq (x : dens s_r18_count.args) : semF ⟨Tryz.prog, tys⟩ sp_r18_count an_r18_count s_r18_count Tryz.f82.results.toList (Tryz.f82.body.getD .skip) x = vc_r18_count x := by kernel_rfl
theorem m_r18_count (hsp : SpOk Tryz.prog sp_r18_count) (h : ∀ x, awf s_r18_count.args x → s_r18_count.pre x → vc_r18_count x) : Meets Tryz.prog 82 s_r18_count := meets_vc (cx := ⟨Tryz.prog, tys⟩) (sp := sp_r18_count) (an := an_r18_count) (s := s_r18_count) (fn := Tryz.f82) (c := Tryz.f82.body.getD .skip) Tryz.func82 (by kernel_rfl) (Nat.le_of_ble_eq_true (by kernel_rfl)) (by kernel_rfl) tys_ok hsp vc_r18_count_eq h
def vc_r18_Separated : dens s_r18_Separated.args → Prop := fun (x : Int × List (Int × Int) × List Int × Unit) => ∃ (I : List (Int × Int) × Int × Unit → Prop), ∃ (μ : List (Int × Int) × Int × Unit → Nat), I ([], (0 : Int), ()) ∧ ∀ (p : List (Int × Int) × Int × Unit), (List.length p.fst ≤ 9223372036854775807 ∧ ∀ (x : Int × Int), x ∈ p.fst → In64 x.fst ∧ In64 x.snd) ∧ In64 p.snd.fst ∧ True → I p → (decide (p.snd.fst < (↑(List.length x.snd.fst) : Int)) = true → ∃ (J : List (Int × Int) × Unit → Prop), (True ∧ ∀ (r : Bool × Unit), True ∧ True → r.fst = decide (p.snd.fst ∈ x.snd.snd.fst) → ((!r.fst) = true → ((0 : Int) ≤ p.snd.fst ∧ p.snd.fst < (↑(List.length x.snd.fst) : Int)) ∧ ((List.length p.fst + [gx ((0 : Int), (0 : Int)) x.snd.fst p.snd.fst].length) * (16 : Nat) ≤ (140737488355328 : Nat) ∧ List.length p.fst + [gx ((0 : Int), (0 : Int)) x.snd.fst p.snd.fst].length ≤ 9223372036854775807) ∧ J (p.fst ++ [gx ((0 : Int), (0 : Int)) x.snd.fst p.snd.fst], ())) ∧ ((!r.fst) = false → J (p.fst, ()))) ∧ ∀ (p_1 : List (Int × Int) × Unit), (List.length p_1.fst ≤ 9223372036854775807 ∧ ∀ (x : Int × Int), x ∈ p_1.fst → In64 x.fst ∧ In64 x.snd) ∧ True → J p_1 → I (p_1.fst, IntKind.i64.wrap (p.snd.fst + (1 : Int)), ()) ∧ μ (p_1.fst, IntKind.i64.wrap (p.snd.fst + (1 : Int)), ()) < μ p) ∧ (decide (p.snd.fst < (↑(List.length x.snd.fst) : Int)) = false → netOk x.fst p.fst ∧ ∀ (r : List Int × Unit), WfI r.fst ∧ True → r.fst = labs x.fst p.fst → True ∧ ∀ (r_1 : Int × Unit), In64 r_1.fst ∧ True → r_1.fst = (↑(cnt r.fst) : Int) → netOk x.fst x.snd.fst ∧ ∀ (r : List Int × Unit), WfI r.fst ∧ True → r.fst = labs x.fst x.snd.fst → True ∧ ∀ (r_2 : Int × Unit), In64 r_2.fst ∧ True → r_2.fst = (↑(cnt r.fst) : Int) → decide (r_2.fst < r_1.fst) = sep x.fst x.snd.fst fun (j : Nat) => decide ((↑j : Int) ∈ x.snd.snd.fst))
theorem vc_r18_Separated_eq (x : dens s_r18_Separated.args) : semF ⟨Tryz.prog, tys⟩ sp_r18_Separated an_r18_Separated s_r18_Separated Tryz.f59.results.toList (Tryz.f59.body.getD .skip) x = vc_r18_Separated x := by kernel_rfl
theorem m_r18_Separated (hsp : SpOk Tryz.prog sp_r18_Separated) (h : ∀ x, awf s_r18_Separated.args x → s_r18_Separated.pre x → vc_r18_Separated x) : Meets Tryz.prog 59 s_r18_Separated := meets_vc (cx := ⟨Tryz.prog, tys⟩) (sp := sp_r18_Separated) (an := an_r18_Separated) (s := s_r18_Separated) (fn := Tryz.f59) (c := Tryz.f59.body.getD .skip) Tryz.func59 (by kernel_rfl) (Nat.le_of_ble_eq_true (by kernel_rfl)) (by kernel_rfl) tys_ok hsp vc_r18_Separated_eq h
def vc_r19_Network : dens s_r19_Network.args → Prop := fun (x : Int × List (Int × Int) × Unit) => (sel (decide (x.fst < (0 : Int))) true (decide ((16384 : Int) < x.fst)) = true → (3 : Int) = netE x.fst x.snd.fst) ∧ (sel (decide (x.fst < (0 : Int))) true (decide ((16384 : Int) < x.fst)) = false → ∃ (I : Int × Unit → Prop), ∃ (μ : Int × Unit → Nat), I ((0 : Int), ()) ∧ ∀ (p : Int × Unit), In64 p.fst ∧ True → I p → (decide (p.fst < (↑(List.length x.snd.fst) : Int)) = true → ((0 : Int) ≤ p.fst ∧ p.fst < (↑(List.length x.snd.fst) : Int)) ∧ ((0 : Int) ≤ (0 : Int) ∧ (0 : Int) < (↑(2 : Nat) : Int)) ∧ (decide ((gx ((0 : Int), (0 : Int)) x.snd.fst p.fst).fst < (0 : Int)) = false → (0 : Int) ≤ p.fst ∧ p.fst < (↑(List.length x.snd.fst) : Int)) ∧ (decide ((gx ((0 : Int), (0 : Int)) x.snd.fst p.fst).fst < (0 : Int)) = false → (0 : Int) ≤ (0 : Int) ∧ (0 : Int) < (↑(2 : Nat) : Int)) ∧ (sel (decide ((gx ((0 : Int), (0 : Int)) x.snd.fst p.fst).fst < (0 : Int))) true (decide (x.fst ≤ (gx ((0 : Int), (0 : Int)) x.snd.fst p.fst).fst)) = false → (0 : Int) ≤ p.fst ∧ p.fst < (↑(List.length x.snd.fst) : Int)) ∧ (sel (decide ((gx ((0 : Int), (0 : Int)) x.snd.fst p.fst).fst < (0 : Int))) true (decide (x.fst ≤ (gx ((0 : Int), (0 : Int)) x.snd.fst p.fst).fst)) = false → (0 : Int) ≤ (1 : Int) ∧ (1 : Int) < (↑(2 : Nat) : Int)) ∧ (sel (sel (decide ((gx ((0 : Int), (0 : Int)) x.snd.fst p.fst).fst < (0 : Int))) true (decide (x.fst ≤ (gx ((0 : Int), (0 : Int)) x.snd.fst p.fst).fst))) true (decide ((gx ((0 : Int), (0 : Int)) x.snd.fst p.fst).snd < (0 : Int))) = false → (0 : Int) ≤ p.fst ∧ p.fst < (↑(List.length x.snd.fst) : Int)) ∧ (sel (sel (decide ((gx ((0 : Int), (0 : Int)) x.snd.fst p.fst).fst < (0 : Int))) true (decide (x.fst ≤ (gx ((0 : Int), (0 : Int)) x.snd.fst p.fst).fst))) true (decide ((gx ((0 : Int), (0 : Int)) x.snd.fst p.fst).snd < (0 : Int))) = false → (0 : Int) ≤ (1 : Int) ∧ (1 : Int) < (↑(2 : Nat) : Int)) ∧ (sel (sel (sel (decide ((gx ((0 : Int), (0 : Int)) x.snd.fst p.fst).fst < (0 : Int))) true (decide (x.fst ≤ (gx ((0 : Int), (0 : Int)) x.snd.fst p.fst).fst))) true (decide ((gx ((0 : Int), (0 : Int)) x.snd.fst p.fst).snd < (0 : Int)))) true (decide (x.fst ≤ (gx ((0 : Int), (0 : Int)) x.snd.fst p.fst).snd)) = true → (12 : Int) = netE x.fst x.snd.fst) ∧ (sel (sel (sel (decide ((gx ((0 : Int), (0 : Int)) x.snd.fst p.fst).fst < (0 : Int))) true (decide (x.fst ≤ (gx ((0 : Int), (0 : Int)) x.snd.fst p.fst).fst))) true (decide ((gx ((0 : Int), (0 : Int)) x.snd.fst p.fst).snd < (0 : Int)))) true (decide (x.fst ≤ (gx ((0 : Int), (0 : Int)) x.snd.fst p.fst).snd)) = false → I (IntKind.i64.wrap (p.fst + (1 : Int)), ()) ∧ μ (IntKind.i64.wrap (p.fst + (1 : Int)), ()) < μ p)) ∧ (decide (p.fst < (↑(List.length x.snd.fst) : Int)) = false → (0 : Int) = netE x.fst x.snd.fst))
theorem vc_r19_Network_eq (x : dens s_r19_Network.args) : semF ⟨Tryz.prog, tys⟩ sp_r19_Network an_r19_Network s_r19_Network Tryz.f54.results.toList (Tryz.f54.body.getD .skip) x = vc_r19_Network x := by kernel_rfl
theorem m_r19_Network (hsp : SpOk Tryz.prog sp_r19_Network) (h : ∀ x, awf s_r19_Network.args x → s_r19_Network.pre x → vc_r19_Network x) : Meets Tryz.prog 54 s_r19_Network := meets_vc (cx := ⟨Tryz.prog, tys⟩) (sp := sp_r19_Network) (an := an_r19_Network) (s := s_r19_Network) (fn := Tryz.f54) (c := Tryz.f54.body.getD .skip) Tryz.func54 (by kernel_rfl) (Nat.le_of_ble_eq_true (by kernel_rfl)) (by kernel_rfl) tys_ok hsp vc_r19_Network_eq h
def vc_r19_Forest : dens s_r19_Forest.args → Prop := fun (x : Int × List (Int × Int) × Unit) => ∃ (I : List Int × Int × Unit → Prop), ∃ (μ : List Int × Int × Unit → Nat), I ([], (0 : Int), ()) ∧ ∀ (p : List Int × Int × Unit), WfI p.fst ∧ In64 p.snd.fst ∧ True → I p → (decide (p.snd.fst < (↑(List.length x.snd.fst) : Int)) = true → ∃ (J : List Int × Unit → Prop), (((0 : Int) ≤ (0 : Int) ∧ (0 : Int) ≤ p.snd.fst ∧ p.snd.fst ≤ (↑(List.length x.snd.fst) : Int)) ∧ netOk x.fst (List.drop (Int.toNat (0 : Int)) (List.take (Int.toNat p.snd.fst) x.snd.fst)) ∧ ∀ (r : List Int × Unit), WfI r.fst ∧ True → r.fst = labs x.fst (List.drop (Int.toNat (0 : Int)) (List.take (Int.toNat p.snd.fst) x.snd.fst)) → ((0 : Int) ≤ p.snd.fst ∧ p.snd.fst < (↑(List.length x.snd.fst) : Int)) ∧ ((0 : Int) ≤ (0 : Int) ∧ (0 : Int) < (↑(2 : Nat) : Int)) ∧ ((0 : Int) ≤ (gx ((0 : Int), (0 : Int)) x.snd.fst p.snd.fst).fst ∧ (gx ((0 : Int), (0 : Int)) x.snd.fst p.snd.fst).fst < (↑(List.length r.fst) : Int)) ∧ ((0 : Int) ≤ p.snd.fst ∧ p.snd.fst < (↑(List.length x.snd.fst) : Int)) ∧ ((0 : Int) ≤ (1 : Int) ∧ (1 : Int) < (↑(2 : Nat) : Int)) ∧ ((0 : Int) ≤ (gx ((0 : Int), (0 : Int)) x.snd.fst p.snd.fst).snd ∧ (gx ((0 : Int), (0 : Int)) x.snd.fst p.snd.fst).snd < (↑(List.length r.fst) : Int)) ∧ (decide (gx (0 : Int) r.fst (gx ((0 : Int), (0 : Int)) x.snd.fst p.snd.fst).fst ≠ gx (0 : Int) r.fst (gx ((0 : Int), (0 : Int)) x.snd.fst p.snd.fst).snd) = true → ((List.length p.fst + [p.snd.fst].length) * (8 : Nat) ≤ (140737488355328 : Nat) ∧ List.length p.fst + [p.snd.fst].length ≤ 9223372036854775807) ∧ J (p.fst ++ [p.snd.fst], ())) ∧ (decide (gx (0 : Int) r.fst (gx ((0 : Int), (0 : Int)) x.snd.fst p.snd.fst).fst ≠ gx (0 : Int) r.fst (gx ((0 : Int), (0 : Int)) x.snd.fst p.snd.fst).snd) = false → J (p.fst, ()))) ∧ ∀ (p_1 : List Int × Unit), WfI p_1.fst ∧ True → J p_1 → I (p_1.fst, IntKind.i64.wrap (p.snd.fst + (1 : Int)), ()) ∧ μ (p_1.fst, IntKind.i64.wrap (p.snd.fst + (1 : Int)), ()) < μ p) ∧ (decide (p.snd.fst < (↑(List.length x.snd.fst) : Int)) = false → p.fst = forestF x.fst x.snd.fst)
theorem vc_r19_Forest_eq (x : dens s_r19_Forest.args) : semF ⟨Tryz.prog, tys⟩ sp_r19_Forest an_r19_Forest s_r19_Forest Tryz.f57.results.toList (Tryz.f57.body.getD .skip) x = vc_r19_Forest x := by kernel_rfl
theorem m_r19_Forest (hsp : SpOk Tryz.prog sp_r19_Forest) (h : ∀ x, awf s_r19_Forest.args x → s_r19_Forest.pre x → vc_r19_Forest x) : Meets Tryz.prog 57 s_r19_Forest := meets_vc (cx := ⟨Tryz.prog, tys⟩) (sp := sp_r19_Forest) (an := an_r19_Forest) (s := s_r19_Forest) (fn := Tryz.f57) (c := Tryz.f57.body.getD .skip) Tryz.func57 (by kernel_rfl) (Nat.le_of_ble_eq_true (by kernel_rfl)) (by kernel_rfl) tys_ok hsp vc_r19_Forest_eq h
def vc_r19_Bridges : dens s_r19_Bridges.args → Prop := fun (x : Int × List (Int × Int) × Unit) => ∃ (I : List Int × Int × Unit → Prop), ∃ (μ : List Int × Int × Unit → Nat), I ([], (0 : Int), ()) ∧ ∀ (p : List Int × Int × Unit), WfI p.fst ∧ In64 p.snd.fst ∧ True → I p → (decide (p.snd.fst < (↑(List.length x.snd.fst) : Int)) = true → ∃ (J : List Int × Unit → Prop), ((netOk x.fst x.snd.fst ∧ List.length x.snd.fst ≤ (100000 : Nat)) ∧ ∀ (r : Bool × Unit), True ∧ True → (r.fst = sep x.fst x.snd.fst fun (j : Nat) => decide ((↑j : Int) ∈ [p.snd.fst])) → (r.fst = true → ((List.length p.fst + [p.snd.fst].length) * (8 : Nat) ≤ (140737488355328 : Nat) ∧ List.length p.fst + [p.snd.fst].length ≤ 9223372036854775807) ∧ J (p.fst ++ [p.snd.fst], ())) ∧ (r.fst = false → J (p.fst, ()))) ∧ ∀ (p_1 : List Int × Unit), WfI p_1.fst ∧ True → J p_1 → I (p_1.fst, IntKind.i64.wrap (p.snd.fst + (1 : Int)), ()) ∧ μ (p_1.fst, IntKind.i64.wrap (p.snd.fst + (1 : Int)), ()) < μ p) ∧ (decide (p.snd.fst < (↑(List.length x.snd.fst) : Int)) = false → p.fst = bridgesF x.fst x.snd.fst)
theorem vc_r19_Bridges_eq (x : dens s_r19_Bridges.args) : semF ⟨Tryz.prog, tys⟩ sp_r19_Bridges an_r19_Bridges s_r19_Bridges Tryz.f56.results.toList (Tryz.f56.body.getD .skip) x = vc_r19_Bridges x := by kernel_rfl
theorem m_r19_Bridges (hsp : SpOk Tryz.prog sp_r19_Bridges) (h : ∀ x, awf s_r19_Bridges.args x → s_r19_Bridges.pre x → vc_r19_Bridges x) : Meets Tryz.prog 56 s_r19_Bridges := meets_vc (cx := ⟨Tryz.prog, tys⟩) (sp := sp_r19_Bridges) (an := an_r19_Bridges) (s := s_r19_Bridges) (fn := Tryz.f56) (c := Tryz.f56.body.getD .skip) Tryz.func56 (by kernel_rfl) (Nat.le_of_ble_eq_true (by kernel_rfl)) (by kernel_rfl) tys_ok hsp vc_r19_Bridges_eq h
end Go.Proofs.YtppgpdigopffbaaGreat
namespace Go.Proofs.YtppgpdigopffbaaGreat
open Go.Vc Go.Gw
def an_make_Mod : An := {}
def sp_make_Mod : Specs := []
def an_make_New : An := {}
def sp_make_New : Specs := []
def an_make_Tape_Next : An := { plan := [(1, [3, 7], [], true, (.p 0 (.p 1 (.p 2 (.q 3 (.p 4 (.p 5 (.p 6 (.q 7 (.p 8 (.p 9 .done))))))))))), (4, [3, 7, 10], [], true, (.p 0 (.p 1 (.p 2 (.q 3 (.p 4 (.p 5 (.p 6 (.q 7 (.p 8 (.p 9 (.q 10 (.p 11 (.e 12 (.p 13 .done)))))))))))))))] }
def sp_make_Tape_Next : Specs := [(28, s_make_Mod)]
def an_law19_network : An := { loop := [(5, ⟨[4, 5], [], [(6, false, [.own (.pair (.int .i64) (.int .i64)) 30]), (7, false, [.val (.int .i64)])], [(0, 90, [.val (.sl (.int .i64)), .val (.int .i64)])], []⟩)] }
def sp_law19_network : Specs := [(23, s_make_New), (25, s_make_Tape_Next)]
def an_help_Equal_int : An := { loop := [(4, ⟨[0, 1], [], [(5, false, [.val (.int .i64)])], [], []⟩)], plan := [(6, [3, 7], [], true, (.p 0 (.p 1 (.p 2 (.q 3 (.p 4 (.p 5 (.p 6 (.q 7 (.p 8 .done))))))))))] }
def sp_help_Equal_int : Specs := []
def an_help_First_int : An := {}
def sp_help_First_int : Specs := []
def an_help_First_2_int : An := {}
def sp_help_First_2_int : Specs := []
def an_slices_IndexFunc_Sint_int : An := { loop := [(2, ⟨[0, 1, 7], [], [(8, false, [.val (.int .i64)])], [], []⟩)] }
def sp_slices_IndexFunc_Sint_int : Specs := []
def an_slices_BinarySearch_Sint_int : An := { loop := [(3, ⟨[0, 1, 6], [], [(7, false, [.val (.int .i64)]), (8, false, [.val (.int .i64)])], [], []⟩)] }
def sp_slices_BinarySearch_Sint_int : Specs := [(62, s_cmp_Less_int), (63, s_slices_isNaN_int)]
def an_cmp_Less_int : An := {}
def sp_cmp_Less_int : Specs := [(83, s_cmp_isNaN_int)]
def an_cmp_isNaN_int : An := {}
def sp_cmp_isNaN_int : Specs := []
def an_slices_isNaN_int : An := {}
def sp_slices_isNaN_int : Specs := []
def an_topology_Bridges_2 : An := {}
def sp_topology_Bridges_2 : Specs := []
def vc_make_Mod : dens s_make_Mod.args → Prop := fun (x : Int × Int × Unit) => IntKind.u64.wrap x.snd.fst ≠ (0 : Int) ∧ ((0 : Int) < x.snd.fst → (0 : Int) ≤ IntKind.i64.wrap ((IntKind.u64.wrap x.fst).tmod (IntKind.u64.wrap x.snd.fst)) ∧ IntKind.i64.wrap ((IntKind.u64.wrap x.fst).tmod (IntKind.u64.wrap x.snd.fst)) < x.snd.fst)
theorem vc_make_Mod_eq (x : dens s_make_Mod.args) : semF ⟨Tryz.prog, tys⟩ sp_make_Mod an_make_Mod s_make_Mod Tryz.f28.results.toList (Tryz.f28.body.getD .skip) x = vc_make_Mod x := by kernel_rfl
theorem m_make_Mod (hsp : SpOk Tryz.prog sp_make_Mod) (h : ∀ x, awf s_make_Mod.args x → s_make_Mod.pre x → vc_make_Mod x) : Meets Tryz.prog 28 s_make_Mod := meets_vc (cx := ⟨Tryz.prog, tys⟩) (sp := sp_make_Mod) (an := an_make_Mod) (s := s_make_Mod) (fn := Tryz.f28) (c := Tryz.f28.body.getD .skip) Tryz.func28 (by kernel_rfl) (Nat.le_of_ble_eq_true (by kernel_rfl)) (by kernel_rfl) tys_ok hsp vc_make_Mod_eq h
def vc_make_New : dens s_make_New.args → Prop := fun (x : List Int × Unit) => (x.fst, (0 : Int)) = (x.fst, (0 : Int))
theorem vc_make_New_eq (x : dens s_make_New.args) : semF ⟨Tryz.prog, tys⟩ sp_make_New an_make_New s_make_New Tryz.f23.results.toList (Tryz.f23.body.getD .skip) x = vc_make_New x := by kernel_rfl
theorem m_make_New (hsp : SpOk Tryz.prog sp_make_New) (h : ∀ x, awf s_make_New.args x → s_make_New.pre x → vc_make_New x) : Meets Tryz.prog 23 s_make_New := meets_vc (cx := ⟨Tryz.prog, tys⟩) (sp := sp_make_New) (an := an_make_New) (s := s_make_New) (fn := Tryz.f23) (c := Tryz.f23.body.getD .skip) Tryz.func23 (by kernel_rfl) (Nat.le_of_ble_eq_true (by kernel_rfl)) (by kernel_rfl) tys_ok hsp vc_make_New_eq h
def vc_make_Tape_Next : dens s_make_Tape_Next.args → Prop := fun (x : (List Int × Int) × Int × Unit) => (decide ((↑(List.length x.fst.fst) : Int) ≤ x.fst.snd) = true → ((0 : Int) ≤ (0 : Int) ∧ (0 : Int) < x.snd.fst) ∧ x.fst.fst = x.fst.fst ∧ (0 : Int) ≤ x.fst.snd ∧ x.fst.snd ≤ (↑x.fst.fst.length : Int)) ∧ (decide ((↑(List.length x.fst.fst) : Int) ≤ x.fst.snd) = false → ((0 : Int) ≤ IntKind.i64.wrap (IntKind.i64.wrap (x.fst.snd + (1 : Int)) - (1 : Int)) ∧ IntKind.i64.wrap (IntKind.i64.wrap (x.fst.snd + (1 : Int)) - (1 : Int)) < (↑(List.length x.fst.fst) : Int)) ∧ (0 : Int) < x.snd.fst ∧ ∀ (r : Int × Unit), In64 r.fst ∧ True → ((0 : Int) < x.snd.fst → (0 : Int) ≤ r.fst ∧ r.fst < x.snd.fst) → ((0 : Int) ≤ r.fst ∧ r.fst < x.snd.fst) ∧ x.fst.fst = x.fst.fst ∧ (0 : Int) ≤ IntKind.i64.wrap (x.fst.snd + (1 : Int)) ∧ IntKind.i64.wrap (x.fst.snd + (1 : Int)) ≤ (↑x.fst.fst.length : Int))
theorem vc_make_Tape_Next_eq (x : dens s_make_Tape_Next.args) : semF ⟨Tryz.prog, tys⟩ sp_make_Tape_Next an_make_Tape_Next s_make_Tape_Next Tryz.f25.results.toList (Tryz.f25.body.getD .skip) x = vc_make_Tape_Next x := by kernel_rfl
theorem m_make_Tape_Next (hsp : SpOk Tryz.prog sp_make_Tape_Next) (h : ∀ x, awf s_make_Tape_Next.args x → s_make_Tape_Next.pre x → vc_make_Tape_Next x) : Meets Tryz.prog 25 s_make_Tape_Next := meets_vc (cx := ⟨Tryz.prog, tys⟩) (sp := sp_make_Tape_Next) (an := an_make_Tape_Next) (s := s_make_Tape_Next) (fn := Tryz.f25) (c := Tryz.f25.body.getD .skip) Tryz.func25 (by kernel_rfl) (Nat.le_of_ble_eq_true (by kernel_rfl)) (by kernel_rfl) tys_ok hsp vc_make_Tape_Next_eq h
def vc_law19_network : dens s_law19_network.args → Prop := fun (x : List Int × Unit) => True ∧ ∀ (r : (List Int × Int) × Unit), (WfI r.fst.fst ∧ In64 r.fst.snd) ∧ True → r.fst = (x.fst, (0 : Int)) → ((0 : Int) < (8 : Int) ∧ (0 : Int) ≤ r.fst.snd ∧ r.fst.snd ≤ (↑(List.length r.fst.fst) : Int)) ∧ ∀ (r_1 : Int × Unit) (o : (List Int × Int) × Unit), In64 r_1.fst ∧ True → ((Ty.int IntKind.i64).sl.pair (Ty.int IntKind.i64)).wf o.fst ∧ True → (0 : Int) ≤ r_1.fst ∧ r_1.fst < (8 : Int) → o.fst.fst = r.fst.fst ∧ (0 : Int) ≤ o.fst.snd ∧ o.fst.snd ≤ (↑(List.length r.fst.fst) : Int) → ((0 : Int) < (13 : Int) ∧ (0 : Int) ≤ o.fst.snd ∧ o.fst.snd ≤ (↑(List.length o.fst.fst) : Int)) ∧ ∀ (r : Int × Unit) (o_1 : (List Int × Int) × Unit), In64 r.fst ∧ True → ((Ty.int IntKind.i64).sl.pair (Ty.int IntKind.i64)).wf o_1.fst ∧ True → (0 : Int) ≤ r.fst ∧ r.fst < (13 : Int) → o_1.fst.fst = o.fst.fst ∧ (0 : Int) ≤ o_1.fst.snd ∧ o_1.fst.snd ≤ (↑(List.length o.fst.fst) : Int) → ∃ (I : List (Int × Int) × Int × List Int × Int × Unit → Prop), ∃ (μ : List (Int × Int) × Int × List Int × Int × Unit → Nat), I ([], r.fst, o_1.fst.fst, o_1.fst.snd, ()) ∧ ∀ (p : List (Int × Int) × Int × List Int × Int × Unit), (List.length p.fst ≤ 9223372036854775807 ∧ ∀ (x : Int × Int), x ∈ p.fst → In64 x.fst ∧ In64 x.snd) ∧ In64 p.snd.fst ∧ WfI p.snd.snd.fst ∧ In64 p.snd.snd.snd.fst ∧ True → I p → (sel (decide ((0 : Int) < p.snd.fst)) (decide ((0 : Int) < r_1.fst)) false = true → ((0 : Int) < r_1.fst ∧ (0 : Int) ≤ p.snd.snd.snd.fst ∧ p.snd.snd.snd.fst ≤ (↑(List.length p.snd.snd.fst) : Int)) ∧ ∀ (r : Int × Unit) (o : (List Int × Int) × Unit), In64 r.fst ∧ True → ((Ty.int IntKind.i64).sl.pair (Ty.int IntKind.i64)).wf o.fst ∧ True → (0 : Int) ≤ r.fst ∧ r.fst < r_1.fst → o.fst.fst = p.snd.snd.fst ∧ (0 : Int) ≤ o.fst.snd ∧ o.fst.snd ≤ (↑(List.length p.snd.snd.fst) : Int) → ((0 : Int) < r_1.fst ∧ (0 : Int) ≤ o.fst.snd ∧ o.fst.snd ≤ (↑(List.length o.fst.fst) : Int)) ∧ ∀ (r_2 : Int × Unit) (o_2 : (List Int × Int) × Unit), In64 r_2.fst ∧ True → ((Ty.int IntKind.i64).sl.pair (Ty.int IntKind.i64)).wf o_2.fst ∧ True → (0 : Int) ≤ r_2.fst ∧ r_2.fst < r_1.fst → o_2.fst.fst = o.fst.fst ∧ (0 : Int) ≤ o_2.fst.snd ∧ o_2.fst.snd ≤ (↑(List.length o.fst.fst) : Int) → ((List.length p.fst + [(r.fst, r_2.fst)].length) * (16 : Nat) ≤ (140737488355328 : Nat) ∧ List.length p.fst + [(r.fst, r_2.fst)].length ≤ 9223372036854775807) ∧ I (p.fst ++ [(r.fst, r_2.fst)], IntKind.i64.wrap (p.snd.fst - (1 : Int)), o_2.fst.fst, o_2.fst.snd, ()) ∧ μ (p.fst ++ [(r.fst, r_2.fst)], IntKind.i64.wrap (p.snd.fst - (1 : Int)), o_2.fst.fst, o_2.fst.snd, ()) < μ p) ∧ (sel (decide ((0 : Int) < p.snd.fst)) (decide ((0 : Int) < r_1.fst)) false = false → netOk r_1.fst p.fst ∧ r_1.fst ≤ (7 : Int) ∧ List.length p.fst ≤ (12 : Nat))
theorem vc_law19_network_eq (x : dens s_law19_network.args) : semF ⟨Tryz.prog, tys⟩ sp_law19_network an_law19_network s_law19_network Tryz.f7.results.toList (Tryz.f7.body.getD .skip) x = vc_law19_network x := by kernel_rfl
theorem m_law19_network (hsp : SpOk Tryz.prog sp_law19_network) (h : ∀ x, awf s_law19_network.args x → s_law19_network.pre x → vc_law19_network x) : Meets Tryz.prog 7 s_law19_network := meets_vc (cx := ⟨Tryz.prog, tys⟩) (sp := sp_law19_network) (an := an_law19_network) (s := s_law19_network) (fn := Tryz.f7) (c := Tryz.f7.body.getD .skip) Tryz.func7 (by kernel_rfl) (Nat.le_of_ble_eq_true (by kernel_rfl)) (by kernel_rfl) tys_ok hsp vc_law19_network_eq h
def vc_help_Equal_int : dens s_help_Equal_int.args → Prop := fun (x : List Int × List Int × Unit) => (decide ((↑(List.length x.fst) : Int) ≠ (↑(List.length x.snd.fst) : Int)) = true → false = decide (x.fst = x.snd.fst)) ∧ (decide ((↑(List.length x.fst) : Int) ≠ (↑(List.length x.snd.fst) : Int)) = false → ∃ (I : Int × Unit → Prop), ∃ (μ : Int × Unit → Nat), I ((0 : Int), ()) ∧ ∀ (p : Int × Unit), In64 p.fst ∧ True → I p → (decide (p.fst < (↑(List.length x.fst) : Int)) = true → ((0 : Int) ≤ p.fst ∧ p.fst < (↑(List.length x.fst) : Int)) ∧ ((0 : Int) ≤ p.fst ∧ p.fst < (↑(List.length x.snd.fst) : Int)) ∧ (decide (gx (0 : Int) x.fst p.fst ≠ gx (0 : Int) x.snd.fst p.fst) = true → false = decide (x.fst = x.snd.fst)) ∧ (decide (gx (0 : Int) x.fst p.fst ≠ gx (0 : Int) x.snd.fst p.fst) = false → I (IntKind.i64.wrap (p.fst + (1 : Int)), ()) ∧ μ (IntKind.i64.wrap (p.fst + (1 : Int)), ()) < μ p)) ∧ (decide (p.fst < (↑(List.length x.fst) : Int)) = false → true = decide (x.fst = x.snd.fst)))
theorem vc_help_Equal_int_eq (x : dens s_help_Equal_int.args) : semF ⟨Tryz.prog, tys⟩ sp_help_Equal_int an_help_Equal_int s_help_Equal_int Tryz.f12.results.toList (Tryz.f12.body.getD .skip) x = vc_help_Equal_int x := by kernel_rfl
theorem m_help_Equal_int (hsp : SpOk Tryz.prog sp_help_Equal_int) (h : ∀ x, awf s_help_Equal_int.args x → s_help_Equal_int.pre x → vc_help_Equal_int x) : Meets Tryz.prog 12 s_help_Equal_int := meets_vc (cx := ⟨Tryz.prog, tys⟩) (sp := sp_help_Equal_int) (an := an_help_Equal_int) (s := s_help_Equal_int) (fn := Tryz.f12) (c := Tryz.f12.body.getD .skip) Tryz.func12 (by kernel_rfl) (Nat.le_of_ble_eq_true (by kernel_rfl)) (by kernel_rfl) tys_ok hsp vc_help_Equal_int_eq h
def vc_help_First_int : dens s_help_First_int.args → Prop := fun (x : List Int × Int × Unit) => (decide (x.snd.fst < (↑(List.length x.fst) : Int)) = true → ((0 : Int) ≤ (0 : Int) ∧ (0 : Int) ≤ x.snd.fst ∧ x.snd.fst ≤ (↑(List.length x.fst) : Int)) ∧ List.drop (Int.toNat (0 : Int)) (List.take (Int.toNat x.snd.fst) x.fst) = List.take x.snd.fst.toNat x.fst) ∧ (decide (x.snd.fst < (↑(List.length x.fst) : Int)) = false → x.fst = List.take x.snd.fst.toNat x.fst)
theorem vc_help_First_int_eq (x : dens s_help_First_int.args) : semF ⟨Tryz.prog, tys⟩ sp_help_First_int an_help_First_int s_help_First_int Tryz.f24.results.toList (Tryz.f24.body.getD .skip) x = vc_help_First_int x := by kernel_rfl
theorem m_help_First_int (hsp : SpOk Tryz.prog sp_help_First_int) (h : ∀ x, awf s_help_First_int.args x → s_help_First_int.pre x → vc_help_First_int x) : Meets Tryz.prog 24 s_help_First_int := meets_vc (cx := ⟨Tryz.prog, tys⟩) (sp := sp_help_First_int) (an := an_help_First_int) (s := s_help_First_int) (fn := Tryz.f24) (c := Tryz.f24.body.getD .skip) Tryz.func24 (by kernel_rfl) (Nat.le_of_ble_eq_true (by kernel_rfl)) (by kernel_rfl) tys_ok hsp vc_help_First_int_eq h
def vc_help_First_2_int : dens s_help_First_2_int.args → Prop := fun (x : List (Int × Int) × Int × Unit) => (decide (x.snd.fst < (↑(List.length x.fst) : Int)) = true → ((0 : Int) ≤ (0 : Int) ∧ (0 : Int) ≤ x.snd.fst ∧ x.snd.fst ≤ (↑(List.length x.fst) : Int)) ∧ List.drop (Int.toNat (0 : Int)) (List.take (Int.toNat x.snd.fst) x.fst) = List.take x.snd.fst.toNat x.fst) ∧ (decide (x.snd.fst < (↑(List.length x.fst) : Int)) = false → x.fst = List.take x.snd.fst.toNat x.fst)
theorem vc_help_First_2_int_eq (x : dens s_help_First_2_int.args) : semF ⟨Tryz.prog, tys⟩ sp_help_First_2_int an_help_First_2_int s_help_First_2_int Tryz.f27.results.toList (Tryz.f27.body.getD .skip) x = vc_help_First_2_int x := by kernel_rfl
theorem m_help_First_2_int (hsp : SpOk Tryz.prog sp_help_First_2_int) (h : ∀ x, awf s_help_First_2_int.args x → s_help_First_2_int.pre x → vc_help_First_2_int x) : Meets Tryz.prog 27 s_help_First_2_int := meets_vc (cx := ⟨Tryz.prog, tys⟩) (sp := sp_help_First_2_int) (an := an_help_First_2_int) (s := s_help_First_2_int) (fn := Tryz.f27) (c := Tryz.f27.body.getD .skip) Tryz.func27 (by kernel_rfl) (Nat.le_of_ble_eq_true (by kernel_rfl)) (by kernel_rfl) tys_ok hsp vc_help_First_2_int_eq h
def vc_slices_IndexFunc_Sint_int : dens s_slices_IndexFunc_Sint_int.args → Prop := fun (x : List Int × ((Int × Unit → Prop) × (Int × Unit → Bool)) × Unit) => ∃ (I : Int × Unit → Prop), ∃ (μ : Int × Unit → Nat), I ((0 : Int), ()) ∧ ∀ (p : Int × Unit), In64 p.fst ∧ True → I p → (decide (p.fst < (↑(List.length x.fst) : Int)) = true → ((0 : Int) ≤ p.fst ∧ p.fst < (↑(List.length x.fst) : Int)) ∧ Go.Proofs.Tryz.prog = Go.Proofs.Tryz.prog ∧ x.snd.fst.fst (gx (0 : Int) x.fst p.fst, ()) ∧ (Ty.bool.wf (x.snd.fst.snd (gx (0 : Int) x.fst p.fst, ())) → (x.snd.fst.snd (gx (0 : Int) x.fst p.fst, ()) = true → p.fst = idxF (fun (i : Int) => x.snd.fst.snd (i, ())) x.fst) ∧ (x.snd.fst.snd (gx (0 : Int) x.fst p.fst, ()) = false → I (IntKind.i64.wrap (p.fst + (1 : Int)), ()) ∧ μ (IntKind.i64.wrap (p.fst + (1 : Int)), ()) < μ p))) ∧ (decide (p.fst < (↑(List.length x.fst) : Int)) = false → (-1 : Int) = idxF (fun (i : Int) => x.snd.fst.snd (i, ())) x.fst)
theorem vc_slices_IndexFunc_Sint_int_eq (x : dens s_slices_IndexFunc_Sint_int.args) : semF ⟨Tryz.prog, tys⟩ sp_slices_IndexFunc_Sint_int an_slices_IndexFunc_Sint_int s_slices_IndexFunc_Sint_int Tryz.f64.results.toList (Tryz.f64.body.getD .skip) x = vc_slices_IndexFunc_Sint_int x := by kernel_rfl
theorem m_slices_IndexFunc_Sint_int (hsp : SpOk Tryz.prog sp_slices_IndexFunc_Sint_int) (h : ∀ x, awf s_slices_IndexFunc_Sint_int.args x → s_slices_IndexFunc_Sint_int.pre x → vc_slices_IndexFunc_Sint_int x) : Meets Tryz.prog 64 s_slices_IndexFunc_Sint_int := meets_vc (cx := ⟨Tryz.prog, tys⟩) (sp := sp_slices_IndexFunc_Sint_int) (an := an_slices_IndexFunc_Sint_int) (s := s_slices_IndexFunc_Sint_int) (fn := Tryz.f64) (c := Tryz.f64.body.getD .skip) Tryz.func64 (by kernel_rfl) (Nat.le_of_ble_eq_true (by kernel_rfl)) (by kernel_rfl) tys_ok hsp vc_slices_IndexFunc_Sint_int_eq h
def vc_slices_BinarySearch_Sint_int : dens s_slices_BinarySearch_Sint_int.args → Prop := fun (x : List Int × Int × Unit) => ∃ (I : Int × Int × Unit → Prop), ∃ (μ : Int × Int × Unit → Nat), I ((0 : Int), (↑(List.length x.fst) : Int), ()) ∧ ∀ (p : Int × Int × Unit), In64 p.fst ∧ In64 p.snd.fst ∧ True → I p → (decide (p.fst < p.snd.fst) = true → (0 : (Ty.int IntKind.u64).den) ≤ (1 : Int) ∧ ((0 : Int) ≤ IntKind.i64.wrap ((IntKind.u64.wrap (IntKind.i64.wrap (p.fst + p.snd.fst))).fdiv ((2 : Int) ^ Min.min (Int.toNat (1 : Int)) IntKind.u64.bits)) ∧ IntKind.i64.wrap ((IntKind.u64.wrap (IntKind.i64.wrap (p.fst + p.snd.fst))).fdiv ((2 : Int) ^ Min.min (Int.toNat (1 : Int)) IntKind.u64.bits)) < (↑(List.length x.fst) : Int)) ∧ True ∧ ∀ (r : Bool × Unit), True ∧ True → r.fst = decide (gx (0 : Int) x.fst (IntKind.i64.wrap ((IntKind.u64.wrap (IntKind.i64.wrap (p.fst + p.snd.fst))).fdiv ((2 : Int) ^ Min.min (Int.toNat (1 : Int)) IntKind.u64.bits))) < x.snd.fst) → (r.fst = true → I (IntKind.i64.wrap (IntKind.i64.wrap ((IntKind.u64.wrap (IntKind.i64.wrap (p.fst + p.snd.fst))).fdiv ((2 : Int) ^ Min.min (Int.toNat (1 : Int)) IntKind.u64.bits)) + (1 : Int)), p.snd.fst, ()) ∧ μ (IntKind.i64.wrap (IntKind.i64.wrap ((IntKind.u64.wrap (IntKind.i64.wrap (p.fst + p.snd.fst))).fdiv ((2 : Int) ^ Min.min (Int.toNat (1 : Int)) IntKind.u64.bits)) + (1 : Int)), p.snd.fst, ()) < μ p) ∧ (r.fst = false → I (p.fst, IntKind.i64.wrap ((IntKind.u64.wrap (IntKind.i64.wrap (p.fst + p.snd.fst))).fdiv ((2 : Int) ^ Min.min (Int.toNat (1 : Int)) IntKind.u64.bits)), ()) ∧ μ (p.fst, IntKind.i64.wrap ((IntKind.u64.wrap (IntKind.i64.wrap (p.fst + p.snd.fst))).fdiv ((2 : Int) ^ Min.min (Int.toNat (1 : Int)) IntKind.u64.bits)), ()) < μ p)) ∧ (decide (p.fst < p.snd.fst) = false → (decide (p.fst < (↑(List.length x.fst) : Int)) = true → (0 : Int) ≤ p.fst ∧ p.fst < (↑(List.length x.fst) : Int)) ∧ (decide (gx (0 : Int) x.fst p.fst = x.snd.fst) = false ∧ decide (p.fst < (↑(List.length x.fst) : Int)) = true → (0 : Int) ≤ p.fst ∧ p.fst < (↑(List.length x.fst) : Int)) ∧ (decide (gx (0 : Int) x.fst p.fst = x.snd.fst) = false ∧ decide (p.fst < (↑(List.length x.fst) : Int)) = true → True) ∧ ∀ (r : Bool × Unit), (decide (gx (0 : Int) x.fst p.fst = x.snd.fst) = false ∧ decide (p.fst < (↑(List.length x.fst) : Int)) = true → (True ∧ True) ∧ r.fst = false) → (r.fst = true ∧ decide (gx (0 : Int) x.fst p.fst = x.snd.fst) = false ∧ decide (p.fst < (↑(List.length x.fst) : Int)) = true → True) ∧ ∀ (r_1 : Bool × Unit), (r.fst = true ∧ decide (gx (0 : Int) x.fst p.fst = x.snd.fst) = false ∧ decide (p.fst < (↑(List.length x.fst) : Int)) = true → (True ∧ True) ∧ r_1.fst = false) → sel (decide (p.fst < (↑(List.length x.fst) : Int))) (sel (decide (gx (0 : Int) x.fst p.fst = x.snd.fst)) true (sel r.fst r_1.fst false)) false = decide (x.snd.fst ∈ x.fst))
theorem vc_slices_BinarySearch_Sint_int_eq (x : dens s_slices_BinarySearch_Sint_int.args) : semF ⟨Tryz.prog, tys⟩ sp_slices_BinarySearch_Sint_int an_slices_BinarySearch_Sint_int s_slices_BinarySearch_Sint_int Tryz.f38.results.toList (Tryz.f38.body.getD .skip) x = vc_slices_BinarySearch_Sint_int x := by kernel_rfl
theorem m_slices_BinarySearch_Sint_int (hsp : SpOk Tryz.prog sp_slices_BinarySearch_Sint_int) (h : ∀ x, awf s_slices_BinarySearch_Sint_int.args x → s_slices_BinarySearch_Sint_int.pre x → vc_slices_BinarySearch_Sint_int x) : Meets Tryz.prog 38 s_slices_BinarySearch_Sint_int := meets_vc (cx := ⟨Tryz.prog, tys⟩) (sp := sp_slices_BinarySearch_Sint_int) (an := an_slices_BinarySearch_Sint_int) (s := s_slices_BinarySearch_Sint_int) (fn := Tryz.f38) (c := Tryz.f38.body.getD .skip) Tryz.func38 (by kernel_rfl) (Nat.le_of_ble_eq_true (by kernel_rfl)) (by kernel_rfl) tys_ok hsp vc_slices_BinarySearch_Sint_int_eq h
def vc_cmp_Less_int : dens s_cmp_Less_int.args → Prop := fun (x : Int × Int × Unit) => True ∧ ∀ (r : Bool × Unit), True ∧ True → r.fst = false → (r.fst = true → True) ∧ ∀ (r_1 : Bool × Unit), (r.fst = true → (True ∧ True) ∧ r_1.fst = false) → sel (sel r.fst (!r_1.fst) false) true (decide (x.fst < x.snd.fst)) = decide (x.fst < x.snd.fst)
theorem vc_cmp_Less_int_eq (x : dens s_cmp_Less_int.args) : semF ⟨Tryz.prog, tys⟩ sp_cmp_Less_int an_cmp_Less_int s_cmp_Less_int Tryz.f62.results.toList (Tryz.f62.body.getD .skip) x = vc_cmp_Less_int x := by kernel_rfl
theorem m_cmp_Less_int (hsp : SpOk Tryz.prog sp_cmp_Less_int) (h : ∀ x, awf s_cmp_Less_int.args x → s_cmp_Less_int.pre x → vc_cmp_Less_int x) : Meets Tryz.prog 62 s_cmp_Less_int := meets_vc (cx := ⟨Tryz.prog, tys⟩) (sp := sp_cmp_Less_int) (an := an_cmp_Less_int) (s := s_cmp_Less_int) (fn := Tryz.f62) (c := Tryz.f62.body.getD .skip) Tryz.func62 (by kernel_rfl) (Nat.le_of_ble_eq_true (by kernel_rfl)) (by kernel_rfl) tys_ok hsp vc_cmp_Less_int_eq h
def vc_cmp_isNaN_int : dens s_cmp_isNaN_int.args → Prop := fun (x : Int × Unit) => decide (x.fst ≠ x.fst) = false
theorem vc_cmp_isNaN_int_eq (x : dens s_cmp_isNaN_int.args) : semF ⟨Tryz.prog, tys⟩ sp_cmp_isNaN_int an_cmp_isNaN_int s_cmp_isNaN_int Tryz.f83.results.toList (Tryz.f83.body.getD .skip) x = vc_cmp_isNaN_int x := by kernel_rfl
theorem m_cmp_isNaN_int (hsp : SpOk Tryz.prog sp_cmp_isNaN_int) (h : ∀ x, awf s_cmp_isNaN_int.args x → s_cmp_isNaN_int.pre x → vc_cmp_isNaN_int x) : Meets Tryz.prog 83 s_cmp_isNaN_int := meets_vc (cx := ⟨Tryz.prog, tys⟩) (sp := sp_cmp_isNaN_int) (an := an_cmp_isNaN_int) (s := s_cmp_isNaN_int) (fn := Tryz.f83) (c := Tryz.f83.body.getD .skip) Tryz.func83 (by kernel_rfl) (Nat.le_of_ble_eq_true (by kernel_rfl)) (by kernel_rfl) tys_ok hsp vc_cmp_isNaN_int_eq h
def vc_slices_isNaN_int : dens s_slices_isNaN_int.args → Prop := fun (x : Int × Unit) => decide (x.fst ≠ x.fst) = false
theorem vc_slices_isNaN_int_eq (x : dens s_slices_isNaN_int.args) : semF ⟨Tryz.prog, tys⟩ sp_slices_isNaN_int an_slices_isNaN_int s_slices_isNaN_int Tryz.f63.results.toList (Tryz.f63.body.getD .skip) x = vc_slices_isNaN_int x := by kernel_rfl
theorem m_slices_isNaN_int (hsp : SpOk Tryz.prog sp_slices_isNaN_int) (h : ∀ x, awf s_slices_isNaN_int.args x → s_slices_isNaN_int.pre x → vc_slices_isNaN_int x) : Meets Tryz.prog 63 s_slices_isNaN_int := meets_vc (cx := ⟨Tryz.prog, tys⟩) (sp := sp_slices_isNaN_int) (an := an_slices_isNaN_int) (s := s_slices_isNaN_int) (fn := Tryz.f63) (c := Tryz.f63.body.getD .skip) Tryz.func63 (by kernel_rfl) (Nat.le_of_ble_eq_true (by kernel_rfl)) (by kernel_rfl) tys_ok hsp vc_slices_isNaN_int_eq h
def vc_topology_Bridges_2 : dens s_topology_Bridges_2.args → Prop := fun (x : Int × List (Int × Bool) × Unit) => (mfind (Ty.int IntKind.i64) x.fst x.snd.fst).getD false = mB x.snd.fst x.fst
theorem vc_topology_Bridges_2_eq (x : dens s_topology_Bridges_2.args) : semF ⟨Tryz.prog, tys⟩ sp_topology_Bridges_2 an_topology_Bridges_2 s_topology_Bridges_2 Tryz.f40.results.toList (Tryz.f40.body.getD .skip) x = vc_topology_Bridges_2 x := by kernel_rfl
theorem m_topology_Bridges_2 (hsp : SpOk Tryz.prog sp_topology_Bridges_2) (h : ∀ x, awf s_topology_Bridges_2.args x → s_topology_Bridges_2.pre x → vc_topology_Bridges_2 x) : Meets Tryz.prog 40 s_topology_Bridges_2 := meets_vc (cx := ⟨Tryz.prog, tys⟩) (sp := sp_topology_Bridges_2) (an := an_topology_Bridges_2) (s := s_topology_Bridges_2) (fn := Tryz.f40) (c := Tryz.f40.body.getD .skip) Tryz.func40 (by kernel_rfl) (Nat.le_of_ble_eq_true (by kernel_rfl)) (by kernel_rfl) tys_ok hsp vc_topology_Bridges_2_eq h
end Go.Proofs.YtppgpdigopffbaaGreat
namespace Go.Proofs.YtppgpdigopffbaaGreat
open Go.Vc Go.Gw
theorem has_vc (l : List Int) (v : Int) (hl : l.length ≤ 9223372036854775807) : ∃ (I : Int × Unit → Prop), ∃ (μ : Int × Unit → Nat), I (0, ()) ∧ ∀ (p : Int × Unit), I p → (decide (p.1 < (l.length : Int)) = true → (0 ≤ p.1 ∧ p.1 < (l.length : Int)) ∧ (decide (gx 0 l p.1 = v) = true → true = decide (v ∈ l)) ∧ (decide (gx 0 l p.1 = v) = false → I (IntKind.i64.wrap (p.1 + 1), ()) ∧ μ (IntKind.i64.wrap (p.1 + 1), ()) < μ p)) ∧ (decide (p.1 < (l.length : Int)) = false → false = decide (v ∈ l)) := by
  refine ⟨fun p => 0 ≤ p.1 ∧ p.1 ≤ (l.length : Int) ∧ ∀ y ∈ l.take p.1.toNat, y ≠ v, fun p => ((l.length : Int) - p.1).toNat, ⟨Int.le_refl _, Int.natCast_nonneg _, by simp⟩, ?_⟩
  rintro ⟨i, _⟩ ⟨h0, h1, h2⟩
  simp only at h0 h1 h2 ⊢
  refine ⟨fun h => ?_, fun h => ?_⟩
  · have h := of_decide_eq_true h
    refine ⟨⟨h0, h⟩, fun he => ?_, fun he => ?_⟩
    · have he := of_decide_eq_true he
      exact (decide_eq_true (he ▸ gx_mem h0 h)).symm
    · have he := of_decide_eq_false he
      rw [wr (by omega) (by omega)]
      exact ⟨⟨by omega, by omega, before_step h0 h h2 he⟩, by omega⟩
  · have h := of_decide_eq_false h
    rw [take_all (by omega)] at h2
    exact (decide_eq_false fun hm => h2 v hm rfl).symm
theorem vc_r18_has_ok (x : dens s_r18_has.args) (hw : awf s_r18_has.args x) (_ : s_r18_has.pre x) : vc_r18_has x := by
  obtain ⟨l, v, _⟩ := x
  obtain ⟨I, μ, h0, h1⟩ := has_vc l v hw.1.1
  exact ⟨I, μ, h0, fun p _ hI => h1 p hI⟩
theorem vc_make_New_ok (x : dens s_make_New.args) (_ : awf s_make_New.args x) (_ : s_make_New.pre x) : vc_make_New x := rfl
theorem vc_topology_Bridges_2_ok (x : dens s_topology_Bridges_2.args) (_ : awf s_topology_Bridges_2.args x) (_ : s_topology_Bridges_2.pre x) : vc_topology_Bridges_2 x := rfl
theorem vc_cmp_Less_int_ok (x : dens s_cmp_Less_int.args) (_ : awf s_cmp_Less_int.args x) (_ : s_cmp_Less_int.pre x) : vc_cmp_Less_int x := by
  refine ⟨trivial, ?_⟩
  rintro ⟨r, _⟩ _ hr
  simp only at hr ⊢
  subst hr
  exact ⟨fun _ => trivial, fun _ _ => rfl⟩
theorem vc_make_Tape_Next_ok (x : dens s_make_Tape_Next.args) (hw : awf s_make_Tape_Next.args x) (hp : s_make_Tape_Next.pre x) : vc_make_Tape_Next x := by
  obtain ⟨⟨l, i⟩, n, _⟩ := x
  have hl : l.length ≤ 9223372036854775807 := hw.1.1.1
  change Int at i n
  change List Int at l
  obtain ⟨p0, p1, p2⟩ : 0 < n ∧ 0 ≤ i ∧ i ≤ (l.length : Int) := hp
  simp only [vc_make_Tape_Next]
  refine ⟨fun h => ⟨⟨by omega, p0⟩, trivial, p1, p2⟩, fun h => ?_⟩
  have h := of_decide_eq_false h
  rw [wr (a := i + 1) (by omega) (by omega), wr (a := i + 1 - 1) (by omega) (by omega)]
  refine ⟨⟨by omega, by omega⟩, p0, ?_⟩
  rintro ⟨r, _⟩ _ hr
  exact ⟨hr p0, trivial, by omega, by omega⟩
theorem vc_make_Mod_ok (x : dens s_make_Mod.args) (hw : awf s_make_Mod.args x) (hp : s_make_Mod.pre x) : vc_make_Mod x := by
  obtain ⟨a, b, _⟩ := x
  change Int at a b
  have hb : 0 < b := hp
  have h1 : inR .i64 b := hw.2.1
  unfold inR at h1
  rw [show IntKind.i64.min = -9223372036854775808 from by decide, show IntKind.i64.max = 9223372036854775807 from by decide] at h1
  simp only [vc_make_Mod]
  have e : IntKind.u64.wrap b = b := by simp [IntKind.wrap, IntKind.bits, IntKind.signed]; omega
  have h2 : 0 ≤ IntKind.u64.wrap a := by simp [IntKind.wrap, IntKind.bits, IntKind.signed]; omega
  rw [e]
  have h3 : 0 ≤ (IntKind.u64.wrap a).tmod b := Int.tmod_nonneg _ h2
  have h4 : (IntKind.u64.wrap a).tmod b < b := Int.tmod_lt_of_pos _ hb
  rw [wr (by omega) (by omega)]
  exact ⟨by omega, fun _ => ⟨h3, h4⟩⟩
end Go.Proofs.YtppgpdigopffbaaGreat
namespace Go.Proofs.YtppgpdigopffbaaGreat
open Go.Vc Go.Gw
theorem vc_cmp_isNaN_int_ok (x : dens s_cmp_isNaN_int.args) (_ : awf s_cmp_isNaN_int.args x) (_ : s_cmp_isNaN_int.pre x) : vc_cmp_isNaN_int x := by
  simp [vc_cmp_isNaN_int]
theorem vc_slices_isNaN_int_ok (x : dens s_slices_isNaN_int.args) (_ : awf s_slices_isNaN_int.args x) (_ : s_slices_isNaN_int.pre x) : vc_slices_isNaN_int x := by
  simp [vc_slices_isNaN_int]
theorem vc_help_First_int_ok (x : dens s_help_First_int.args) (_ : awf s_help_First_int.args x) (hp : s_help_First_int.pre x) : vc_help_First_int x := by
  obtain ⟨l, n, _⟩ := x
  change Int at n
  have h0 : 0 ≤ n := hp
  refine ⟨fun h => ⟨⟨Int.le_refl _, h0, Int.le_of_lt (of_decide_eq_true h)⟩, rfl⟩, fun h => ?_⟩
  have h := of_decide_eq_false h
  exact (take_all (Int.not_lt.1 h)).symm
theorem vc_help_First_2_int_ok (x : dens s_help_First_2_int.args) (_ : awf s_help_First_2_int.args x) (hp : s_help_First_2_int.pre x) : vc_help_First_2_int x := by
  obtain ⟨l, n, _⟩ := x
  change Int at n
  have h0 : 0 ≤ n := hp
  refine ⟨fun h => ⟨⟨Int.le_refl _, h0, Int.le_of_lt (of_decide_eq_true h)⟩, rfl⟩, fun h => ?_⟩
  have h := of_decide_eq_false h
  exact (take_all (Int.not_lt.1 h)).symm
theorem vc_help_Equal_int_ok (x : dens s_help_Equal_int.args) (hw : awf s_help_Equal_int.args x) (_ : s_help_Equal_int.pre x) : vc_help_Equal_int x := by
  obtain ⟨a, b, _⟩ := x
  have hl : a.length ≤ 9223372036854775807 := hw.1.1
  change List Int at a b
  simp only [vc_help_Equal_int]
  refine ⟨fun h => ?_, fun h => ?_⟩
  · have h := of_decide_eq_true h
    exact (decide_eq_false fun e => h (by rw [e])).symm
  · have hlen : a.length = b.length := by have := of_decide_eq_false h; omega
    refine ⟨fun p => 0 ≤ p.1 ∧ p.1 ≤ (a.length : Int) ∧ a.take p.1.toNat = b.take p.1.toNat, fun p => ((a.length : Int) - p.1).toNat, ⟨Int.le_refl _, Int.natCast_nonneg _, by simp⟩, ?_⟩
    rintro ⟨i, _⟩ _ ⟨h0, h1, h2⟩
    change Int at i
    simp only at h0 h1 h2 ⊢
    refine ⟨fun h => ?_, fun h => ?_⟩
    · have h := of_decide_eq_true h
      refine ⟨⟨h0, h⟩, ⟨h0, by omega⟩, fun he => ?_, fun he => ?_⟩
      · have he := of_decide_eq_true he
        exact (decide_eq_false fun e => he (by rw [e])).symm
      · have he : gx 0 a i = gx 0 b i := by simpa using he
        rw [wr (by omega) (by omega)]
        refine ⟨⟨by omega, by omega, ?_⟩, by omega⟩
        rw [show (i + 1).toNat = i.toNat + 1 from by omega, List.take_add_one, List.take_add_one, gx_get (d := (0 : Int)) h0 h, gx_get (d := (0 : Int)) h0 (by omega), h2, he]
    · have h := of_decide_eq_false h
      rw [take_all (by omega), take_all (by omega)] at h2
      exact (decide_eq_true h2).symm
end Go.Proofs.YtppgpdigopffbaaGreat
namespace Go.Proofs.YtppgpdigopffbaaGreat
open Go.Vc Go.Gw
theorem int_eqB (a b : Int) : eqB (.int .i64) a b = decide (a = b) := rfl
theorem mB_put (m : List (Int × Bool)) (k i : Int) (v : Bool) : mB (mput (.int .i64) k v m) i = if i = k then v else mB m i := by
  have key : ∀ l : List (Int × Bool), mfind (.int .i64) i (mput (.int .i64) k v l) = if i = k then some v else mfind (.int .i64) i l := by
    intro l
    induction l with
    | nil =>
      simp only [mput, mfind, int_eqB]
      by_cases h : i = k
      · simp [h]
      · rw [if_neg h]; simp [h]
    | cons e l ih =>
      obtain ⟨a, b⟩ := e
      simp only [mput, int_eqB]
      by_cases h : k = a
      · subst h
        simp only [decide_true, cond_true, mfind, int_eqB]
        by_cases h2 : i = k
        · simp [h2]
        · simp [h2]
      · simp only [h, decide_false, cond_false, mfind, int_eqB, ih]
        by_cases h2 : i = a
        · subst h2
          have : ¬ i = k := fun e => h e.symm
          simp [this]
        · simp [h2]
  unfold mB
  rw [key]
  split <;> rfl
theorem vc_topology_count_ok (x : dens s_topology_count.args) (hw : awf s_topology_count.args x) (hp : s_topology_count.pre x) : vc_topology_count x := by
  obtain ⟨n, ls, gm, _⟩ := x
  have hl : ls.length ≤ 9223372036854775807 := hw.2.1.1
  change Int at n
  change List (Int × Int) at ls
  change List (Int × Bool) at gm
  have hok : netOk n ls := hp
  obtain ⟨n0, n1, nb⟩ := id hok
  simp only [vc_topology_count]
  refine ⟨⟨n0, n1⟩, ?_⟩
  rintro ⟨s0, _⟩ _ hs0
  simp only at hs0 ⊢
  subst hs0
  have hg : ∀ i : Int, (mfind (.int .i64) i gm).getD false = mB gm i := fun _ => rfl
  refine ⟨fun p => 0 ≤ p.2.1 ∧ p.2.1 ≤ (ls.length : Int) ∧ p.1 = (cnt (labs n (wo ls (fun j => mB gm (j : Int)) p.2.1.toNat)) : Int) ∧ Says p.2.2.1 (labs n (wo ls (fun j => mB gm (j : Int)) p.2.1.toNat)), fun p => ((ls.length : Int) - p.2.1).toNat, ⟨Int.le_refl _, Int.natCast_nonneg _, ?_, says_id n0⟩, ?_⟩
  · show n = (cnt (idL n) : Int)
    rw [cnt_idL]; omega
  rintro ⟨c, i, s, _⟩ _ ⟨h0, h1, h2, h3⟩
  change Int at c i
  change List Int at s
  simp only at h0 h1 h2 h3 ⊢
  have hsl : s.length = n.toNat := by rw [h3.2.1, labs_len]
  refine ⟨fun hi => ?_, fun hi => ?_⟩
  · have hi := of_decide_eq_true hi
    have hin : inB n (gx ((0 : Int), (0 : Int)) ls i) := nb _ (gx_mem h0 hi)
    have hgd := gx_getD (d := ((0 : Int), (0 : Int))) h0 hi
    generalize gx ((0 : Int), (0 : Int)) ls i = l at hin hgd ⊢
    have hsu := wo_succ ls (fun j => mB gm (j : Int)) i.toNat
    rw [← hgd, show ((i.toNat : Nat) : Int) = i from by omega] at hsu
    have hcl := cnt_le (labs n (wo ls (fun j => mB gm (j : Int)) i.toNat))
    rw [labs_len] at hcl
    rw [hg]
    refine ⟨fun p => p.1 = (cnt (labs n (wo ls (fun j => mB gm (j : Int)) (i.toNat + 1))) : Int) ∧ Says p.2.1 (labs n (wo ls (fun j => mB gm (j : Int)) (i.toNat + 1))), ⟨⟨h0, hi⟩, fun hm => ?_, fun hm => ?_⟩, ?_⟩
    · have hm : mB gm i = false := by simpa using hm
      rw [hm] at hsu ⊢
      simp only [Bool.not_false, sel_true]
      rw [if_neg (by simp)] at hsu
      refine ⟨⟨h3.1, inB_len n0 hsl hin, by omega⟩, ?_⟩
      rintro ⟨r, _⟩ ⟨o, _⟩ _ _ hr ⟨g1, g2, g3⟩
      simp only at hr g1 g2 g3 ⊢
      rw [hsu, labs_snoc]
      have hsj := says_join h3 (inB_len n0 hsl hin) g1 g2 g3
      rw [h3.2.2 l.1 hin.1 (by have := hin.2.1; omega), h3.2.2 l.2 hin.2.2.1 (by have := hin.2.2.2; omega)] at hr
      refine ⟨fun ht => ⟨?_, hsj⟩, fun hf => ⟨?_, hsj⟩⟩
      · rw [ht] at hr
        have hne := of_decide_eq_true hr.symm
        have hlb := labs_lab (ls := wo ls (fun j => mB gm (j : Int)) i.toNat) n0 (wo_ok hok (by omega)).2.2
        have := cnt_join hlb (inB_len n0 (labs_len _ _) hin) hne
        show IntKind.i64.wrap (c - 1) = _
        rw [wr (by omega) (by omega), h2]
        omega
      · rw [hf] at hr
        have he : lat (labs n (wo ls (fun j => mB gm (j : Int)) i.toNat)) l.1 = lat (labs n (wo ls (fun j => mB gm (j : Int)) i.toNat)) l.2 := by
          have := of_decide_eq_false hr.symm
          simpa using this
        show c = _
        rw [joinF_id he]; exact h2
    · have hm : mB gm i = true := by
        cases h : mB gm i with
        | true => rfl
        | false => exact (hm (by simp [h])).elim
      rw [hm] at hsu ⊢
      rw [if_pos rfl] at hsu
      simp only [Bool.not_true, sel_false]
      exact ⟨fun h => (by cases h), fun _ => ⟨by rw [hsu]; exact h2, by rw [hsu]; exact h3⟩⟩
    · rintro ⟨c', s', _⟩ _ ⟨k1, k2⟩
      simp only at k1 k2 ⊢
      rw [wr (by omega) (by omega), show (i + 1).toNat = i.toNat + 1 from by omega]
      exact ⟨⟨by omega, by omega, k1, k2⟩, by omega⟩
  · have hi := of_decide_eq_false hi
    rw [show i.toNat = ls.length from by omega, wo_all] at h2
    exact h2
theorem vc_topology_Separates_ok (x : dens s_topology_Separates.args) (hw : awf s_topology_Separates.args x) (hp : s_topology_Separates.pre x) : vc_topology_Separates x := by
  obtain ⟨n, ls, gone, _⟩ := x
  have hl : gone.length ≤ 9223372036854775807 := hw.2.2.1.1
  change Int at n
  change List (Int × Int) at ls
  change List Int at gone
  simp only [vc_topology_Separates]
  refine ⟨trivial, ?_⟩
  rintro ⟨e, _⟩ _ he
  simp only at he ⊢
  subst he
  refine ⟨fun h => ?_, fun h => ?_⟩
  · have h := of_decide_eq_true h
    exact ⟨fun _ => ⟨trivial, by trivial⟩, fun h' => absurd h' h, fun h' => absurd h' h⟩
  · have h : netE n ls = 0 := by simpa using h
    have hok := netE_ok.1 h
    refine ⟨fun p => 0 ≤ p.1 ∧ p.1 ≤ (gone.length : Int) ∧ (∀ i ∈ gone.take p.1.toNat, 0 ≤ i ∧ i < (ls.length : Int)) ∧ ∀ i : Int, mB p.2.1 i = decide (i ∈ gone.take p.1.toNat), fun p => ((gone.length : Int) - p.1).toNat, ⟨Int.le_refl _, Int.natCast_nonneg _, by simp, fun i => by simp [mB, mfind]⟩, ?_⟩
    rintro ⟨i, m, _⟩ _ ⟨h0, h1, h2, h3⟩
    change Int at i
    change List (Int × Bool) at m
    simp only at h0 h1 h2 h3 ⊢
    refine ⟨fun hi => ?_, fun hi => ?_⟩
    · have hi := of_decide_eq_true hi
      refine ⟨⟨h0, hi⟩, fun hb => ?_, fun hb => ?_⟩
      · rw [sel_or] at hb
        simp only [Bool.or_eq_true, decide_eq_true_eq] at hb
        refine ⟨fun h' => absurd h h', fun _ hall => ?_, fun _ _ => ⟨trivial, by trivial⟩⟩
        have := hall _ (gx_mem (d := (0 : Int)) h0 hi)
        omega
      · rw [sel_or] at hb
        simp only [Bool.or_eq_false_iff, decide_eq_false_iff_not] at hb
        rw [wr (by omega) (by omega)]
        refine ⟨⟨by omega, by omega, before_step (d := (0 : Int)) h0 hi h2 (by omega), fun j => ?_⟩, by omega⟩
        rw [mB_put, h3, show (i + 1).toNat = i.toNat + 1 from by omega, List.take_add_one, gx_get (d := (0 : Int)) h0 hi]
        simp only [Option.toList_some, List.mem_append, List.mem_singleton]
        by_cases hj : j = gx 0 gone i
        · rw [if_pos hj]; exact (decide_eq_true (.inr hj)).symm
        · rw [if_neg hj]; simp [hj]
    · have hi := of_decide_eq_false hi
      rw [take_all (by omega)] at h2 h3
      refine ⟨hok, ?_⟩
      rintro ⟨r, _⟩ _ hr
      simp only at hr ⊢
      refine ⟨hok, ?_⟩
      rintro ⟨r1, _⟩ _ hr1
      simp only at hr1 ⊢
      refine ⟨fun h' => absurd h h', fun _ _ => ⟨?_, by trivial⟩, fun _ h' => absurd h2 h'⟩
      subst hr hr1
      rw [without_nil ls (fun j => mB [] (j : Int)) (fun i _ => rfl), without_congr (g := fun j => mB m (j : Int)) (g' := fun j => decide ((j : Int) ∈ gone)) (fun i _ => h3 i)]
      unfold sep
      congr 1
      rw [eq_iff_iff]
      omega
theorem vc_r18_count_ok (x : dens s_r18_count.args) (hw : awf s_r18_count.args x) (hp : s_r18_count.pre x) : vc_r18_count x := by
  obtain ⟨L, _⟩ := x
  have hl : L.length ≤ 9223372036854775807 := hw.1.1
  change List Int at L
  simp only [vc_r18_count]
  refine ⟨fun p => 0 ≤ p.2.1 ∧ p.2.1 ≤ (L.length : Int) ∧ p.1 = (((List.range p.2.1.toNat).filter fun (b : Nat) => decide (lat L (b : Int) = (b : Int))).length : Int), fun p => ((L.length : Int) - p.2.1).toNat, ⟨Int.le_refl _, Int.natCast_nonneg _, rfl⟩, ?_⟩
  rintro ⟨c, i, _⟩ _ ⟨h0, h1, h2⟩
  change Int at c i
  simp only at h0 h1 h2 ⊢
  have hcl : ((List.range i.toNat).filter fun (b : Nat) => decide (lat L (b : Int) = (b : Int))).length ≤ i.toNat := by
    have := List.length_filter_le (fun (b : Nat) => decide (lat L (b : Int) = (b : Int))) (List.range i.toNat)
    rw [List.length_range] at this; exact this
  refine ⟨fun hi => ?_, fun hi => ?_⟩
  · have hi := of_decide_eq_true hi
    have hgl : gx 0 L i = lat L i := gx_getD h0 hi
    refine ⟨fun p => p.1 = (((List.range (i.toNat + 1)).filter fun (b : Nat) => decide (lat L (b : Int) = (b : Int))).length : Int), ⟨⟨h0, hi⟩, fun hb => ?_, fun hb => ?_⟩, ?_⟩
    · have hb := of_decide_eq_true hb
      rw [hgl] at hb
      show IntKind.i64.wrap (c + 1) = _
      rw [wr (by omega) (by omega), List.range_succ, List.filter_append, List.length_append]
      have : (List.filter (fun (b : Nat) => decide (lat L (b : Int) = (b : Int))) [i.toNat]).length = 1 := by
        rw [List.filter_cons_of_pos (by rw [show ((i.toNat : Nat) : Int) = i from by omega]; exact decide_eq_true hb)]; rfl
      omega
    · have hb := of_decide_eq_false hb
      rw [hgl] at hb
      show c = _
      rw [List.range_succ, List.filter_append, List.length_append]
      have : (List.filter (fun (b : Nat) => decide (lat L (b : Int) = (b : Int))) [i.toNat]).length = 0 := by
        rw [List.filter_cons_of_neg (by rw [show ((i.toNat : Nat) : Int) = i from by omega]; simpa using hb)]; rfl
      omega
    · rintro ⟨c', _⟩ _ hc
      simp only at hc ⊢
      rw [wr (by omega) (by omega), show (i + 1).toNat = i.toNat + 1 from by omega]
      exact ⟨⟨by omega, by omega, hc⟩, by omega⟩
  · have hi := of_decide_eq_false hi
    rw [h2, cnt_eq, show i.toNat = L.length from by omega]
theorem vc_r18_Separated_ok (x : dens s_r18_Separated.args) (hw : awf s_r18_Separated.args x) (hp : s_r18_Separated.pre x) : vc_r18_Separated x := by
  obtain ⟨n, ls, gone, _⟩ := x
  change Int at n
  change List (Int × Int) at ls
  change List Int at gone
  obtain ⟨hok, hl⟩ : netOk n ls ∧ ls.length ≤ 100000 := hp
  simp only [vc_r18_Separated]
  have hwl : ∀ k, (wo ls (fun j => decide ((j : Int) ∈ gone)) k).length ≤ k := fun k => by
    unfold wo
    rw [List.length_map]
    have := List.length_filter_le (fun i => !(decide (((i : Nat) : Int) ∈ gone))) (List.range k)
    rw [List.length_range] at this; exact this
  refine ⟨fun p => 0 ≤ p.2.1 ∧ p.2.1 ≤ (ls.length : Int) ∧ p.1 = wo ls (fun j => decide ((j : Int) ∈ gone)) p.2.1.toNat, fun p => ((ls.length : Int) - p.2.1).toNat, ⟨Int.le_refl _, Int.natCast_nonneg _, rfl⟩, ?_⟩
  rintro ⟨t, i, _⟩ _ ⟨h0, h1, h2⟩
  change Int at i
  change List (Int × Int) at t
  simp only at h0 h1 h2 ⊢
  have htl := hwl i.toNat
  rw [← h2] at htl
  refine ⟨fun hi => ?_, fun hi => ?_⟩
  · have hi := of_decide_eq_true hi
    have hgd := gx_getD (d := ((0 : Int), (0 : Int))) h0 hi
    generalize gx ((0 : Int), (0 : Int)) ls i = l at hgd ⊢
    have hsu := wo_succ ls (fun j => decide ((j : Int) ∈ gone)) i.toNat
    rw [← hgd, show ((i.toNat : Nat) : Int) = i from by omega, ← h2] at hsu
    refine ⟨fun p => p.1 = wo ls (fun j => decide ((j : Int) ∈ gone)) (i.toNat + 1), ⟨trivial, ?_⟩, ?_⟩
    · rintro ⟨r, _⟩ _ hr
      simp only at hr ⊢
      subst hr
      refine ⟨fun hb => ⟨⟨h0, hi⟩, ⟨by simp only [List.length_singleton]; omega, by simp only [List.length_singleton]; omega⟩, ?_⟩, fun hb => ?_⟩
      · have hb : decide (i ∈ gone) = false := by simpa using hb
        rw [hsu, hb, if_neg (by simp)]
      · have hb : decide (i ∈ gone) = true := by simpa using hb
        rw [hsu, hb, if_pos rfl]
    · rintro ⟨t', _⟩ _ ht
      simp only at ht ⊢
      rw [wr (by omega) (by omega), show (i + 1).toNat = i.toNat + 1 from by omega]
      exact ⟨⟨by omega, by omega, ht⟩, by omega⟩
  · have hi := of_decide_eq_false hi
    rw [show i.toNat = ls.length from by omega] at h2
    refine ⟨by rw [h2]; exact wo_ok hok (Nat.le_refl _), ?_⟩
    rintro ⟨r, _⟩ _ hr
    simp only at hr ⊢
    refine ⟨trivial, ?_⟩
    rintro ⟨r1, _⟩ _ hr1
    simp only at hr1 ⊢
    refine ⟨hok, ?_⟩
    rintro ⟨r2, _⟩ _ hr2
    simp only at hr2 ⊢
    refine ⟨trivial, ?_⟩
    rintro ⟨r3, _⟩ _ hr3
    simp only at hr3 ⊢
    subst hr1 hr3 hr hr2 h2
    rw [wo_all]
    unfold sep
    congr 1
    rw [eq_iff_iff]
    omega
end Go.Proofs.YtppgpdigopffbaaGreat
namespace Go.Proofs.YtppgpdigopffbaaGreat
open Go.Vc Go.Gw
def Near (n : Int) (ls : List Ln) (L : List Int) : Prop := L.length = n.toNat ∧ ∀ i : Int, 0 ≤ i → i < n → 0 ≤ lat L i ∧ lat L i ≤ i ∧ lat (labs n ls) (lat L i) = lat (labs n ls) i
theorem near_step {n : Int} {ls : List Ln} (hok : netOk n ls) {L : List Int} (h : Near n ls L) {l : Ln} (hl : l ∈ ls) : Near n ls ((L.set l.1.toNat (min (lat L l.1) (lat L l.2))).set l.2.toNat (min (lat L l.1) (lat L l.2))) := by
  obtain ⟨h1, h2⟩ := h
  obtain ⟨n0, n1, nb⟩ := hok
  obtain ⟨a0, a1, b0, b1⟩ := nb l hl
  refine ⟨by simp [h1], fun i i0 i1 => ?_⟩
  have hline := labs_line n0 nb hl
  obtain ⟨p0, p1, p2⟩ := h2 _ a0 a1
  obtain ⟨q0, q1, q2⟩ := h2 _ b0 b1
  have hm : lat (labs n ls) (min (lat L l.1) (lat L l.2)) = lat (labs n ls) l.1 := by
    rcases (by omega : min (lat L l.1) (lat L l.2) = lat L l.1 ∨ min (lat L l.1) (lat L l.2) = lat L l.2) with e | e <;> rw [e]
    · exact p2
    · rw [q2, hline]
  rw [lat_set (by rw [List.length_set]; omega), lat_set (by omega)]
  split
  · rename_i e
    rw [show i = l.2 from by omega]
    exact ⟨by omega, by omega, by rw [hm, hline]⟩
  · split
    · rename_i e
      rw [show i = l.1 from by omega]
      exact ⟨by omega, by omega, hm⟩
    · exact h2 i i0 i1
theorem sum_step {L : List Int} {l : Ln} (hl : inB L.length l) : (lat L l.1 = min (lat L l.1) (lat L l.2) ∧ lat L l.2 = min (lat L l.1) (lat L l.2) → (L.set l.1.toNat (min (lat L l.1) (lat L l.2))).set l.2.toNat (min (lat L l.1) (lat L l.2)) = L) ∧ (¬ (lat L l.1 = min (lat L l.1) (lat L l.2) ∧ lat L l.2 = min (lat L l.1) (lat L l.2)) → sumI ((L.set l.1.toNat (min (lat L l.1) (lat L l.2))).set l.2.toNat (min (lat L l.1) (lat L l.2))) < sumI L) := by
  obtain ⟨a0, a1, b0, b1⟩ := hl
  have hk1 : l.1.toNat < L.length := by omega
  have hk2 : l.2.toNat < (L.set l.1.toNat (min (lat L l.1) (lat L l.2))).length := by rw [List.length_set]; omega
  constructor
  · rintro ⟨e1, e2⟩
    refine lat_ext (by simp) fun i i0 i1 => ?_
    rw [lat_set hk2, lat_set hk1]
    simp only [List.length_set] at i1
    split
    · rename_i e; rw [show i = l.2 from by omega]; exact e2.symm
    · split
      · rename_i e; rw [show i = l.1 from by omega]; exact e1.symm
      · rfl
  · intro hne
    rw [sumI_set hk2, sumI_set hk1]
    have e1 : L.getD l.1.toNat 0 = lat L l.1 := rfl
    have e2 : (L.set l.1.toNat (min (lat L l.1) (lat L l.2))).getD l.2.toNat 0 = lat (L.set l.1.toNat (min (lat L l.1) (lat L l.2))) l.2 := rfl
    rw [e1, e2, lat_set hk1]
    split
    · rename_i e
      have : l.2 = l.1 := by omega
      rw [this] at hne ⊢
      omega
    · omega
theorem vc_r18_Islands_ok (x : dens s_r18_Islands.args) (hw : awf s_r18_Islands.args x) (hp : s_r18_Islands.pre x) : vc_r18_Islands x := by
  obtain ⟨n, ls, _⟩ := x
  have hl : ls.length ≤ 9223372036854775807 := hw.2.1.1
  change Int at n
  change List (Int × Int) at ls
  have hok : netOk n ls := hp
  obtain ⟨n0, n1, nb⟩ := id hok
  simp only [vc_r18_Islands]
  refine ⟨⟨n0, Int.le_refl _, by omega, by omega⟩, fun p => 0 ≤ p.1 ∧ p.1 ≤ n ∧ p.2.1.length = n.toNat ∧ ∀ i : Int, 0 ≤ i → i < p.1 → lat p.2.1 i = i, fun p => (n - p.1).toNat, ⟨by omega, by omega, by simp, fun i hi => by omega⟩, ?_⟩
  rintro ⟨b, t, _⟩ _ ⟨h0, h1, h2, h3⟩
  change Int at b
  change List Int at t
  simp only at h0 h1 h2 h3 ⊢
  refine ⟨fun h => ?_, fun h => ?_⟩
  · have h := of_decide_eq_true h
    rw [wr (by omega) (by omega)]
    refine ⟨⟨h0, by omega⟩, ⟨by omega, by omega, by rw [List.length_set]; exact h2, fun j hj hjb => ?_⟩, by omega⟩
    rw [lat_set (by omega)]
    split
    · omega
    · exact h3 j hj (by omega)
  · have h := of_decide_eq_false h
    have ht : t = idL n := lat_ext (by rw [h2, idL_len]) fun i i0 i1 => by rw [h3 i i0 (by omega), lat_idL i0 (by omega)]
    have hnear : Near n ls (idL n) := ⟨idL_len n, fun i i0 i1 => by rw [lat_idL i0 i1]; exact ⟨i0, Int.le_refl _, rfl⟩⟩
    subst ht
    have hnn : ∀ {L : List Int}, Near n ls L → 0 ≤ sumI L := fun {L} hL => sumI_nonneg fun y hy => by
      obtain ⟨i, i0, i1, rfl⟩ := mem_lat hy
      rw [hL.1] at i1
      exact (hL.2 i i0 (by omega)).1
    refine ⟨fun p => Near n ls p.2.1 ∧ (p.1 = false → ∀ l ∈ ls, lat p.2.1 l.1 = lat p.2.1 l.2), fun p => 2 * (sumI p.2.1).toNat + (if p.1 = true then 1 else 0), ⟨hnear, fun h => by cases h⟩, ?_⟩
    rintro ⟨ag, L, _⟩ _ ⟨g1, g2⟩
    change List Int at L
    change Bool at ag
    simp only at g1 g2 ⊢
    refine ⟨fun hag => ?_, fun hag => ?_⟩
    · subst hag
      refine ⟨fun p => 0 ≤ p.2.1 ∧ p.2.1 ≤ (ls.length : Int) ∧ Near n ls p.2.2.1 ∧ (p.1 = true → sumI p.2.2.1 < sumI L) ∧ (p.1 = false → p.2.2.1 = L ∧ ∀ l ∈ ls.take p.2.1.toNat, lat L l.1 = lat L l.2), fun p => ((ls.length : Int) - p.2.1).toNat, ⟨Int.le_refl _, Int.natCast_nonneg _, g1, fun h => (by cases h), fun _ => ⟨rfl, by simp⟩⟩, ?_⟩
      rintro ⟨a2, i, M, _⟩ _ ⟨k0, k1, k2, k3, k4⟩
      change Int at i
      change List Int at M
      change Bool at a2
      simp only at k0 k1 k2 k3 k4 ⊢
      refine ⟨fun hi => ?_, fun hi => ?_⟩
      · have hi := of_decide_eq_true hi
        have hmem := gx_mem (d := ((0 : Int), (0 : Int))) k0 hi
        have hbs : ∀ (q : Ln → Prop), (∀ x ∈ ls.take i.toNat, q x) → q (gx ((0 : Int), (0 : Int)) ls i) → ∀ x ∈ ls.take (i + 1).toNat, q x := fun q h1 h2 => before_step k0 hi h1 h2
        generalize gx ((0 : Int), (0 : Int)) ls i = l at hmem hbs ⊢
        have hin := inB_len n0 k2.1 (nb l hmem)
        have hst := sum_step hin
        have hns := near_step hok k2 hmem
        obtain ⟨a0, a1, b0, b1⟩ := hin
        have e1 : M.getD l.1.toNat 0 = lat M l.1 := rfl
        have e2 : M.getD l.2.toNat 0 = lat M l.2 := rfl
        rw [e1, e2, wr (by omega) (by omega)]
        simp only [sel_or]
        have main : (0 ≤ i + 1 ∧ i + 1 ≤ (ls.length : Int) ∧ Near n ls ((M.set l.1.toNat (min (lat M l.1) (lat M l.2))).set l.2.toNat (min (lat M l.1) (lat M l.2))) ∧ ((a2 || decide (lat M l.1 ≠ min (lat M l.1) (lat M l.2)) || decide (lat M l.2 ≠ min (lat M l.1) (lat M l.2))) = true → sumI ((M.set l.1.toNat (min (lat M l.1) (lat M l.2))).set l.2.toNat (min (lat M l.1) (lat M l.2))) < sumI L) ∧ ((a2 || decide (lat M l.1 ≠ min (lat M l.1) (lat M l.2)) || decide (lat M l.2 ≠ min (lat M l.1) (lat M l.2))) = false → (M.set l.1.toNat (min (lat M l.1) (lat M l.2))).set l.2.toNat (min (lat M l.1) (lat M l.2)) = L ∧ ∀ l ∈ ls.take (i + 1).toNat, lat L l.1 = lat L l.2)) := by
          refine ⟨by omega, by omega, hns, fun ht => ?_, fun hf => ?_⟩
          · by_cases hc : lat M l.1 = min (lat M l.1) (lat M l.2) ∧ lat M l.2 = min (lat M l.1) (lat M l.2)
            · rw [hst.1 hc]
              simp only [Bool.or_eq_true, decide_eq_true_eq] at ht
              rcases ht with (ht | ht) | ht
              · exact k3 ht
              · exact absurd hc.1 ht
              · exact absurd hc.2 ht
            · have := hst.2 hc
              cases ha : a2 with
              | true => have := k3 ha; omega
              | false => rw [(k4 ha).1] at this ⊢; exact this
          · simp only [Bool.or_eq_false_iff, decide_eq_false_iff_not, ne_eq, Decidable.not_not] at hf
            obtain ⟨⟨f1, f2⟩, f3⟩ := hf
            rw [hst.1 ⟨f2, f3⟩]
            obtain ⟨eL, hall⟩ := k4 f1
            subst eL
            exact ⟨rfl, hbs (fun l => lat M l.1 = lat M l.2) hall (by omega)⟩
        have hr : 0 ≤ l.2 ∧ l.2 < ((M.set l.1.toNat (min (lat M l.1) (lat M l.2))).length : Int) := by rw [List.length_set]; exact ⟨b0, b1⟩
        have hmu : ((ls.length : Int) - (i + 1)).toNat < ((ls.length : Int) - i).toNat := by omega
        refine ⟨⟨k0, hi⟩, ⟨by omega, by omega⟩, ⟨a0, a1⟩, ⟨by omega, by omega⟩, ⟨b0, b1⟩, fun _ => ⟨by omega, by omega⟩, fun _ => ⟨a0, a1⟩, fun _ => ⟨by omega, by omega⟩, fun _ => ⟨b0, b1⟩, ⟨by omega, by omega⟩, ⟨by omega, by omega⟩, ⟨a0, a1⟩, ⟨hr, main, hmu⟩, hr, main, hmu⟩
      · have hi := of_decide_eq_false hi
        have hn1 := hnn g1
        have hn2 := hnn k2
        cases ha : a2 with
        | true =>
          refine ⟨⟨k2, fun h => by cases h⟩, ?_⟩
          have := k3 ha
          simp only [if_true]
          omega
        | false =>
          obtain ⟨eL, hall⟩ := k4 ha
          rw [take_all (by omega)] at hall
          subst eL
          refine ⟨⟨k2, fun _ => hall⟩, ?_⟩
          simp
    · exact labs_unique n0 nb g1.1 g1.2 (g2 hag)
theorem vc_r19_Network_ok (x : dens s_r19_Network.args) (hw : awf s_r19_Network.args x) (_ : s_r19_Network.pre x) : vc_r19_Network x := by
  obtain ⟨n, ls, _⟩ := x
  have hl : ls.length ≤ 9223372036854775807 := hw.2.1.1
  change Int at n
  simp only [vc_r19_Network, sel_or, Bool.or_eq_true, Bool.or_eq_false_iff, decide_eq_true_eq, decide_eq_false_iff_not]
  refine ⟨fun h => by rw [netE, if_pos h], fun h => ?_⟩
  refine ⟨fun p => 0 ≤ p.1 ∧ p.1 ≤ (ls.length : Int) ∧ ∀ l ∈ ls.take p.1.toNat, inB n l, fun p => ((ls.length : Int) - p.1).toNat, ⟨by omega, by omega, by simp⟩, ?_⟩
  rintro ⟨i, _⟩ _ ⟨h0, h1, h2⟩
  change Int at i
  simp only at h0 h1 h2 ⊢
  refine ⟨fun hi => ⟨⟨h0, hi⟩, by omega, fun _ => ⟨h0, hi⟩, fun _ => by omega, fun _ => ⟨h0, hi⟩, fun _ => by omega, fun _ => ⟨h0, hi⟩, fun _ => by omega, fun hb => ?_, fun hb => ?_⟩, fun hi => ?_⟩
  · rw [netE, if_neg (by omega), if_neg]
    intro hall
    have := hall _ (gx_mem (d := ((0 : Int), (0 : Int))) h0 hi)
    unfold inB at this
    omega
  · rw [wr (by omega) (by omega)]
    refine ⟨⟨by omega, by omega, before_step (d := ((0 : Int), (0 : Int))) h0 hi h2 ?_⟩, by omega⟩
    unfold inB
    omega
  · rw [take_all (by omega)] at h2
    rw [netE, if_neg (by omega), if_pos h2]
theorem vc_r19_Forest_ok (x : dens s_r19_Forest.args) (hw : awf s_r19_Forest.args x) (hp : s_r19_Forest.pre x) : vc_r19_Forest x := by
  obtain ⟨n, ls, _⟩ := x
  change Int at n
  change List (Int × Int) at ls
  obtain ⟨hok, hl⟩ : netOk n ls ∧ ls.length ≤ 100000 := hp
  obtain ⟨n0, n1, nb⟩ := id hok
  simp only [vc_r19_Forest]
  refine ⟨fun p => 0 ≤ p.2.1 ∧ p.2.1 ≤ (ls.length : Int) ∧ p.1 = (treeF n ls p.2.1.toNat).2.1, fun p => ((ls.length : Int) - p.2.1).toNat, ⟨Int.le_refl _, Int.natCast_nonneg _, rfl⟩, ?_⟩
  rintro ⟨f, i, _⟩ _ ⟨h0, h1, h2⟩
  change Int at i
  change List Int at f
  simp only at h0 h1 h2 ⊢
  have hfl := forest_le hok (k := i.toNat) (by omega)
  rw [← h2] at hfl
  obtain ⟨t1, _⟩ := treeF_spec hok i.toNat (by omega)
  refine ⟨fun hi => ?_, fun hi => ?_⟩
  · have hi := of_decide_eq_true hi
    have hin : inB n (gx ((0 : Int), (0 : Int)) ls i) := nb _ (gx_mem h0 hi)
    have hg := gx_getD (d := ((0 : Int), (0 : Int))) h0 hi
    generalize gx ((0 : Int), (0 : Int)) ls i = l at hin hg ⊢
    obtain ⟨a, b⟩ := l
    obtain ⟨a0, a1, b0, b1⟩ := hin
    simp only at a0 a1 b0 b1 ⊢
    rw [show List.drop (Int.toNat 0) (List.take i.toNat ls) = ls.take i.toNat from rfl]
    refine ⟨fun p => p.1 = (treeF n ls (i.toNat + 1)).2.1, ⟨⟨by omega, h0, by omega⟩, ⟨n0, n1, fun l hl => nb l (List.mem_of_mem_take hl)⟩, ?_⟩, ?_⟩
    · rintro ⟨r, _⟩ _ hr
      simp only at hr ⊢
      have hrl : r.length = n.toNat := by rw [hr, labs_len]
      have ga : gx 0 r a = lat (treeF n ls i.toNat).1 a := by rw [gx_getD a0 (by omega), t1, ← hr]; rfl
      have gb : gx 0 r b = lat (treeF n ls i.toNat).1 b := by rw [gx_getD b0 (by omega), t1, ← hr]; rfl
      rw [ga, gb]
      refine ⟨⟨h0, hi⟩, ⟨by omega, by omega⟩, ⟨a0, by omega⟩, ⟨h0, hi⟩, ⟨by omega, by omega⟩, ⟨b0, by omega⟩, fun hne => ⟨⟨by simp only [List.length_singleton]; omega, by simp only [List.length_singleton]; omega⟩, ?_⟩, fun heq => ?_⟩
      · have hne := of_decide_eq_true hne
        show f ++ [i] = _
        rw [treeF]
        simp only [← hg]
        rw [if_neg hne, ← h2, show ((i.toNat : Nat) : Int) = i from by omega]
      · have heq : lat (treeF n ls i.toNat).1 a = lat (treeF n ls i.toNat).1 b := by simpa using heq
        show f = _
        rw [treeF]
        simp only [← hg]
        rw [if_pos heq, ← h2]
    · rintro ⟨f', _⟩ _ k1
      simp only at k1 ⊢
      rw [wr (by omega) (by omega), show (i + 1).toNat = i.toNat + 1 from by omega]
      exact ⟨⟨by omega, by omega, k1⟩, by omega⟩
  · have hi := of_decide_eq_false hi
    rw [show i.toNat = ls.length from by omega] at h2
    exact h2
theorem vc_r19_Bridges_ok (x : dens s_r19_Bridges.args) (hw : awf s_r19_Bridges.args x) (hp : s_r19_Bridges.pre x) : vc_r19_Bridges x := by
  obtain ⟨n, ls, _⟩ := x
  change Int at n
  change List (Int × Int) at ls
  obtain ⟨hok, hl⟩ : netOk n ls ∧ ls.length ≤ 100000 := hp
  simp only [vc_r19_Bridges]
  have hbl : ∀ k, (((List.range k).filter fun i => sep n ls (fun j => j == i)).map Int.ofNat).length ≤ k := fun k => by
    rw [List.length_map]
    have := List.length_filter_le (fun i => sep n ls (fun j => j == i)) (List.range k)
    rw [List.length_range] at this; exact this
  refine ⟨fun p => 0 ≤ p.2.1 ∧ p.2.1 ≤ (ls.length : Int) ∧ p.1 = ((List.range p.2.1.toNat).filter fun i => sep n ls (fun j => j == i)).map Int.ofNat, fun p => ((ls.length : Int) - p.2.1).toNat, ⟨Int.le_refl _, Int.natCast_nonneg _, rfl⟩, ?_⟩
  rintro ⟨f, i, _⟩ _ ⟨h0, h1, h2⟩
  change Int at i
  change List Int at f
  simp only at h0 h1 h2 ⊢
  have hfl := hbl i.toNat
  rw [← h2] at hfl
  refine ⟨fun hi => ?_, fun hi => ?_⟩
  · have hi := of_decide_eq_true hi
    have hse : sep n ls (fun j => decide ((j : Int) ∈ [i])) = sep n ls (fun j => j == i.toNat) := by
      unfold sep
      rw [without_congr fun j hj => ?_]
      simp only [List.mem_singleton]
      rw [Bool.eq_iff_iff, decide_eq_true_eq, beq_iff_eq]
      omega
    refine ⟨fun p => p.1 = ((List.range (i.toNat + 1)).filter fun i => sep n ls (fun j => j == i)).map Int.ofNat, ⟨⟨hok, hl⟩, ?_⟩, ?_⟩
    · rintro ⟨r, _⟩ _ hr
      simp only at hr ⊢
      rw [hse] at hr
      refine ⟨fun ht => ⟨⟨by simp only [List.length_singleton]; omega, by simp only [List.length_singleton]; omega⟩, ?_⟩, fun hf => ?_⟩
      · rw [ht] at hr
        rw [List.range_succ, List.filter_append, List.map_append, ← h2, List.filter_cons_of_pos (p := fun i => sep n ls fun j => j == i) hr.symm]
        simp
        omega
      · rw [hf] at hr
        rw [List.range_succ, List.filter_append, List.map_append, ← h2, List.filter_cons_of_neg (p := fun i => sep n ls fun j => j == i) (by rw [← hr]; simp)]
        simp
    · rintro ⟨f', _⟩ _ k1
      simp only at k1 ⊢
      rw [wr (by omega) (by omega), show (i + 1).toNat = i.toNat + 1 from by omega]
      exact ⟨⟨by omega, by omega, k1⟩, by omega⟩
  · have hi := of_decide_eq_false hi
    rw [show i.toNat = ls.length from by omega] at h2
    exact h2
end Go.Proofs.YtppgpdigopffbaaGreat
namespace Go.Proofs.YtppgpdigopffbaaGreat
open Go.Vc Go.Gw
theorem half {a b : Int} (a0 : 0 ≤ a) (ab : a < b) (hb : b ≤ 100000) : IntKind.i64.wrap ((IntKind.u64.wrap (IntKind.i64.wrap (a + b))).fdiv (2 ^ min (Int.toNat 1) IntKind.u64.bits)) = (a + b) / 2 := by
  rw [wr (a := a + b) (by omega) (by omega)]
  have e : IntKind.u64.wrap (a + b) = a + b := by simp [IntKind.wrap, IntKind.bits, IntKind.signed]; omega
  rw [e, show (2 : Int) ^ min (Int.toNat 1) IntKind.u64.bits = 2 from by decide, Int.fdiv_eq_ediv_of_nonneg _ (by omega), wr (by omega) (by omega)]
theorem vc_slices_BinarySearch_Sint_int_ok (x : dens s_slices_BinarySearch_Sint_int.args) (hw : awf s_slices_BinarySearch_Sint_int.args x) (hp : s_slices_BinarySearch_Sint_int.pre x) : vc_slices_BinarySearch_Sint_int x := by
  obtain ⟨l, v, _⟩ := x
  change Int at v
  change List Int at l
  obtain ⟨hs, hl⟩ : l.Pairwise (· < ·) ∧ l.length ≤ 100000 := hp
  have hmono : ∀ i j : Int, 0 ≤ i → i < j → j < (l.length : Int) → gx 0 l i < gx 0 l j := fun i j i0 ij j1 => by
    have h1 := gx_get (d := (0 : Int)) i0 (by omega : i < (l.length : Int))
    have h2 := gx_get (d := (0 : Int)) (by omega : 0 ≤ j) j1
    rw [List.getElem?_eq_getElem (by omega)] at h1 h2
    have := List.pairwise_iff_getElem.1 hs i.toNat j.toNat (by omega) (by omega) (by omega)
    rw [Option.some.inj h1, Option.some.inj h2] at this
    exact this
  simp only [vc_slices_BinarySearch_Sint_int]
  refine ⟨fun p => 0 ≤ p.1 ∧ p.1 ≤ p.2.1 ∧ p.2.1 ≤ (l.length : Int) ∧ (∀ i, 0 ≤ i → i < p.1 → gx 0 l i < v) ∧ (∀ i, p.2.1 ≤ i → i < (l.length : Int) → v ≤ gx 0 l i), fun p => (p.2.1 - p.1).toNat, ⟨Int.le_refl _, Int.natCast_nonneg _, Int.le_refl _, fun i hi hi' => by omega, fun i hi hi' => (by have hi : (l.length : Int) ≤ i := hi; omega)⟩, ?_⟩
  rintro ⟨a, b, _⟩ _ ⟨h0, h1, h2, h3, h4⟩
  change Int at a b
  simp only at h0 h1 h2 h3 h4 ⊢
  refine ⟨fun h => ?_, fun h => ?_⟩
  · have h := of_decide_eq_true h
    rw [half h0 h (by omega)]
    have c0 : a ≤ (a + b) / 2 := by omega
    have c1 : (a + b) / 2 < b := by omega
    generalize (a + b) / 2 = c at c0 c1
    refine ⟨by decide, ⟨by omega, by omega⟩, trivial, ?_⟩
    rintro ⟨r, _⟩ _ hr
    simp only at hr ⊢
    subst hr
    refine ⟨fun ht => ?_, fun hf => ?_⟩
    · have ht := of_decide_eq_true ht
      rw [wr (by omega) (by omega)]
      refine ⟨⟨by omega, by omega, h2, fun i i0 i1 => ?_, h4⟩, by omega⟩
      rcases (by omega : i < c ∨ i = c) with hc | hc
      · have := hmono i c i0 hc (by omega); omega
      · rw [hc]; exact ht
    · have hf := of_decide_eq_false hf
      refine ⟨⟨h0, c0, by omega, h3, fun i i0 i1 => ?_⟩, by omega⟩
      rcases (by omega : c < i ∨ i = c) with hc | hc
      · have := hmono c i (by omega) hc i1; omega
      · rw [hc]; omega
  · have h := of_decide_eq_false h
    have hab : a = b := by omega
    subst hab
    refine ⟨fun hh => ⟨h0, of_decide_eq_true hh⟩, fun hh => ⟨h0, of_decide_eq_true hh.2⟩, fun _ => trivial, ?_⟩
    rintro ⟨r, _⟩ hr
    refine ⟨fun _ => trivial, ?_⟩
    rintro ⟨r1, _⟩ hr1
    simp only at hr hr1 ⊢
    by_cases ha : a < (l.length : Int)
    · by_cases he : gx 0 l a = v
      · have hm : v ∈ l := he ▸ gx_mem h0 ha
        simp [ha, he, hm, sel_true]
      · have hm : ¬ v ∈ l := fun hv => by
          obtain ⟨i, i0, i1, e⟩ := mem_lat hv
          have e2 : gx 0 l i = v := by rw [gx_getD i0 i1]; exact e
          rcases (by omega : i < a ∨ i = a ∨ a < i) with hi | hi | hi
          · have := h3 i i0 hi; omega
          · rw [hi] at e2; exact he e2
          · have := h4 a (Int.le_refl _) ha
            have := hmono a i h0 hi i1
            omega
        have hrf : r = false := (hr ⟨by simp [he], by simp [ha]⟩).2
        simp [ha, he, hm, hrf, sel_true, sel_false]
    · have hm : ¬ v ∈ l := fun hv => by
        obtain ⟨i, i0, i1, e⟩ := mem_lat hv
        have e2 : gx 0 l i = v := by rw [gx_getD i0 i1]; exact e
        have := h3 i i0 (by omega)
        omega
      simp [ha, hm, sel_false]
theorem vc_slices_IndexFunc_Sint_int_ok (x : dens s_slices_IndexFunc_Sint_int.args) (hw : awf s_slices_IndexFunc_Sint_int.args x) (hp : s_slices_IndexFunc_Sint_int.pre x) : vc_slices_IndexFunc_Sint_int x := by
  obtain ⟨l, ⟨ok, φ⟩, _⟩ := x
  have hl : l.length ≤ 9223372036854775807 := hw.1.1
  change List Int at l
  have hp : ∀ i ∈ l, ok (i, ()) := hp
  simp only [vc_slices_IndexFunc_Sint_int]
  refine ⟨fun p => 0 ≤ p.1 ∧ p.1 ≤ (l.length : Int) ∧ ∀ y ∈ l.take p.1.toNat, φ (y, ()) = false, fun p => ((l.length : Int) - p.1).toNat, ⟨Int.le_refl _, Int.natCast_nonneg _, by simp⟩, ?_⟩
  rintro ⟨i, _⟩ _ ⟨h0, h1, h2⟩
  change Int at i
  simp only at h0 h1 h2 ⊢
  refine ⟨fun h => ?_, fun h => ?_⟩
  · have h := of_decide_eq_true h
    refine ⟨⟨h0, h⟩, by trivial, hp _ (gx_mem h0 h), fun _ => ⟨fun ht => ?_, fun hf => ?_⟩⟩
    · have hfi : l.findIdx? (fun i => φ (i, ())) = some i.toNat := by
        rw [List.findIdx?_eq_some_iff_getElem]
        have hg := gx_get (d := (0 : Int)) h0 h
        have hlt : i.toNat < l.length := by omega
        rw [List.getElem?_eq_getElem hlt] at hg
        refine ⟨hlt, by rw [Option.some.inj hg]; exact ht, fun j hj => ?_⟩
        have := h2 l[j] (List.mem_iff_getElem.2 ⟨j, by rw [List.length_take]; omega, by simp⟩)
        simp [this]
      unfold idxF
      rw [hfi]
      show i = ((i.toNat : Nat) : Int)
      omega
    · rw [wr (by omega) (by omega)]
      exact ⟨⟨by omega, by omega, before_step h0 h h2 hf⟩, by omega⟩
  · have h := of_decide_eq_false h
    rw [take_all (by omega)] at h2
    unfold idxF
    have : l.findIdx? (fun i => φ (i, ())) = none := by
      rw [List.findIdx?_eq_none_iff]
      exact h2
    rw [this]
theorem vc_law19_network_ok (x : dens s_law19_network.args) (hw : awf s_law19_network.args x) (hp : s_law19_network.pre x) : vc_law19_network x := by
  obtain ⟨c, _⟩ := x
  change List Int at c
  simp only [vc_law19_network]
  refine ⟨trivial, ?_⟩
  rintro ⟨⟨t, ti⟩, _⟩ _ ht
  simp only at ht ⊢
  cases ht
  refine ⟨⟨by omega, Int.le_refl _, Int.natCast_nonneg _⟩, ?_⟩
  rintro ⟨n, _⟩ ⟨⟨t1, i1⟩, _⟩ _ _ ⟨a0, a1⟩ ⟨b0, b1, b2⟩
  simp only at a0 a1 b0 b1 b2 ⊢
  subst b0
  refine ⟨⟨by omega, b1, b2⟩, ?_⟩
  rintro ⟨k, _⟩ ⟨⟨t2, i2⟩, _⟩ _ _ ⟨c0, c1⟩ ⟨d0, d1, d2⟩
  simp only at c0 c1 d0 d1 d2 ⊢
  subst d0
  change Int at n k
  refine ⟨fun p => 0 ≤ p.2.1 ∧ (p.1.length : Int) + p.2.1 ≤ 12 ∧ (∀ l ∈ p.1, inB n l) ∧ 0 ≤ p.2.2.2.1 ∧ p.2.2.2.1 ≤ (p.2.2.1.length : Int), fun p => p.2.1.toNat, ⟨c0, by simp; omega, by simp, d1, d2⟩, ?_⟩
  rintro ⟨l, j, tt, q, _⟩ _ ⟨e0, e1, e2, e3, e4⟩
  change List (Int × Int) at l
  change Int at j q
  simp only at e0 e1 e2 e3 e4 ⊢
  rw [sel_and]
  simp only [Bool.and_eq_true, decide_eq_true_eq, Bool.and_eq_false_iff, decide_eq_false_iff_not]
  refine ⟨fun h => ⟨⟨h.2, e3, e4⟩, ?_⟩, fun h => ⟨⟨a0, by omega, e2⟩, by omega, by omega⟩⟩
  rintro ⟨r, _⟩ ⟨⟨t3, i3⟩, _⟩ _ _ ⟨f0, f1⟩ ⟨g0, g1, g2⟩
  simp only at f0 f1 g0 g1 g2 ⊢
  subst g0
  refine ⟨⟨h.2, g1, g2⟩, ?_⟩
  rintro ⟨r2, _⟩ ⟨⟨t4, i4⟩, _⟩ _ _ ⟨k0, k1⟩ ⟨m0, m1, m2⟩
  simp only at k0 k1 m0 m1 m2 ⊢
  subst m0
  rw [wr (by omega) (by omega)]
  simp only [List.length_append, List.length_singleton]
  refine ⟨⟨by omega, by omega⟩, ⟨by omega, by omega, fun y hy => ?_, m1, m2⟩, by omega⟩
  rcases List.mem_append.1 hy with hy | hy
  · exact e2 y hy
  · rw [List.mem_singleton] at hy
    subst hy
    exact ⟨f0, f1, k0, k1⟩
end Go.Proofs.YtppgpdigopffbaaGreat
namespace Go.Proofs.YtppgpdigopffbaaGreat
open Go.Vc Go.Gw
def an_topology_roots : An := { join := [(22, ⟨[0, 3, 4, 6, 7, 18, 19, 53, 54, 55], [], [(2, false, [.own (.int .i64) 3])], [], [(0, .row (.pair (.int .i64) (.int .i64)) 30), (1, .row .bool 4)]⟩), (23, ⟨[0, 3, 4, 18, 19], [], [(2, false, [.own (.int .i64) 3])], [], [(0, .row (.pair (.int .i64) (.int .i64)) 30), (1, .row .bool 4)]⟩)], loop := [(15, ⟨[0, 3, 4, 6, 7, 18, 19, 53, 54], [], [(2, false, [.own (.int .i64) 3]), (55, false, [.val (.int .i64)])], [], [(0, .row (.pair (.int .i64) (.int .i64)) 30), (1, .row .bool 4)]⟩), (11, ⟨[0, 3, 4, 18, 19], [], [(2, false, [.own (.int .i64) 3]), (6, false, [.val (.int .i64)])], [], [(0, .row (.pair (.int .i64) (.int .i64)) 30), (1, .row .bool 4)]⟩), (4, ⟨[0, 3, 4, 18], [], [(2, false, [.own (.int .i64) 3]), (19, false, [.val (.int .i64)])], [], [(0, .row (.pair (.int .i64) (.int .i64)) 30), (1, .row .bool 4)]⟩)] }
def sp_topology_roots : Specs := []
def vc_topology_roots : dens s_topology_roots.args → Prop := fun (x : List (List (Int × Int)) × Unit) => ((0 : Int) ≤ (↑(List.length x.fst) : Int) ∧ (↑(List.length x.fst) : Int) ≤ (↑(List.length x.fst) : Int) ∧ (↑(16 : Nat) : Int) * (↑(List.length x.fst) : Int) ≤ (281474976710656 : Int) ∧ (↑(List.length x.fst) : Int) ≤ (9223372036854775807 : Int)) ∧ ((0 : Int) ≤ (↑(List.length x.fst) : Int) ∧ (↑(List.length x.fst) : Int) ≤ (↑(List.length x.fst) : Int) ∧ (↑(1 : Nat) : Int) * (↑(List.length x.fst) : Int) ≤ (281474976710656 : Int) ∧ (↑(List.length x.fst) : Int) ≤ (9223372036854775807 : Int)) ∧ ∃ (I : List Int × Int × List (Int × Int) × List Bool × Unit → Prop), ∃ (μ : List Int × Int × List (Int × Int) × List Bool × Unit → Nat), I ([], (0 : Int), List.replicate (↑(List.length x.fst) : Int).toNat ((0 : Int), (0 : Int)), List.replicate (↑(List.length x.fst) : Int).toNat false, ()) ∧ ∀ (p : List Int × Int × List (Int × Int) × List Bool × Unit), WfI p.fst ∧ In64 p.snd.fst ∧ (List.length p.snd.snd.fst ≤ 9223372036854775807 ∧ ∀ (x : Int × Int), x ∈ p.snd.snd.fst → In64 x.fst ∧ In64 x.snd) ∧ (List.length p.snd.snd.snd.fst ≤ 9223372036854775807 ∧ ∀ (x : Bool), x ∈ p.snd.snd.snd.fst → True) ∧ True → I p → (decide (p.snd.fst < (↑(List.length x.fst) : Int)) = true → ∃ (J : List Int × List (Int × Int) × List Bool × Unit → Prop), (((0 : Int) ≤ p.snd.fst ∧ p.snd.fst < (↑(List.length p.snd.snd.snd.fst) : Int)) ∧ (List.getD p.snd.snd.snd.fst (Int.toNat p.snd.fst) false = true → J (p.fst, p.snd.snd.fst, p.snd.snd.snd.fst, ())) ∧ (List.getD p.snd.snd.snd.fst (Int.toNat p.snd.fst) false = false → ((0 : Int) ≤ p.snd.fst ∧ p.snd.fst < (↑(List.length p.snd.snd.snd.fst) : Int)) ∧ ((0 : Int) ≤ p.snd.fst ∧ p.snd.fst < (↑(List.length p.snd.snd.fst) : Int)) ∧ ((List.length p.fst + [p.snd.fst].length) * (8 : Nat) ≤ (140737488355328 : Nat) ∧ List.length p.fst + [p.snd.fst].length ≤ 9223372036854775807) ∧ ∃ (I : List Int × Int × List (Int × Int) × List Bool × Unit → Prop), ∃ (μ : List Int × Int × List (Int × Int) × List Bool × Unit → Nat), I (p.fst ++ [p.snd.fst], (↑(List.length p.fst) : Int), List.set p.snd.snd.fst (Int.toNat p.snd.fst) ((-1 : Int), p.snd.fst), List.set p.snd.snd.snd.fst (Int.toNat p.snd.fst) true, ()) ∧ ∀ (p : List Int × Int × List (Int × Int) × List Bool × Unit), WfI p.fst ∧ In64 p.snd.fst ∧ (List.length p.snd.snd.fst ≤ 9223372036854775807 ∧ ∀ (x : Int × Int), x ∈ p.snd.snd.fst → In64 x.fst ∧ In64 x.snd) ∧ (List.length p.snd.snd.snd.fst ≤ 9223372036854775807 ∧ ∀ (x : Bool), x ∈ p.snd.snd.snd.fst → True) ∧ True → I p → (decide (p.snd.fst < (↑(List.length p.fst) : Int)) = true → ((0 : Int) ≤ p.snd.fst ∧ p.snd.fst < (↑(List.length p.fst) : Int)) ∧ ((0 : Int) ≤ List.getD p.fst (Int.toNat p.snd.fst) (0 : Int) ∧ List.getD p.fst (Int.toNat p.snd.fst) (0 : Int) < (↑(List.length x.fst) : Int)) ∧ ∃ (I_1 : List Int × Int × List (Int × Int) × List Bool × Unit → Prop), ∃ (μ_1 : List Int × Int × List (Int × Int) × List Bool × Unit → Nat), I_1 (p.fst, (0 : Int), p.snd.snd.fst, p.snd.snd.snd.fst, ()) ∧ ∀ (p_1 : List Int × Int × List (Int × Int) × List Bool × Unit), WfI p_1.fst ∧ In64 p_1.snd.fst ∧ (List.length p_1.snd.snd.fst ≤ 9223372036854775807 ∧ ∀ (x : Int × Int), x ∈ p_1.snd.snd.fst → In64 x.fst ∧ In64 x.snd) ∧ (List.length p_1.snd.snd.snd.fst ≤ 9223372036854775807 ∧ ∀ (x : Bool), x ∈ p_1.snd.snd.snd.fst → True) ∧ True → I_1 p_1 → (decide (p_1.snd.fst < (↑(gx [] x.fst (List.getD p.fst (Int.toNat p.snd.fst) (0 : Int))).length : Int)) = true → ∃ (J : List Int × List (Int × Int) × List Bool × Unit → Prop), (((0 : Int) ≤ p_1.snd.fst ∧ p_1.snd.fst < (↑(gx [] x.fst (List.getD p.fst (Int.toNat p.snd.fst) (0 : Int))).length : Int)) ∧ ((0 : Int) ≤ (1 : Int) ∧ (1 : Int) < (↑(2 : Nat) : Int)) ∧ ((0 : Int) ≤ (gx ((0 : Int), (0 : Int)) (gx [] x.fst (List.getD p.fst (Int.toNat p.snd.fst) (0 : Int))) p_1.snd.fst).snd ∧ (gx ((0 : Int), (0 : Int)) (gx [] x.fst (List.getD p.fst (Int.toNat p.snd.fst) (0 : Int))) p_1.snd.fst).snd < (↑(List.length p_1.snd.snd.snd.fst) : Int)) ∧ ((!List.getD p_1.snd.snd.snd.fst (Int.toNat (gx ((0 : Int), (0 : Int)) (gx [] x.fst (List.getD p.fst (Int.toNat p.snd.fst) (0 : Int))) p_1.snd.fst).snd) false) = true → ((0 : Int) ≤ (gx ((0 : Int), (0 : Int)) (gx [] x.fst (List.getD p.fst (Int.toNat p.snd.fst) (0 : Int))) p_1.snd.fst).snd ∧ (gx ((0 : Int), (0 : Int)) (gx [] x.fst (List.getD p.fst (Int.toNat p.snd.fst) (0 : Int))) p_1.snd.fst).snd < (↑(List.length p_1.snd.snd.snd.fst) : Int)) ∧ ((0 : Int) ≤ (0 : Int) ∧ (0 : Int) < (↑(2 : Nat) : Int)) ∧ ((0 : Int) ≤ (gx ((0 : Int), (0 : Int)) (gx [] x.fst (List.getD p.fst (Int.toNat p.snd.fst) (0 : Int))) p_1.snd.fst).snd ∧ (gx ((0 : Int), (0 : Int)) (gx [] x.fst (List.getD p.fst (Int.toNat p.snd.fst) (0 : Int))) p_1.snd.fst).snd < (↑(List.length p_1.snd.snd.fst) : Int)) ∧ ((List.length p_1.fst + [(gx ((0 : Int), (0 : Int)) (gx [] x.fst (List.getD p.fst (Int.toNat p.snd.fst) (0 : Int))) p_1.snd.fst).snd].length) * (8 : Nat) ≤ (140737488355328 : Nat) ∧ List.length p_1.fst + [(gx ((0 : Int), (0 : Int)) (gx [] x.fst (List.getD p.fst (Int.toNat p.snd.fst) (0 : Int))) p_1.snd.fst).snd].length ≤ 9223372036854775807) ∧ J (p_1.fst ++ [(gx ((0 : Int), (0 : Int)) (gx [] x.fst (List.getD p.fst (Int.toNat p.snd.fst) (0 : Int))) p_1.snd.fst).snd], List.set p_1.snd.snd.fst (Int.toNat (gx ((0 : Int), (0 : Int)) (gx [] x.fst (List.getD p.fst (Int.toNat p.snd.fst) (0 : Int))) p_1.snd.fst).snd) ((gx ((0 : Int), (0 : Int)) (gx [] x.fst (List.getD p.fst (Int.toNat p.snd.fst) (0 : Int))) p_1.snd.fst).fst, List.getD p.fst (Int.toNat p.snd.fst) (0 : Int)), List.set p_1.snd.snd.snd.fst (Int.toNat (gx ((0 : Int), (0 : Int)) (gx [] x.fst (List.getD p.fst (Int.toNat p.snd.fst) (0 : Int))) p_1.snd.fst).snd) true, ())) ∧ ((!List.getD p_1.snd.snd.snd.fst (Int.toNat (gx ((0 : Int), (0 : Int)) (gx [] x.fst (List.getD p.fst (Int.toNat p.snd.fst) (0 : Int))) p_1.snd.fst).snd) false) = false → J (p_1.fst, p_1.snd.snd.fst, p_1.snd.snd.snd.fst, ()))) ∧ ∀ (p : List Int × List (Int × Int) × List Bool × Unit), WfI p.fst ∧ (List.length p.snd.fst ≤ 9223372036854775807 ∧ ∀ (x : Int × Int), x ∈ p.snd.fst → In64 x.fst ∧ In64 x.snd) ∧ (List.length p.snd.snd.fst ≤ 9223372036854775807 ∧ ∀ (x : Bool), x ∈ p.snd.snd.fst → True) ∧ True → J p → I_1 (p.fst, IntKind.i64.wrap (p_1.snd.fst + (1 : Int)), p.snd.fst, p.snd.snd.fst, ()) ∧ μ_1 (p.fst, IntKind.i64.wrap (p_1.snd.fst + (1 : Int)), p.snd.fst, p.snd.snd.fst, ()) < μ_1 p_1) ∧ (decide (p_1.snd.fst < (↑(gx [] x.fst (List.getD p.fst (Int.toNat p.snd.fst) (0 : Int))).length : Int)) = false → I (p_1.fst, IntKind.i64.wrap (p.snd.fst + (1 : Int)), p_1.snd.snd.fst, p_1.snd.snd.snd.fst, ()) ∧ μ (p_1.fst, IntKind.i64.wrap (p.snd.fst + (1 : Int)), p_1.snd.snd.fst, p_1.snd.snd.snd.fst, ()) < μ p)) ∧ (decide (p.snd.fst < (↑(List.length p.fst) : Int)) = false → J (p.fst, p.snd.snd.fst, p.snd.snd.snd.fst, ())))) ∧ ∀ (p_1 : List Int × List (Int × Int) × List Bool × Unit), WfI p_1.fst ∧ (List.length p_1.snd.fst ≤ 9223372036854775807 ∧ ∀ (x : Int × Int), x ∈ p_1.snd.fst → In64 x.fst ∧ In64 x.snd) ∧ (List.length p_1.snd.snd.fst ≤ 9223372036854775807 ∧ ∀ (x : Bool), x ∈ p_1.snd.snd.fst → True) ∧ True → J p_1 → I (p_1.fst, IntKind.i64.wrap (p.snd.fst + (1 : Int)), p_1.snd.fst, p_1.snd.snd.fst, ()) ∧ μ (p_1.fst, IntKind.i64.wrap (p.snd.fst + (1 : Int)), p_1.snd.fst, p_1.snd.snd.fst, ()) < μ p) ∧ (decide (p.snd.fst < (↑(List.length x.fst) : Int)) = false → ∀ (n : Int) (ls : List Ln), netOk n ls → x.fst = nextT n ls → rootsP n ls p.fst p.snd.snd.fst)
theorem vc_topology_roots_eq (x : dens s_topology_roots.args) : semF ⟨Tryz.prog, tys⟩ sp_topology_roots an_topology_roots s_topology_roots Tryz.f36.results.toList (Tryz.f36.body.getD .skip) x = vc_topology_roots x := by kernel_rfl
theorem m_topology_roots (hsp : SpOk Tryz.prog sp_topology_roots) (h : ∀ x, awf s_topology_roots.args x → s_topology_roots.pre x → vc_topology_roots x) : Meets Tryz.prog 36 s_topology_roots := meets_vc (cx := ⟨Tryz.prog, tys⟩) (sp := sp_topology_roots) (an := an_topology_roots) (s := s_topology_roots) (fn := Tryz.f36) (c := Tryz.f36.body.getD .skip) Tryz.func36 (by kernel_rfl) (Nat.le_of_ble_eq_true (by kernel_rfl)) (by kernel_rfl) tys_ok hsp vc_topology_roots_eq h
end Go.Proofs.YtppgpdigopffbaaGreat
namespace Go.Proofs.YtppgpdigopffbaaGreat
open Go.Vc Go.Gw
theorem lst_get {l : List Int} {i : Int} (h0 : 0 ≤ i) (h1 : i < (l.length : Int)) : l[i.toNat]? = some (l.getD i.toNat 0) := lat_get h0 h1
theorem vc_topology_roots_ok (x : dens s_topology_roots.args) (hw : awf s_topology_roots.args x) (hp : s_topology_roots.pre x) : vc_topology_roots x := by
  obtain ⟨N, _⟩ := x
  change List (List (Int × Int)) at N
  obtain ⟨n0, ls0, hok0, hN0⟩ : ∃ n ls, netOk n ls ∧ N = nextT n ls := hp
  have hNl : N.length = n0.toNat := by rw [hN0, next_len hok0]
  have hn0 := hok0.1
  have hn1 := hok0.2.1
  have same : ∀ n ls, netOk n ls → N = nextT n ls → n = n0 := fun n ls hok e => by
    have := next_len hok
    rw [← e, hNl] at this
    have := hok.1
    omega
  simp only [vc_topology_roots]
  refine ⟨⟨by omega, by omega, by omega, by omega⟩, ⟨by omega, by omega, by omega, by omega⟩, fun p => 0 ≤ p.2.1 ∧ p.2.1 ≤ n0 ∧ (∀ b, 0 ≤ b → b < p.2.1 → b ∈ p.1) ∧ ∀ n ls, netOk n ls → N = nextT n ls → Bfs n ls p.1 p.2.2.1 p.2.2.2.1 ∧ Shut N p.1 p.1.length, fun p => (n0 - p.2.1).toNat, ⟨Int.le_refl _, by omega, fun b hb hb' => (by have hb' : b < 0 := hb'; omega), fun n ls hok e => ⟨⟨?_, ?_, by simp, fun b b0 b1 => ?_, fun k b hk => by simp at hk⟩, fun j b hj => by simp at hj⟩⟩, ?_⟩
  · have := same n ls hok e; simp; omega
  · have := same n ls hok e; simp; omega
  · simp only [List.getD_eq_getElem?_getD, List.getElem?_replicate]
    split <;> simp
  rintro ⟨order, rt, up, seen, _⟩ _ ⟨h0, h1, h2, h3⟩
  change Int at rt
  change List Int at order
  change List (Int × Int) at up
  change List Bool at seen
  simp only at h0 h1 h2 h3 ⊢
  obtain ⟨B0, S0⟩ := h3 n0 ls0 hok0 hN0
  have hsl := B0.slen
  have hul := B0.ulen
  refine ⟨fun hi => ?_, fun hi => ?_⟩
  · have hi := of_decide_eq_true hi
    refine ⟨fun p => (∀ b, 0 ≤ b → b < rt + 1 → b ∈ p.1) ∧ ∀ n ls, netOk n ls → N = nextT n ls → Bfs n ls p.1 p.2.1 p.2.2.1 ∧ Shut N p.1 p.1.length, ⟨⟨h0, by omega⟩, fun ht => ⟨?_, h3⟩, fun hf => ⟨⟨h0, by omega⟩, ⟨h0, by omega⟩, ?_, ?_⟩⟩, ?_⟩
    · intro b b0 b1
      by_cases e : b = rt
      · subst e; exact (B0.mem b b0 (by omega)).1 ht
      · exact h2 b b0 (by omega)
    · have := B0.len
      simp only [List.length_singleton]
      constructor <;> omega
    · have hnr : rt ∉ order := fun hm => by
        have := (B0.mem rt h0 (by omega)).2 hm
        rw [this] at hf; cases hf
      refine ⟨fun p => 0 ≤ p.2.1 ∧ p.2.1 ≤ (p.1.length : Int) ∧ (∀ b, 0 ≤ b → b < rt + 1 → b ∈ p.1) ∧ ∀ n ls, netOk n ls → N = nextT n ls → Bfs n ls p.1 p.2.2.1 p.2.2.2.1 ∧ Shut N p.1 p.2.1.toNat, fun p => (n0 - p.2.1).toNat, ⟨Int.natCast_nonneg _, by simp; omega, fun b b0 b1 => ?_, fun n ls hok e => ⟨?_, ?_⟩⟩, ?_⟩
      · simp only [List.mem_append, List.mem_singleton]
        by_cases e : b = rt
        · exact .inr e
        · exact .inl (h2 b b0 (by have b1 : b < rt + 1 := b1; omega))
      · have hnn := same n ls hok e
        subst hnn
        obtain ⟨B, S⟩ := h3 n ls hok e
        refine B.add h0 (by omega) hnr (.inl ⟨rfl, root_least hok (by rw [← e]; exact S) h0 (by omega) hnr h2⟩)
      · obtain ⟨B, S⟩ := h3 n ls hok e
        exact S.grow (Nat.le_refl _) rt
      rintro ⟨ord1, dn, up1, seen1, _⟩ _ ⟨g0, g1, g2, g3⟩
      change Int at dn
      change List Int at ord1
      change List (Int × Int) at up1
      change List Bool at seen1
      simp only at g0 g1 g2 g3 ⊢
      obtain ⟨B1, S1⟩ := g3 n0 ls0 hok0 hN0
      refine ⟨fun hd => ?_, fun hd => ⟨g2, fun n ls hok e => ?_⟩⟩
      · have hd := of_decide_eq_true hd
        have hget := lst_get g0 hd
        generalize hbv : ord1.getD dn.toNat 0 = b at hget ⊢
        have b0 := (B1.at' dn.toNat b hget).1
        have b1 := (B1.at' dn.toNat b hget).2.1
        have hrow : gx [] N b = (nextT n0 ls0).getD b.toNat [] := by rw [gx_getD b0 (by omega), hN0]
        have hrl := next_row hok0 (b := b)
        rw [← hrow] at hrl
        have hrw : ∀ n ls, netOk n ls → N = nextT n ls → gx [] N b = (nextT n ls).getD b.toNat [] := fun n ls hok e => by rw [gx_getD b0 (by omega), e]
        generalize gx [] N b = row at hrow hrl hrw ⊢
        refine ⟨⟨g0, hd⟩, ⟨b0, by omega⟩, fun p => 0 ≤ p.2.1 ∧ p.2.1 ≤ (row.length : Int) ∧ p.1[dn.toNat]? = some b ∧ (∀ c, 0 ≤ c → c < rt + 1 → c ∈ p.1) ∧ (∀ w ∈ row.take p.2.1.toNat, w.2 ∈ p.1) ∧ ∀ n ls, netOk n ls → N = nextT n ls → Bfs n ls p.1 p.2.2.1 p.2.2.2.1 ∧ Shut N p.1 dn.toNat, fun p => ((row.length : Int) - p.2.1).toNat, ⟨Int.le_refl _, Int.natCast_nonneg _, hget, g2, by simp, g3⟩, ?_⟩
        rintro ⟨ord2, i, up2, seen2, _⟩ _ ⟨k0, k1, k2, k3, k4, k5⟩
        change Int at i
        change List Int at ord2
        change List (Int × Int) at up2
        change List Bool at seen2
        simp only at k0 k1 k2 k3 k4 k5 ⊢
        obtain ⟨B2, S2⟩ := k5 n0 ls0 hok0 hN0
        have hsl2 := B2.slen
        have hul2 := B2.ulen
        have hdl : dn.toNat < ord2.length := (List.getElem?_eq_some_iff.1 k2).1
        refine ⟨fun hi2 => ?_, fun hi2 => ?_⟩
        · have hi2 := of_decide_eq_true hi2
          have hmem := gx_mem (d := ((0 : Int), (0 : Int))) k0 hi2
          have hbs : ∀ (q : Ln → Prop), (∀ x ∈ row.take i.toNat, q x) → q (gx ((0 : Int), (0 : Int)) row i) → ∀ x ∈ row.take (i + 1).toNat, q x := fun q h1 h2 => before_step k0 hi2 h1 h2
          generalize gx ((0 : Int), (0 : Int)) row i = w at hmem hbs ⊢
          obtain ⟨e, v⟩ := w
          have hmem0 := hmem
          rw [hrow, next_mem hok0 b0 b1] at hmem0
          obtain ⟨v0, v1, _, _⟩ := joins_in hok0 hmem0.1 hmem0.2
          simp only at v0 v1 ⊢
          refine ⟨fun p => p.1[dn.toNat]? = some b ∧ (∀ c, 0 ≤ c → c < rt + 1 → c ∈ p.1) ∧ (∀ w ∈ row.take (i + 1).toNat, w.2 ∈ p.1) ∧ ∀ n ls, netOk n ls → N = nextT n ls → Bfs n ls p.1 p.2.1 p.2.2.1 ∧ Shut N p.1 dn.toNat, ⟨⟨k0, hi2⟩, ⟨by omega, by omega⟩, ⟨v0, by omega⟩, fun hs => ⟨⟨v0, by omega⟩, ⟨by omega, by omega⟩, ⟨v0, by omega⟩, ?_, ?_⟩, fun hs => ⟨k2, k3, ?_, k5⟩⟩, ?_⟩
          · have := B2.len
            simp only [List.length_singleton]
            constructor <;> omega
          · have hs : seen2.getD v.toNat false = false := by simpa using hs
            have hnv : v ∉ ord2 := fun hm => by
              rw [(B2.mem v v0 v1).2 hm] at hs; cases hs
            refine ⟨?_, fun c c0 c1 => List.mem_append.2 (.inl (k3 c c0 c1)), hbs (fun w => w.2 ∈ ord2 ++ [v]) (fun w hw => List.mem_append.2 (.inl (k4 w hw))) (by simp), fun n ls hok e' => ?_⟩
            · rw [List.getElem?_append_left hdl]; exact k2
            · obtain ⟨B, S⟩ := k5 n ls hok e'
              have hnn := same n ls hok e'
              have hm2 := hmem
              rw [hrw n ls hok e', next_mem hok b0 (by omega)] at hm2
              exact ⟨B.add v0 (by omega) hnv (.inr ⟨hm2.1, joins_symm hm2.2, List.mem_of_getElem? k2⟩), S.grow (Nat.le_of_lt hdl) v⟩
          · have hs : seen2.getD v.toNat false = true := by simpa using hs
            exact hbs (fun w => w.2 ∈ ord2) k4 ((B2.mem v v0 v1).1 hs)
          · rintro ⟨ord3, up3, seen3, _⟩ _ ⟨m0, m1, m2, m3⟩
            simp only at m0 m1 m2 m3 ⊢
            rw [wr (by omega) (by omega)]
            exact ⟨⟨by omega, by omega, m0, m1, m2, m3⟩, by omega⟩
        · have hi2 := of_decide_eq_false hi2
          rw [take_all (by omega)] at k4
          have hl2 := B2.len
          rw [wr (by omega) (by omega)]
          refine ⟨⟨by omega, by omega, k3, fun n ls hok e => ⟨(k5 n ls hok e).1, fun j c hj hc w hw => ?_⟩⟩, by omega⟩
          by_cases hjd : j < dn.toNat
          · exact (k5 n ls hok e).2 j c hjd hc w hw
          · have : j = dn.toNat := by omega
            subst this
            rw [k2] at hc
            cases hc
            rw [e, ← hrw n ls hok e] at hw
            exact k4 w hw
      · have hd := of_decide_eq_false hd
        obtain ⟨B, S⟩ := g3 n ls hok e
        exact ⟨B, by rw [show dn.toNat = ord1.length from by omega] at S; exact S⟩
    · rintro ⟨ord3, up3, seen3, _⟩ _ ⟨m0, m1⟩
      simp only at m0 m1 ⊢
      rw [wr (by omega) (by omega)]
      exact ⟨⟨by omega, by omega, m0, m1⟩, by omega⟩
  · have hi := of_decide_eq_false hi
    intro n ls hok e
    have hnn := same n ls hok e
    exact (h3 n ls hok e).1.done fun b b0 b1 => h2 b b0 (by omega)
end Go.Proofs.YtppgpdigopffbaaGreat
