/- Parts: Tn, TPQ, OkC, TPR, OkL. -/
import Derived.Test.YtppgpdigopffbaaGreatK9F
namespace Go.Proofs.YtppgpdigopffbaaGreat
open Go.Vc Go.Gw
def an_law19_awake : An := {}
def sp_law19_awake : Specs := [(8, s_topology_Forest), (9, s_topology_Islands), (11, s_topology_Bridges), (12, s_help_Equal_int), (13, s_topology_Loop), (18, s_r03_FromInt), (35, s_r06_Identical)]
def an_law19_TopologyLoops : An := { join := [(27, ⟨[3, 4, 5, 7, 9, 10, 13, 86, 87, 88], [], [], [], [(0, .row .bool 4), (1, .row (.pair (.pair .bool (.sl (.int .u32))) (.sl (.int .u32))) 44)]⟩), (9, ⟨[3, 4, 5, 7, 9, 10], [], [], [], [(0, .row .bool 4)]⟩)], loop := [(18, ⟨[3, 4, 5, 7, 9, 10, 13, 86, 87], [], [(88, false, [.val (.int .i64)])], [], [(0, .row .bool 4), (1, .row (.pair (.pair .bool (.sl (.int .u32))) (.sl (.int .u32))) 44)]⟩), (29, ⟨[3, 4, 5, 7, 9, 10, 13], [0, 1], [(17, false, [.val (.int .i64)])], [], []⟩), (8, ⟨[3, 4, 5, 7, 9], [], [(10, false, [.val (.int .i64)])], [], [(0, .row .bool 4)]⟩), (34, ⟨[4, 7, 9], [0], [(18, false, [.val (.int .i64)])], [], []⟩)], plan := [(24, [2, 8, 10, 12, 16, 18, 20], [23, 25], false, (.p 0 (.p 1 (.q 2 (.p 3 (.p 4 (.p 6 (.p 7 (.q 8 (.p 9 (.q 10 (.p 11 (.q 12 (.p 14 (.p 15 (.q 16 (.p 17 (.q 18 (.p 19 (.q 20 (.or 5 (.e 13 (.e 21 (.p 22 (.e 23 (.p 24 (.e 25 .done)))))) (.e 13 (.or 5 (.e 21 (.p 22 (.e 23 (.p 24 (.e 25 .done))))) (.e 21 (.p 22 (.or 5 (.e 23 (.p 24 (.e 25 .done))) (.e 23 (.e 5 (.p 24 (.e 25 .done)))))))))))))))))))))))))))))), (26, [2], [5], true, (.p 0 (.p 1 (.q 2 (.e 3 (.p 4 (.e 5 .done))))))), (36, [6], [], true, (.p 0 (.p 1 (.p 3 (.p 4 (.p 5 (.q 6 (.e 2 (.p 7 .done)))))))))] }
def sp_law19_TopologyLoops : Specs := [(7, s_law19_network), (8, s_topology_Forest), (10, s_law19_awake), (11, s_topology_Bridges), (13, s_topology_Loop), (14, s_law19_has), (15, s_r06_Valid), (16, s_r03_Equal), (17, s_r06_Get), (18, s_r03_FromInt), (19, s_r03_Add), (20, s_r03_Sub), (21, s_r03_Zero), (22, s_r03_Sign)]
def vc_law19_awake : dens s_law19_awake.args → Prop := fun (x : Unit) => True ∧ ∀ (r : List Int × Int × Unit), WfI r.fst ∧ In64 r.snd.fst ∧ True → (r.fst = if netE (3 : Int) [((0 : Int), (1 : Int)), ((1 : Int), (2 : Int)), ((0 : Int), (2 : Int))] = (0 : Int) then labs (3 : Int) [((0 : Int), (1 : Int)), ((1 : Int), (2 : Int)), ((0 : Int), (2 : Int))] else []) ∧ r.snd.fst = netE (3 : Int) [((0 : Int), (1 : Int)), ((1 : Int), (2 : Int)), ((0 : Int), (2 : Int))] → True ∧ ∀ (r_1 : List Int × Int × Unit), WfI r_1.fst ∧ In64 r_1.snd.fst ∧ True → (r_1.fst = if netE (3 : Int) [((0 : Int), (1 : Int)), ((1 : Int), (2 : Int)), ((0 : Int), (2 : Int))] = (0 : Int) then forestF (3 : Int) [((0 : Int), (1 : Int)), ((1 : Int), (2 : Int)), ((0 : Int), (2 : Int))] else []) ∧ r_1.snd.fst = netE (3 : Int) [((0 : Int), (1 : Int)), ((1 : Int), (2 : Int)), ((0 : Int), (2 : Int))] → ((0 : Int) ≤ (0 : Int) ∧ (0 : Int) ≤ (2 : Int) ∧ (2 : Int) ≤ (↑[((0 : Int), (1 : Int)), ((1 : Int), (2 : Int)), ((0 : Int), (2 : Int))].length : Int)) ∧ (List.drop (Int.toNat (0 : Int)) (List.take (Int.toNat (2 : Int)) [((0 : Int), (1 : Int)), ((1 : Int), (2 : Int)), ((0 : Int), (2 : Int))])).length ≤ (100000 : Nat) ∧ ∀ (r_2 : List Int × Int × Unit), WfI r_2.fst ∧ In64 r_2.snd.fst ∧ True → (netE (3 : Int) (List.drop (Int.toNat (0 : Int)) (List.take (Int.toNat (2 : Int)) [((0 : Int), (1 : Int)), ((1 : Int), (2 : Int)), ((0 : Int), (2 : Int))])) ≠ (0 : Int) → r_2.fst = [] ∧ r_2.snd.fst = netE (3 : Int) (List.drop (Int.toNat (0 : Int)) (List.take (Int.toNat (2 : Int)) [((0 : Int), (1 : Int)), ((1 : Int), (2 : Int)), ((0 : Int), (2 : Int))]))) ∧ (netE (3 : Int) (List.drop (Int.toNat (0 : Int)) (List.take (Int.toNat (2 : Int)) [((0 : Int), (1 : Int)), ((1 : Int), (2 : Int)), ((0 : Int), (2 : Int))])) = (0 : Int) → r_2.fst = bridgesF (3 : Int) (List.drop (Int.toNat (0 : Int)) (List.take (Int.toNat (2 : Int)) [((0 : Int), (1 : Int)), ((1 : Int), (2 : Int)), ((0 : Int), (2 : Int))])) ∧ r_2.snd.fst = (0 : Int)) → [((0 : Int), (1 : Int)), ((1 : Int), (2 : Int)), ((0 : Int), (2 : Int))].length ≤ (20 : Nat) ∧ ∀ (r_3 : List EE × Int × Unit), WfEs r_3.fst ∧ In64 r_3.snd.fst ∧ True → (netE (3 : Int) [((0 : Int), (1 : Int)), ((1 : Int), (2 : Int)), ((0 : Int), (2 : Int))] ≠ (0 : Int) → r_3.fst = [] ∧ r_3.snd.fst = netE (3 : Int) [((0 : Int), (1 : Int)), ((1 : Int), (2 : Int)), ((0 : Int), (2 : Int))]) ∧ (netE (3 : Int) [((0 : Int), (1 : Int)), ((1 : Int), (2 : Int)), ((0 : Int), (2 : Int))] = (0 : Int) → r_3.fst = loopP (3 : Int) [((0 : Int), (1 : Int)), ((1 : Int), (2 : Int)), ((0 : Int), (2 : Int))] (2 : Int) ∧ r_3.snd.fst = loopE (3 : Int) [((0 : Int), (1 : Int)), ((1 : Int), (2 : Int)), ((0 : Int), (2 : Int))] (2 : Int)) → (sel (sel (sel (decide (r.snd.fst = (0 : Int))) (decide (r_1.snd.fst = (0 : Int))) false) (decide (r_2.snd.fst = (0 : Int))) false) (decide (r_3.snd.fst = (0 : Int))) false = true → True) ∧ ∀ (r_4 : Bool × Unit), (sel (sel (sel (decide (r.snd.fst = (0 : Int))) (decide (r_1.snd.fst = (0 : Int))) false) (decide (r_2.snd.fst = (0 : Int))) false) (decide (r_3.snd.fst = (0 : Int))) false = true → (True ∧ True) ∧ r_4.fst = decide (r.fst = [(0 : Int), (0 : Int), (0 : Int)])) → (sel (sel (sel (sel (decide (r.snd.fst = (0 : Int))) (decide (r_1.snd.fst = (0 : Int))) false) (decide (r_2.snd.fst = (0 : Int))) false) (decide (r_3.snd.fst = (0 : Int))) false) r_4.fst false = true → True) ∧ ∀ (r_5 : Bool × Unit), (sel (sel (sel (sel (decide (r.snd.fst = (0 : Int))) (decide (r_1.snd.fst = (0 : Int))) false) (decide (r_2.snd.fst = (0 : Int))) false) (decide (r_3.snd.fst = (0 : Int))) false) r_4.fst false = true → (True ∧ True) ∧ r_5.fst = decide (r_1.fst = [(0 : Int), (1 : Int)])) → (sel (sel (sel (sel (sel (decide (r.snd.fst = (0 : Int))) (decide (r_1.snd.fst = (0 : Int))) false) (decide (r_2.snd.fst = (0 : Int))) false) (decide (r_3.snd.fst = (0 : Int))) false) r_4.fst false) r_5.fst false = true → True) ∧ ∀ (r_6 : Bool × Unit), (sel (sel (sel (sel (sel (decide (r.snd.fst = (0 : Int))) (decide (r_1.snd.fst = (0 : Int))) false) (decide (r_2.snd.fst = (0 : Int))) false) (decide (r_3.snd.fst = (0 : Int))) false) r_4.fst false) r_5.fst false = true → (True ∧ True) ∧ r_6.fst = decide (r_2.fst = [(0 : Int), (1 : Int)])) → (sel (sel (sel (sel (sel (sel (decide (r.snd.fst = (0 : Int))) (decide (r_1.snd.fst = (0 : Int))) false) (decide (r_2.snd.fst = (0 : Int))) false) (decide (r_3.snd.fst = (0 : Int))) false) r_4.fst false) r_5.fst false) r_6.fst false = true → True) ∧ ∀ (r_7 : QQ × Unit), (sel (sel (sel (sel (sel (sel (decide (r.snd.fst = (0 : Int))) (decide (r_1.snd.fst = (0 : Int))) false) (decide (r_2.snd.fst = (0 : Int))) false) (decide (r_3.snd.fst = (0 : Int))) false) r_4.fst false) r_5.fst false) r_6.fst false = true → (WfQ r_7.fst ∧ True) ∧ r_7.fst = ri (-1 : Int)) → (sel (sel (sel (sel (sel (sel (decide (r.snd.fst = (0 : Int))) (decide (r_1.snd.fst = (0 : Int))) false) (decide (r_2.snd.fst = (0 : Int))) false) (decide (r_3.snd.fst = (0 : Int))) false) r_4.fst false) r_5.fst false) r_6.fst false = true → True) ∧ ∀ (r_8 : QQ × Unit), (sel (sel (sel (sel (sel (sel (decide (r.snd.fst = (0 : Int))) (decide (r_1.snd.fst = (0 : Int))) false) (decide (r_2.snd.fst = (0 : Int))) false) (decide (r_3.snd.fst = (0 : Int))) false) r_4.fst false) r_5.fst false) r_6.fst false = true → (WfQ r_8.fst ∧ True) ∧ r_8.fst = ri (-1 : Int)) → (sel (sel (sel (sel (sel (sel (decide (r.snd.fst = (0 : Int))) (decide (r_1.snd.fst = (0 : Int))) false) (decide (r_2.snd.fst = (0 : Int))) false) (decide (r_3.snd.fst = (0 : Int))) false) r_4.fst false) r_5.fst false) r_6.fst false = true → True) ∧ ∀ (r_9 : QQ × Unit), (sel (sel (sel (sel (sel (sel (decide (r.snd.fst = (0 : Int))) (decide (r_1.snd.fst = (0 : Int))) false) (decide (r_2.snd.fst = (0 : Int))) false) (decide (r_3.snd.fst = (0 : Int))) false) r_4.fst false) r_5.fst false) r_6.fst false = true → (WfQ r_9.fst ∧ True) ∧ r_9.fst = ri (1 : Int)) → (sel (sel (sel (sel (sel (sel (decide (r.snd.fst = (0 : Int))) (decide (r_1.snd.fst = (0 : Int))) false) (decide (r_2.snd.fst = (0 : Int))) false) (decide (r_3.snd.fst = (0 : Int))) false) r_4.fst false) r_5.fst false) r_6.fst false = true → ∀ (e : Int × (Bool × List Int) × List Int), e ∈ r_3.fst → whole e.snd) ∧ ∀ (r_10 : Bool × Unit), (sel (sel (sel (sel (sel (sel (decide (r.snd.fst = (0 : Int))) (decide (r_1.snd.fst = (0 : Int))) false) (decide (r_2.snd.fst = (0 : Int))) false) (decide (r_3.snd.fst = (0 : Int))) false) r_4.fst false) r_5.fst false) r_6.fst false = true → (True ∧ True) ∧ r_10.fst = decide (r_3.fst = [((0 : Int), r_7.fst), ((1 : Int), r_8.fst), ((2 : Int), r_9.fst)] ∧ ∀ (e : Int × (Bool × List Int) × List Int), e ∈ r_3.fst → e.snd = rc (rv e.snd))) → sel (sel (sel (sel (sel (sel (sel (decide (r.snd.fst = (0 : Int))) (decide (r_1.snd.fst = (0 : Int))) false) (decide (r_2.snd.fst = (0 : Int))) false) (decide (r_3.snd.fst = (0 : Int))) false) r_4.fst false) r_5.fst false) r_6.fst false) r_10.fst false = true
theorem vc_law19_awake_eq (x : dens s_law19_awake.args) : semF ⟨Tryz.prog, tys⟩ sp_law19_awake an_law19_awake s_law19_awake Tryz.f10.results.toList (Tryz.f10.body.getD .skip) x = vc_law19_awake x := by kernel_rfl
theorem m_law19_awake (hsp : SpOk Tryz.prog sp_law19_awake) (h : ∀ x, awf s_law19_awake.args x → s_law19_awake.pre x → vc_law19_awake x) : Meets Tryz.prog 10 s_law19_awake := meets_vc (cx := ⟨Tryz.prog, tys⟩) (sp := sp_law19_awake) (an := an_law19_awake) (s := s_law19_awake) (fn := Tryz.f10) (c := Tryz.f10.body.getD .skip) Tryz.func10 (by kernel_rfl) (Nat.le_of_ble_eq_true (by kernel_rfl)) (by kernel_rfl) tys_ok hsp vc_law19_awake_eq h
def vc_law19_TopologyLoops : dens s_law19_TopologyLoops.args → Prop := fun (x : List Int × Unit) => True ∧ ∀ (r : Int × List (Int × Int) × Unit), In64 r.fst ∧ (List.length r.snd.fst ≤ 9223372036854775807 ∧ ∀ (x : Int × Int), x ∈ r.snd.fst → In64 x.fst ∧ In64 x.snd) ∧ True → netOk r.fst r.snd.fst ∧ r.fst ≤ (7 : Int) ∧ r.snd.fst.length ≤ (12 : Nat) → True ∧ ∀ (r_1 : List Int × Int × Unit), WfI r_1.fst ∧ In64 r_1.snd.fst ∧ True → (r_1.fst = if netE r.fst r.snd.fst = (0 : Int) then forestF r.fst r.snd.fst else []) ∧ r_1.snd.fst = netE r.fst r.snd.fst → List.length r.snd.fst ≤ (100000 : Nat) ∧ ∀ (r_2 : List Int × Int × Unit), WfI r_2.fst ∧ In64 r_2.snd.fst ∧ True → (netE r.fst r.snd.fst ≠ (0 : Int) → r_2.fst = [] ∧ r_2.snd.fst = netE r.fst r.snd.fst) ∧ (netE r.fst r.snd.fst = (0 : Int) → r_2.fst = bridgesF r.fst r.snd.fst ∧ r_2.snd.fst = (0 : Int)) → True ∧ ∀ (r_3 : Bool × Unit), True ∧ True → r_3.fst = true → (sel (sel (!r_3.fst) true (decide (r_1.snd.fst ≠ (0 : Int)))) true (decide (r_2.snd.fst ≠ (0 : Int))) = true → false = true) ∧ (sel (sel (!r_3.fst) true (decide (r_1.snd.fst ≠ (0 : Int)))) true (decide (r_2.snd.fst ≠ (0 : Int))) = false → ((0 : Int) ≤ (↑(List.length r.snd.fst) : Int) ∧ (↑(List.length r.snd.fst) : Int) ≤ (↑(List.length r.snd.fst) : Int) ∧ (↑(1 : Nat) : Int) * (↑(List.length r.snd.fst) : Int) ≤ (281474976710656 : Int) ∧ (↑(List.length r.snd.fst) : Int) ≤ (9223372036854775807 : Int)) ∧ ∃ (I : Int × List Bool × Unit → Prop), ∃ (μ : Int × List Bool × Unit → Nat), I ((0 : Int), List.replicate (↑(List.length r.snd.fst) : Int).toNat false, ()) ∧ ∀ (p : Int × List Bool × Unit), In64 p.fst ∧ (List.length p.snd.fst ≤ 9223372036854775807 ∧ ∀ (x : Bool), x ∈ p.snd.fst → True) ∧ True → I p → (decide (p.fst < (↑(List.length r.snd.fst) : Int)) = true → ∃ (J : List Bool × Unit → Prop), (List.length r.snd.fst ≤ (20 : Nat) ∧ ∀ (r_4 : List EE × Int × Unit), WfEs r_4.fst ∧ In64 r_4.snd.fst ∧ True → (netE r.fst r.snd.fst ≠ (0 : Int) → r_4.fst = [] ∧ r_4.snd.fst = netE r.fst r.snd.fst) ∧ (netE r.fst r.snd.fst = (0 : Int) → r_4.fst = loopP r.fst r.snd.fst p.fst ∧ r_4.snd.fst = loopE r.fst r.snd.fst p.fst) → True ∧ ∀ (r_5 : Bool × Unit), True ∧ True → r_5.fst = decide (p.fst ∈ r_1.fst) → (r_5.fst = true → (decide (r_4.snd.fst ≠ (20 : Int)) = true → false = true) ∧ (decide (r_4.snd.fst ≠ (20 : Int)) = false → J (p.snd.fst, ()))) ∧ (r_5.fst = false → (decide (r_4.snd.fst ≠ (0 : Int)) = false → ∀ (e : Int × (Bool × List Int) × List Int), e ∈ r_4.fst → whole e.snd) ∧ ∀ (r_6 : Bool × Unit), (decide (r_4.snd.fst ≠ (0 : Int)) = false → (True ∧ True) ∧ r_6.fst = decide (validV r_4.fst (↑(List.length r.snd.fst) : Int))) → ((sel (decide (r_4.snd.fst ≠ (0 : Int))) true !r_6.fst) = false → pm r_4.fst ∧ List.length r_4.fst ≤ (1000 : Nat)) ∧ ∀ (r_7 : QQ × Unit), ((sel (decide (r_4.snd.fst ≠ (0 : Int))) true !r_6.fst) = false → (WfQ r_7.fst ∧ True) ∧ r_7.fst = ri (isum r_4.fst p.fst)) → ((sel (decide (r_4.snd.fst ≠ (0 : Int))) true !r_6.fst) = false → True) ∧ ∀ (r_8 : QQ × Unit), ((sel (decide (r_4.snd.fst ≠ (0 : Int))) true !r_6.fst) = false → (WfQ r_8.fst ∧ True) ∧ r_8.fst = ri (1 : Int)) → ((sel (decide (r_4.snd.fst ≠ (0 : Int))) true !r_6.fst) = false → True) ∧ ∀ (r_9 : Bool × Unit), ((sel (decide (r_4.snd.fst ≠ (0 : Int))) true !r_6.fst) = false → (True ∧ True) ∧ r_9.fst = decide (r_7.fst = r_8.fst)) → ((sel (sel (decide (r_4.snd.fst ≠ (0 : Int))) true !r_6.fst) true !r_9.fst) = true → false = true) ∧ ((sel (sel (decide (r_4.snd.fst ≠ (0 : Int))) true !r_6.fst) true !r_9.fst) = false → ((0 : Int) ≤ r.fst ∧ r.fst ≤ r.fst ∧ (↑(56 : Nat) : Int) * r.fst ≤ (281474976710656 : Int) ∧ r.fst ≤ (9223372036854775807 : Int)) ∧ ∃ (I : Int × List Bool × List QQ × Unit → Prop), ∃ (μ : Int × List Bool × List QQ × Unit → Nat), I ((0 : Int), p.snd.fst, List.replicate (Int.toNat r.fst) dQ, ()) ∧ ∀ (p_1 : Int × List Bool × List QQ × Unit), In64 p_1.fst ∧ (List.length p_1.snd.fst ≤ 9223372036854775807 ∧ ∀ (x : Bool), x ∈ p_1.snd.fst → True) ∧ (List.length p_1.snd.snd.fst ≤ 9223372036854775807 ∧ ∀ (x : (Bool × List Int) × List Int), x ∈ p_1.snd.snd.fst → WfQ x) ∧ True → I p_1 → (decide (p_1.fst < (↑(List.length r_4.fst) : Int)) = true → ∃ (J : List Bool × List QQ × Unit → Prop), (((0 : Int) ≤ p_1.fst ∧ p_1.fst < (↑(List.length r_4.fst) : Int)) ∧ (decide ((gx dEE r_4.fst p_1.fst).fst ≠ p.fst) = true → True) ∧ ∀ (r_10 : Bool × Unit), (decide ((gx dEE r_4.fst p_1.fst).fst ≠ p.fst) = true → (True ∧ True) ∧ r_10.fst = decide ((gx dEE r_4.fst p_1.fst).fst ∈ r_1.fst)) → (sel (decide ((gx dEE r_4.fst p_1.fst).fst ≠ p.fst)) (!r_10.fst) false = true → false = true) ∧ (sel (decide ((gx dEE r_4.fst p_1.fst).fst ≠ p.fst)) (!r_10.fst) false = false → ((0 : Int) ≤ (gx dEE r_4.fst p_1.fst).fst ∧ (gx dEE r_4.fst p_1.fst).fst < (↑(List.length p_1.snd.fst) : Int)) ∧ ((0 : Int) ≤ (gx dEE r_4.fst p_1.fst).fst ∧ (gx dEE r_4.fst p_1.fst).fst < (↑(List.length r.snd.fst) : Int)) ∧ ((0 : Int) ≤ (0 : Int) ∧ (0 : Int) < (↑(2 : Nat) : Int)) ∧ ((0 : Int) ≤ (1 : Int) ∧ (1 : Int) < (↑(2 : Nat) : Int)) ∧ ((0 : Int) ≤ (0 : Int) ∧ (0 : Int) < (↑(2 : Nat) : Int)) ∧ ((0 : Int) ≤ (gx ((0 : Int), (0 : Int)) r.snd.fst (gx dEE r_4.fst p_1.fst).fst).fst ∧ (gx ((0 : Int), (0 : Int)) r.snd.fst (gx dEE r_4.fst p_1.fst).fst).fst < (↑(List.length p_1.snd.snd.fst) : Int)) ∧ ((0 : Int) ≤ (1 : Int) ∧ (1 : Int) < (↑(2 : Nat) : Int)) ∧ ((0 : Int) ≤ (gx ((0 : Int), (0 : Int)) r.snd.fst (gx dEE r_4.fst p_1.fst).fst).snd ∧ (gx ((0 : Int), (0 : Int)) r.snd.fst (gx dEE r_4.fst p_1.fst).fst).snd < (↑(List.length p_1.snd.snd.fst) : Int)) ∧ ((whole (List.getD p_1.snd.snd.fst (Int.toNat (gx ((0 : Int), (0 : Int)) r.snd.fst (gx dEE r_4.fst p_1.fst).fst).fst) dQ) ∧ whole (gx dEE r_4.fst p_1.fst).snd) ∧ ∀ (r_11 : QQ × Unit), WfQ r_11.fst ∧ True → r_11.fst = rc (rv (List.getD p_1.snd.snd.fst (Int.toNat (gx ((0 : Int), (0 : Int)) r.snd.fst (gx dEE r_4.fst p_1.fst).fst).fst) dQ) + rv (gx dEE r_4.fst p_1.fst).snd) → (whole (List.getD p_1.snd.snd.fst (Int.toNat (gx ((0 : Int), (0 : Int)) r.snd.fst (gx dEE r_4.fst p_1.fst).fst).snd) dQ) ∧ whole (gx dEE r_4.fst p_1.fst).snd) ∧ ∀ (r_12 : QQ × Unit), WfQ r_12.fst ∧ True → r_12.fst = rc (rv (List.getD p_1.snd.snd.fst (Int.toNat (gx ((0 : Int), (0 : Int)) r.snd.fst (gx dEE r_4.fst p_1.fst).fst).snd) dQ) - rv (gx dEE r_4.fst p_1.fst).snd) → ((0 : Int) ≤ (gx ((0 : Int), (0 : Int)) r.snd.fst (gx dEE r_4.fst p_1.fst).fst).fst ∧ (gx ((0 : Int), (0 : Int)) r.snd.fst (gx dEE r_4.fst p_1.fst).fst).fst < (↑(List.length p_1.snd.snd.fst) : Int)) ∧ ((0 : Int) ≤ (gx ((0 : Int), (0 : Int)) r.snd.fst (gx dEE r_4.fst p_1.fst).fst).snd ∧ (gx ((0 : Int), (0 : Int)) r.snd.fst (gx dEE r_4.fst p_1.fst).fst).snd < (↑(List.set p_1.snd.snd.fst (Int.toNat (gx ((0 : Int), (0 : Int)) r.snd.fst (gx dEE r_4.fst p_1.fst).fst).fst) r_11.fst).length : Int)) ∧ ((0 : Int) ≤ (0 : Int) ∧ (0 : Int) < (↑(2 : Nat) : Int)) ∧ ((0 : Int) ≤ (1 : Int) ∧ (1 : Int) < (↑(2 : Nat) : Int)) ∧ (decide ((gx ((0 : Int), (0 : Int)) r.snd.fst (gx dEE r_4.fst p_1.fst).fst).fst = (gx ((0 : Int), (0 : Int)) r.snd.fst (gx dEE r_4.fst p_1.fst).fst).snd) = true → ((0 : Int) ≤ (0 : Int) ∧ (0 : Int) < (↑(2 : Nat) : Int)) ∧ True ∧ ∀ (r_13 : QQ × Unit), WfQ r_13.fst ∧ True → r_13.fst = rc (0 : Rat) → ((0 : Int) ≤ (gx ((0 : Int), (0 : Int)) r.snd.fst (gx dEE r_4.fst p_1.fst).fst).fst ∧ (gx ((0 : Int), (0 : Int)) r.snd.fst (gx dEE r_4.fst p_1.fst).fst).fst < (↑((List.set p_1.snd.snd.fst (Int.toNat (gx ((0 : Int), (0 : Int)) r.snd.fst (gx dEE r_4.fst p_1.fst).fst).fst) r_11.fst).set (Int.toNat (gx ((0 : Int), (0 : Int)) r.snd.fst (gx dEE r_4.fst p_1.fst).fst).snd) r_12.fst).length : Int)) ∧ J (List.set p_1.snd.fst (Int.toNat (gx dEE r_4.fst p_1.fst).fst) true, ((List.set p_1.snd.snd.fst (Int.toNat (gx ((0 : Int), (0 : Int)) r.snd.fst (gx dEE r_4.fst p_1.fst).fst).fst) r_11.fst).set (Int.toNat (gx ((0 : Int), (0 : Int)) r.snd.fst (gx dEE r_4.fst p_1.fst).fst).snd) r_12.fst).set (Int.toNat (gx ((0 : Int), (0 : Int)) r.snd.fst (gx dEE r_4.fst p_1.fst).fst).fst) r_13.fst, ())) ∧ (decide ((gx ((0 : Int), (0 : Int)) r.snd.fst (gx dEE r_4.fst p_1.fst).fst).fst = (gx ((0 : Int), (0 : Int)) r.snd.fst (gx dEE r_4.fst p_1.fst).fst).snd) = false → J (List.set p_1.snd.fst (Int.toNat (gx dEE r_4.fst p_1.fst).fst) true, (List.set p_1.snd.snd.fst (Int.toNat (gx ((0 : Int), (0 : Int)) r.snd.fst (gx dEE r_4.fst p_1.fst).fst).fst) r_11.fst).set (Int.toNat (gx ((0 : Int), (0 : Int)) r.snd.fst (gx dEE r_4.fst p_1.fst).fst).snd) r_12.fst, ()))) ∧ (whole (List.getD p_1.snd.snd.fst (Int.toNat (gx ((0 : Int), (0 : Int)) r.snd.fst (gx dEE r_4.fst p_1.fst).fst).fst) dQ) ∧ whole (gx dEE r_4.fst p_1.fst).snd) ∧ ∀ (r_11 : QQ × Unit), WfQ r_11.fst ∧ True → r_11.fst = rc (rv (List.getD p_1.snd.snd.fst (Int.toNat (gx ((0 : Int), (0 : Int)) r.snd.fst (gx dEE r_4.fst p_1.fst).fst).fst) dQ) + rv (gx dEE r_4.fst p_1.fst).snd) → ((whole (List.getD p_1.snd.snd.fst (Int.toNat (gx ((0 : Int), (0 : Int)) r.snd.fst (gx dEE r_4.fst p_1.fst).fst).snd) dQ) ∧ whole (gx dEE r_4.fst p_1.fst).snd) ∧ ∀ (r_12 : QQ × Unit), WfQ r_12.fst ∧ True → r_12.fst = rc (rv (List.getD p_1.snd.snd.fst (Int.toNat (gx ((0 : Int), (0 : Int)) r.snd.fst (gx dEE r_4.fst p_1.fst).fst).snd) dQ) - rv (gx dEE r_4.fst p_1.fst).snd) → ((0 : Int) ≤ (gx ((0 : Int), (0 : Int)) r.snd.fst (gx dEE r_4.fst p_1.fst).fst).fst ∧ (gx ((0 : Int), (0 : Int)) r.snd.fst (gx dEE r_4.fst p_1.fst).fst).fst < (↑(List.length p_1.snd.snd.fst) : Int)) ∧ ((0 : Int) ≤ (gx ((0 : Int), (0 : Int)) r.snd.fst (gx dEE r_4.fst p_1.fst).fst).snd ∧ (gx ((0 : Int), (0 : Int)) r.snd.fst (gx dEE r_4.fst p_1.fst).fst).snd < (↑(List.set p_1.snd.snd.fst (Int.toNat (gx ((0 : Int), (0 : Int)) r.snd.fst (gx dEE r_4.fst p_1.fst).fst).fst) r_11.fst).length : Int)) ∧ ((0 : Int) ≤ (0 : Int) ∧ (0 : Int) < (↑(2 : Nat) : Int)) ∧ ((0 : Int) ≤ (1 : Int) ∧ (1 : Int) < (↑(2 : Nat) : Int)) ∧ (decide ((gx ((0 : Int), (0 : Int)) r.snd.fst (gx dEE r_4.fst p_1.fst).fst).fst = (gx ((0 : Int), (0 : Int)) r.snd.fst (gx dEE r_4.fst p_1.fst).fst).snd) = true → ((0 : Int) ≤ (0 : Int) ∧ (0 : Int) < (↑(2 : Nat) : Int)) ∧ True ∧ ∀ (r_13 : QQ × Unit), WfQ r_13.fst ∧ True → r_13.fst = rc (0 : Rat) → ((0 : Int) ≤ (gx ((0 : Int), (0 : Int)) r.snd.fst (gx dEE r_4.fst p_1.fst).fst).fst ∧ (gx ((0 : Int), (0 : Int)) r.snd.fst (gx dEE r_4.fst p_1.fst).fst).fst < (↑((List.set p_1.snd.snd.fst (Int.toNat (gx ((0 : Int), (0 : Int)) r.snd.fst (gx dEE r_4.fst p_1.fst).fst).fst) r_11.fst).set (Int.toNat (gx ((0 : Int), (0 : Int)) r.snd.fst (gx dEE r_4.fst p_1.fst).fst).snd) r_12.fst).length : Int)) ∧ J (List.set p_1.snd.fst (Int.toNat (gx dEE r_4.fst p_1.fst).fst) true, ((List.set p_1.snd.snd.fst (Int.toNat (gx ((0 : Int), (0 : Int)) r.snd.fst (gx dEE r_4.fst p_1.fst).fst).fst) r_11.fst).set (Int.toNat (gx ((0 : Int), (0 : Int)) r.snd.fst (gx dEE r_4.fst p_1.fst).fst).snd) r_12.fst).set (Int.toNat (gx ((0 : Int), (0 : Int)) r.snd.fst (gx dEE r_4.fst p_1.fst).fst).fst) r_13.fst, ())) ∧ (decide ((gx ((0 : Int), (0 : Int)) r.snd.fst (gx dEE r_4.fst p_1.fst).fst).fst = (gx ((0 : Int), (0 : Int)) r.snd.fst (gx dEE r_4.fst p_1.fst).fst).snd) = false → J (List.set p_1.snd.fst (Int.toNat (gx dEE r_4.fst p_1.fst).fst) true, (List.set p_1.snd.snd.fst (Int.toNat (gx ((0 : Int), (0 : Int)) r.snd.fst (gx dEE r_4.fst p_1.fst).fst).fst) r_11.fst).set (Int.toNat (gx ((0 : Int), (0 : Int)) r.snd.fst (gx dEE r_4.fst p_1.fst).fst).snd) r_12.fst, ()))) ∧ (whole (List.getD p_1.snd.snd.fst (Int.toNat (gx ((0 : Int), (0 : Int)) r.snd.fst (gx dEE r_4.fst p_1.fst).fst).snd) dQ) ∧ whole (gx dEE r_4.fst p_1.fst).snd) ∧ ∀ (r_12 : QQ × Unit), WfQ r_12.fst ∧ True → r_12.fst = rc (rv (List.getD p_1.snd.snd.fst (Int.toNat (gx ((0 : Int), (0 : Int)) r.snd.fst (gx dEE r_4.fst p_1.fst).fst).snd) dQ) - rv (gx dEE r_4.fst p_1.fst).snd) → ((0 : Int) ≤ (gx ((0 : Int), (0 : Int)) r.snd.fst (gx dEE r_4.fst p_1.fst).fst).fst ∧ (gx ((0 : Int), (0 : Int)) r.snd.fst (gx dEE r_4.fst p_1.fst).fst).fst < (↑(List.length p_1.snd.snd.fst) : Int)) ∧ (((0 : Int) ≤ (gx ((0 : Int), (0 : Int)) r.snd.fst (gx dEE r_4.fst p_1.fst).fst).snd ∧ (gx ((0 : Int), (0 : Int)) r.snd.fst (gx dEE r_4.fst p_1.fst).fst).snd < (↑(List.set p_1.snd.snd.fst (Int.toNat (gx ((0 : Int), (0 : Int)) r.snd.fst (gx dEE r_4.fst p_1.fst).fst).fst) r_11.fst).length : Int)) ∧ ((0 : Int) ≤ (0 : Int) ∧ (0 : Int) < (↑(2 : Nat) : Int)) ∧ ((0 : Int) ≤ (1 : Int) ∧ (1 : Int) < (↑(2 : Nat) : Int)) ∧ (decide ((gx ((0 : Int), (0 : Int)) r.snd.fst (gx dEE r_4.fst p_1.fst).fst).fst = (gx ((0 : Int), (0 : Int)) r.snd.fst (gx dEE r_4.fst p_1.fst).fst).snd) = true → ((0 : Int) ≤ (0 : Int) ∧ (0 : Int) < (↑(2 : Nat) : Int)) ∧ True ∧ ∀ (r_13 : QQ × Unit), WfQ r_13.fst ∧ True → r_13.fst = rc (0 : Rat) → ((0 : Int) ≤ (gx ((0 : Int), (0 : Int)) r.snd.fst (gx dEE r_4.fst p_1.fst).fst).fst ∧ (gx ((0 : Int), (0 : Int)) r.snd.fst (gx dEE r_4.fst p_1.fst).fst).fst < (↑((List.set p_1.snd.snd.fst (Int.toNat (gx ((0 : Int), (0 : Int)) r.snd.fst (gx dEE r_4.fst p_1.fst).fst).fst) r_11.fst).set (Int.toNat (gx ((0 : Int), (0 : Int)) r.snd.fst (gx dEE r_4.fst p_1.fst).fst).snd) r_12.fst).length : Int)) ∧ J (List.set p_1.snd.fst (Int.toNat (gx dEE r_4.fst p_1.fst).fst) true, ((List.set p_1.snd.snd.fst (Int.toNat (gx ((0 : Int), (0 : Int)) r.snd.fst (gx dEE r_4.fst p_1.fst).fst).fst) r_11.fst).set (Int.toNat (gx ((0 : Int), (0 : Int)) r.snd.fst (gx dEE r_4.fst p_1.fst).fst).snd) r_12.fst).set (Int.toNat (gx ((0 : Int), (0 : Int)) r.snd.fst (gx dEE r_4.fst p_1.fst).fst).fst) r_13.fst, ())) ∧ (decide ((gx ((0 : Int), (0 : Int)) r.snd.fst (gx dEE r_4.fst p_1.fst).fst).fst = (gx ((0 : Int), (0 : Int)) r.snd.fst (gx dEE r_4.fst p_1.fst).fst).snd) = false → J (List.set p_1.snd.fst (Int.toNat (gx dEE r_4.fst p_1.fst).fst) true, (List.set p_1.snd.snd.fst (Int.toNat (gx ((0 : Int), (0 : Int)) r.snd.fst (gx dEE r_4.fst p_1.fst).fst).fst) r_11.fst).set (Int.toNat (gx ((0 : Int), (0 : Int)) r.snd.fst (gx dEE r_4.fst p_1.fst).fst).snd) r_12.fst, ()))) ∧ ((0 : Int) ≤ (gx ((0 : Int), (0 : Int)) r.snd.fst (gx dEE r_4.fst p_1.fst).fst).snd ∧ (gx ((0 : Int), (0 : Int)) r.snd.fst (gx dEE r_4.fst p_1.fst).fst).snd < (↑(List.set p_1.snd.snd.fst (Int.toNat (gx ((0 : Int), (0 : Int)) r.snd.fst (gx dEE r_4.fst p_1.fst).fst).fst) r_11.fst).length : Int)) ∧ ((0 : Int) ≤ (0 : Int) ∧ (0 : Int) < (↑(2 : Nat) : Int)) ∧ ((0 : Int) ≤ (1 : Int) ∧ (1 : Int) < (↑(2 : Nat) : Int)) ∧ (decide ((gx ((0 : Int), (0 : Int)) r.snd.fst (gx dEE r_4.fst p_1.fst).fst).fst = (gx ((0 : Int), (0 : Int)) r.snd.fst (gx dEE r_4.fst p_1.fst).fst).snd) = true → ((0 : Int) ≤ (0 : Int) ∧ (0 : Int) < (↑(2 : Nat) : Int)) ∧ True ∧ ∀ (r_13 : QQ × Unit), WfQ r_13.fst ∧ True → r_13.fst = rc (0 : Rat) → ((0 : Int) ≤ (gx ((0 : Int), (0 : Int)) r.snd.fst (gx dEE r_4.fst p_1.fst).fst).fst ∧ (gx ((0 : Int), (0 : Int)) r.snd.fst (gx dEE r_4.fst p_1.fst).fst).fst < (↑((List.set p_1.snd.snd.fst (Int.toNat (gx ((0 : Int), (0 : Int)) r.snd.fst (gx dEE r_4.fst p_1.fst).fst).fst) r_11.fst).set (Int.toNat (gx ((0 : Int), (0 : Int)) r.snd.fst (gx dEE r_4.fst p_1.fst).fst).snd) r_12.fst).length : Int)) ∧ J (List.set p_1.snd.fst (Int.toNat (gx dEE r_4.fst p_1.fst).fst) true, ((List.set p_1.snd.snd.fst (Int.toNat (gx ((0 : Int), (0 : Int)) r.snd.fst (gx dEE r_4.fst p_1.fst).fst).fst) r_11.fst).set (Int.toNat (gx ((0 : Int), (0 : Int)) r.snd.fst (gx dEE r_4.fst p_1.fst).fst).snd) r_12.fst).set (Int.toNat (gx ((0 : Int), (0 : Int)) r.snd.fst (gx dEE r_4.fst p_1.fst).fst).fst) r_13.fst, ())) ∧ (decide ((gx ((0 : Int), (0 : Int)) r.snd.fst (gx dEE r_4.fst p_1.fst).fst).fst = (gx ((0 : Int), (0 : Int)) r.snd.fst (gx dEE r_4.fst p_1.fst).fst).snd) = false → J (List.set p_1.snd.fst (Int.toNat (gx dEE r_4.fst p_1.fst).fst) true, (List.set p_1.snd.snd.fst (Int.toNat (gx ((0 : Int), (0 : Int)) r.snd.fst (gx dEE r_4.fst p_1.fst).fst).fst) r_11.fst).set (Int.toNat (gx ((0 : Int), (0 : Int)) r.snd.fst (gx dEE r_4.fst p_1.fst).fst).snd) r_12.fst, ())))) ∧ ∀ (p : List Bool × List QQ × Unit), (List.length p.fst ≤ 9223372036854775807 ∧ ∀ (x : Bool), x ∈ p.fst → True) ∧ (List.length p.snd.fst ≤ 9223372036854775807 ∧ ∀ (x : (Bool × List Int) × List Int), x ∈ p.snd.fst → WfQ x) ∧ True → J p → I (IntKind.i64.wrap (p_1.fst + (1 : Int)), p.fst, p.snd.fst, ()) ∧ μ (IntKind.i64.wrap (p_1.fst + (1 : Int)), p.fst, p.snd.fst, ()) < μ p_1) ∧ (decide (p_1.fst < (↑(List.length r_4.fst) : Int)) = false → ∃ (I : Int × Unit → Prop), ∃ (μ : Int × Unit → Nat), I ((0 : Int), ()) ∧ ∀ (p : Int × Unit), In64 p.fst ∧ True → I p → (decide (p.fst < r.fst) = true → ((0 : Int) ≤ p.fst ∧ p.fst < (↑(List.length p_1.snd.snd.fst) : Int)) ∧ whole (List.getD p_1.snd.snd.fst (Int.toNat p.fst) dQ) ∧ ∀ (r : Int × Unit), In64 r.fst ∧ True → r.fst = (rv (List.getD p_1.snd.snd.fst (Int.toNat p.fst) dQ)).num.sign → (decide (r.fst ≠ (0 : Int)) = true → false = true) ∧ (decide (r.fst ≠ (0 : Int)) = false → I (IntKind.i64.wrap (p.fst + (1 : Int)), ()) ∧ μ (IntKind.i64.wrap (p.fst + (1 : Int)), ()) < μ p)) ∧ (decide (p.fst < r.fst) = false → J (p_1.snd.fst, ())))))) ∧ ∀ (p_1 : List Bool × Unit), (List.length p_1.fst ≤ 9223372036854775807 ∧ ∀ (x : Bool), x ∈ p_1.fst → True) ∧ True → J p_1 → I (IntKind.i64.wrap (p.fst + (1 : Int)), p_1) ∧ μ (IntKind.i64.wrap (p.fst + (1 : Int)), p_1) < μ p) ∧ (decide (p.fst < (↑(List.length r.snd.fst) : Int)) = false → ∃ (I : Int × Unit → Prop), ∃ (μ : Int × Unit → Nat), I ((0 : Int), ()) ∧ ∀ (p_1 : Int × Unit), In64 p_1.fst ∧ True → I p_1 → (decide (p_1.fst < (↑(List.length r.snd.fst) : Int)) = true → ((0 : Int) ≤ p_1.fst ∧ p_1.fst < (↑(List.length p.snd.fst) : Int)) ∧ True ∧ ∀ (r : Bool × Unit), True ∧ True → r.fst = decide (p_1.fst ∈ r_2.fst) → ((r.fst == List.getD p.snd.fst (Int.toNat p_1.fst) false) = true → false = true) ∧ ((r.fst == List.getD p.snd.fst (Int.toNat p_1.fst) false) = false → I (IntKind.i64.wrap (p_1.fst + (1 : Int)), ()) ∧ μ (IntKind.i64.wrap (p_1.fst + (1 : Int)), ()) < μ p_1)) ∧ (decide (p_1.fst < (↑(List.length r.snd.fst) : Int)) = false → true = true)))
theorem vc_law19_TopologyLoops_eq (x : dens s_law19_TopologyLoops.args) : semF ⟨Tryz.prog, tys⟩ sp_law19_TopologyLoops an_law19_TopologyLoops s_law19_TopologyLoops Tryz.f4.results.toList (Tryz.f4.body.getD .skip) x = vc_law19_TopologyLoops x := by kernel_rfl
theorem m_law19_TopologyLoops (hsp : SpOk Tryz.prog sp_law19_TopologyLoops) (h : ∀ x, awf s_law19_TopologyLoops.args x → s_law19_TopologyLoops.pre x → vc_law19_TopologyLoops x) : Meets Tryz.prog 4 s_law19_TopologyLoops := meets_vc (cx := ⟨Tryz.prog, tys⟩) (sp := sp_law19_TopologyLoops) (an := an_law19_TopologyLoops) (s := s_law19_TopologyLoops) (fn := Tryz.f4) (c := Tryz.f4.body.getD .skip) Tryz.func4 (by kernel_rfl) (Nat.le_of_ble_eq_true (by kernel_rfl)) (by kernel_rfl) tys_ok hsp vc_law19_TopologyLoops_eq h
end Go.Proofs.YtppgpdigopffbaaGreat
namespace Go.Proofs.YtppgpdigopffbaaGreat
open Go.Vc Go.Gw
abbrev tri : List Ln := [(0, 1), (1, 2), (0, 2)]
theorem tri_loop : loopP 3 tri 2 = [(0, ri (-1)), (1, ri (-1)), (2, ri 1)] := by
  have e1 : loopP 3 tri 2 = loopF 3 tri 2 := by
    unfold loopP
    rw [if_pos (by decide), if_neg (by decide)]
  have c0 : loopC 3 tri 2 0 = -1 := by decide
  have c1 : loopC 3 tri 2 1 = -1 := by decide
  have c2 : loopC 3 tri 2 2 = 1 := by decide
  rw [e1]
  unfold loopF
  have er : List.range tri.length = [0, 1, 2] := by decide
  rw [er]
  simp [c0, c1, c2]
theorem vc_law19_awake_ok (x : dens s_law19_awake.args) (hw : awf s_law19_awake.args x) (_ : s_law19_awake.pre x) : vc_law19_awake x := by
  have n1 : netE 3 tri = 0 := by decide
  have e2 : (tri.take (Int.toNat 2)).drop (Int.toNat 0) = [(0, 1), (1, 2)] := rfl
  have n2 : netE 3 [(0, 1), (1, 2)] = 0 := by decide
  have l1 : labs 3 tri = [0, 0, 0] := by decide
  have f1 : forestF 3 tri = [0, 1] := by decide
  have b1 : bridgesF 3 [(0, 1), (1, 2)] = [0, 1] := by decide
  have p1 : loopE 3 tri 2 = 0 := by decide
  simp only [vc_law19_awake, e2, n1, n2, l1, f1, b1, p1, tri_loop, if_true]
  refine ⟨trivial, ?_⟩
  rintro ⟨a, e, _⟩ _ ⟨ha, he⟩
  refine ⟨trivial, ?_⟩
  rintro ⟨b, f, _⟩ _ ⟨hb, hf⟩
  refine ⟨⟨by decide, by decide, by decide⟩, by decide, ?_⟩
  rintro ⟨c, g, _⟩ _ ⟨_, hc⟩
  obtain ⟨hc, hg⟩ := hc trivial
  refine ⟨by decide, ?_⟩
  rintro ⟨v, h, _⟩ _ ⟨_, hv⟩
  obtain ⟨hv, hh⟩ := hv trivial
  simp only at ha he hb hf hc hg hv hh ⊢
  subst ha he hb hf hc hg hv hh
  refine ⟨fun _ => trivial, ?_⟩
  rintro ⟨r4, _⟩ h4
  have h4 := (h4 rfl).2
  simp only at h4
  have h4 : r4 = true := by rw [h4]; rfl
  subst h4
  refine ⟨fun _ => trivial, ?_⟩
  rintro ⟨r5, _⟩ h5
  have h5 := (h5 rfl).2
  simp only at h5
  have h5 : r5 = true := by rw [h5]; rfl
  subst h5
  refine ⟨fun _ => trivial, ?_⟩
  rintro ⟨r6, _⟩ h6
  have h6 := (h6 rfl).2
  simp only at h6
  have h6 : r6 = true := by rw [h6]; rfl
  subst h6
  refine ⟨fun _ => trivial, ?_⟩
  rintro ⟨r7, _⟩ h7
  have h7 := (h7 rfl).2
  simp only at h7
  subst h7
  refine ⟨fun _ => trivial, ?_⟩
  rintro ⟨r8, _⟩ h8
  have h8 := (h8 rfl).2
  simp only at h8
  subst h8
  refine ⟨fun _ => trivial, ?_⟩
  rintro ⟨r9, _⟩ h9
  have h9 := (h9 rfl).2
  simp only at h9
  subst h9
  have hwh : ∀ e ∈ [((0 : Int), ri (-1)), (1, ri (-1)), (2, ri 1)], whole e.2 ∧ e.2 = rc (rv e.2) := fun e he => by
    rcases List.mem_cons.1 he with rfl | he
    · exact ⟨whole_ri (by decide), by rw [rv_ri, rc_int]⟩
    · rcases List.mem_cons.1 he with rfl | he
      · exact ⟨whole_ri (by decide), by rw [rv_ri, rc_int]⟩
      · rw [List.mem_singleton.1 he]
        exact ⟨whole_ri (by decide), by rw [rv_ri, rc_int]⟩
  refine ⟨fun _ e he => (hwh e he).1, ?_⟩
  rintro ⟨r10, _⟩ h10
  have h10 := (h10 rfl).2
  simp only at h10
  have h10 : r10 = true := by
    rw [h10]
    exact decide_eq_true ⟨by trivial, fun e he => (hwh e he).2⟩
  subst h10
  rfl
end Go.Proofs.YtppgpdigopffbaaGreat
namespace Go.Proofs.YtppgpdigopffbaaGreat
open Go.Vc Go.Gw
theorem ok_make_New : Meets Tryz.prog 23 s_make_New := m_make_New (spOk_nil) vc_make_New_ok
theorem ok_make_Mod : Meets Tryz.prog 28 s_make_Mod := m_make_Mod (spOk_nil) vc_make_Mod_ok
theorem ok_make_Tape_Next : Meets Tryz.prog 25 s_make_Tape_Next := m_make_Tape_Next (spOk_cons ok_make_Mod (spOk_nil)) vc_make_Tape_Next_ok
theorem ok_law19_network : Meets Tryz.prog 7 s_law19_network := m_law19_network (spOk_cons ok_make_New (spOk_cons ok_make_Tape_Next (spOk_nil))) vc_law19_network_ok
theorem ok_topology_check : Meets Tryz.prog 30 s_topology_check := m_topology_check (spOk_nil) vc_topology_check_ok
theorem ok_topology_separate : Meets Tryz.prog 32 s_topology_separate := m_topology_separate (spOk_nil) vc_topology_separate_ok
theorem ok_topology_sets_least : Meets Tryz.prog 34 s_topology_sets_least := m_topology_sets_least (spOk_nil) vc_topology_sets_least_ok
theorem ok_topology_sets_join : Meets Tryz.prog 33 s_topology_sets_join := m_topology_sets_join (spOk_cons ok_topology_sets_least (spOk_nil)) vc_topology_sets_join_ok
theorem ok_topology_tree : Meets Tryz.prog 31 s_topology_tree := m_topology_tree (spOk_cons ok_topology_separate (spOk_cons ok_topology_sets_join (spOk_nil))) vc_topology_tree_ok
theorem ok_topology_Forest : Meets Tryz.prog 8 s_topology_Forest := m_topology_Forest (spOk_cons ok_topology_check (spOk_cons ok_topology_tree (spOk_nil))) vc_topology_Forest_ok
theorem ok_topology_Islands : Meets Tryz.prog 9 s_topology_Islands := m_topology_Islands (spOk_cons ok_topology_check (spOk_cons ok_topology_separate (spOk_cons ok_topology_sets_join (spOk_cons ok_topology_sets_least (spOk_nil))))) vc_topology_Islands_ok
theorem ok_topology_roots : Meets Tryz.prog 36 s_topology_roots := m_topology_roots (spOk_nil) vc_topology_roots_ok
theorem ok_cmp_isNaN_int : Meets Tryz.prog 83 s_cmp_isNaN_int := m_cmp_isNaN_int (spOk_nil) vc_cmp_isNaN_int_ok
theorem ok_cmp_Less_int : Meets Tryz.prog 62 s_cmp_Less_int := m_cmp_Less_int (spOk_cons ok_cmp_isNaN_int (spOk_nil)) vc_cmp_Less_int_ok
theorem ok_slices_isNaN_int : Meets Tryz.prog 63 s_slices_isNaN_int := m_slices_isNaN_int (spOk_nil) vc_slices_isNaN_int_ok
theorem ok_slices_BinarySearch_Sint_int : Meets Tryz.prog 38 s_slices_BinarySearch_Sint_int := m_slices_BinarySearch_Sint_int (spOk_cons ok_cmp_Less_int (spOk_cons ok_slices_isNaN_int (spOk_nil))) vc_slices_BinarySearch_Sint_int_ok
theorem ok_topology_Bridges_2 : Meets Tryz.prog 40 s_topology_Bridges_2 := m_topology_Bridges_2 (spOk_nil) vc_topology_Bridges_2_ok
theorem ok_slices_IndexFunc_Sint_int : Meets Tryz.prog 64 s_slices_IndexFunc_Sint_int := m_slices_IndexFunc_Sint_int (spOk_nil) vc_slices_IndexFunc_Sint_int_ok
theorem ok_topology_Bridges : Meets Tryz.prog 11 s_topology_Bridges := m_topology_Bridges (spOk_cons ok_topology_check (spOk_cons ok_topology_tree (spOk_cons ok_topology_roots (spOk_cons ok_slices_BinarySearch_Sint_int (spOk_inl (inl_ok (cx := ⟨Tryz.prog, tys⟩) (fn := Tryz.f37) (c := Tryz.f37.body.getD .skip) Tryz.func37 (by kernel_rfl) (by kernel_rfl) tys_ok (ansOk_cons (spOk_nil) (ansOk_cons (spOk_nil) (ansOk_cons (spOk_nil) (ansOk_nil))))) (spOk_inl (inl_ok (cx := ⟨Tryz.prog, tys⟩) (fn := Tryz.f39) (c := Tryz.f39.body.getD .skip) Tryz.func39 (by kernel_rfl) (by kernel_rfl) tys_ok (ansOk_cons (spOk_cons ok_topology_Bridges_2 (spOk_cons ok_slices_IndexFunc_Sint_int (spOk_nil))) (ansOk_nil))) (spOk_nil))))))) vc_topology_Bridges_ok
theorem ok_help_Equal_int : Meets Tryz.prog 12 s_help_Equal_int := m_help_Equal_int (spOk_nil) vc_help_Equal_int_ok
theorem ok_integer_signed : Meets Tryz.prog 84 s_integer_signed := m_integer_signed (spOk_nil) vc_integer_signed_ok
theorem ok_natural_cut : Meets Tryz.prog 102 s_natural_cut := m_natural_cut (spOk_nil) vc_natural_cut_ok
theorem ok_natural_FromUint64 : Meets Tryz.prog 85 s_natural_FromUint64 := m_natural_FromUint64 (spOk_cons ok_natural_cut (spOk_nil)) vc_natural_FromUint64_ok
theorem ok_integer_FromInt : Meets Tryz.prog 65 s_integer_FromInt := m_integer_FromInt (spOk_cons ok_integer_signed (spOk_cons ok_natural_FromUint64 (spOk_nil))) vc_integer_FromInt_ok
theorem ok_rational_FromInt : Meets Tryz.prog 41 s_rational_FromInt := m_rational_FromInt (spOk_cons ok_integer_FromInt (spOk_nil)) vc_rational_FromInt_ok
theorem ok_natural_Compare : Meets Tryz.prog 106 s_natural_Compare := m_natural_Compare (spOk_cons ok_natural_cut (spOk_nil)) vc_natural_Compare_ok
theorem ok_rational_parts : Meets Tryz.prog 94 s_rational_parts := m_rational_parts (spOk_cons ok_natural_Compare (spOk_nil)) vc_rational_parts_ok
theorem ok_integer_Sign : Meets Tryz.prog 103 s_integer_Sign := m_integer_Sign (spOk_cons ok_natural_Compare (spOk_nil)) vc_integer_Sign_ok
theorem ok_rational_Sign : Meets Tryz.prog 86 s_rational_Sign := m_rational_Sign (spOk_cons ok_rational_parts (spOk_cons ok_integer_Sign (spOk_nil))) vc_rational_Sign_ok
theorem ok_vector_merge : Meets Tryz.prog 66 s_vector_merge := m_vector_merge (spOk_cons ok_rational_Sign (spOk_nil)) vc_vector_merge_ok
theorem ok_vector_ascending : Meets Tryz.prog 87 s_vector_ascending := m_vector_ascending (spOk_nil) vc_vector_ascending_ok
theorem ok_slices_insertionSortCmpFunc_Entry : Meets Tryz.prog 118 s_slices_insertionSortCmpFunc_Entry := m_slices_insertionSortCmpFunc_Entry (spOk_nil) vc_slices_insertionSortCmpFunc_Entry_ok
theorem ok_slices_symMergeCmpFunc_Entry : Meets Tryz.prog 119 s_slices_symMergeCmpFunc_Entry := meets_false fun _ h => h
theorem ok_slices_stableCmpFunc_Entry : Meets Tryz.prog 104 s_slices_stableCmpFunc_Entry := m_slices_stableCmpFunc_Entry (spOk_cons ok_slices_insertionSortCmpFunc_Entry (spOk_cons ok_slices_symMergeCmpFunc_Entry (spOk_nil))) vc_slices_stableCmpFunc_Entry_ok
theorem ok_slices_SortStableFunc_SEntry_Entry : Meets Tryz.prog 88 s_slices_SortStableFunc_SEntry_Entry := m_slices_SortStableFunc_SEntry_Entry (spOk_cons ok_slices_stableCmpFunc_Entry (spOk_nil)) vc_slices_SortStableFunc_SEntry_Entry_ok
theorem ok_cmp_Compare_int : Meets Tryz.prog 105 s_cmp_Compare_int := m_cmp_Compare_int (spOk_cons ok_cmp_isNaN_int (spOk_nil)) vc_cmp_Compare_int_ok
theorem ok_vector_byIndex : Meets Tryz.prog 89 s_vector_byIndex := m_vector_byIndex (spOk_cons ok_cmp_Compare_int (spOk_nil)) vc_vector_byIndex_ok
theorem ok_rational_Add : Meets Tryz.prog 90 s_rational_Add := meets_false fun _ h => h
theorem ok_vector_arrange : Meets Tryz.prog 67 s_vector_arrange := m_vector_arrange (spOk_cons ok_vector_ascending (spOk_cons ok_slices_SortStableFunc_SEntry_Entry (spOk_cons ok_vector_byIndex (spOk_cons ok_rational_Add (spOk_nil))))) vc_vector_arrange_ok
theorem ok_natural_word : Meets Tryz.prog 122 s_natural_word := m_natural_word (spOk_nil) vc_natural_word_ok
theorem ok_natural_Uint64 : Meets Tryz.prog 110 s_natural_Uint64 := m_natural_Uint64 (spOk_cons ok_natural_cut (spOk_cons ok_natural_word (spOk_nil))) vc_natural_Uint64_ok
theorem ok_rational_small : Meets Tryz.prog 91 s_rational_small := m_rational_small (spOk_cons ok_natural_Uint64 (spOk_nil)) vc_rational_small_ok
theorem ok_rational_quotient : Meets Tryz.prog 92 s_rational_quotient := m_rational_quotient (spOk_cons ok_natural_FromUint64 (spOk_nil)) vc_rational_quotient_ok
theorem ok_rational_lowest : Meets Tryz.prog 93 s_rational_lowest := meets_false fun _ h => h
theorem ok_rational_Norm : Meets Tryz.prog 69 s_rational_Norm := m_rational_Norm (spOk_cons ok_rational_small (spOk_cons ok_rational_quotient (spOk_cons ok_rational_lowest (spOk_cons ok_rational_parts (spOk_nil))))) vc_rational_Norm_ok
theorem ok_vector_Norm_1 : Meets Tryz.prog 68 s_vector_Norm_1 := m_vector_Norm_1 (spOk_cons ok_rational_Norm (spOk_nil)) vc_vector_Norm_1_ok
theorem ok_vector_Norm : Meets Tryz.prog 43 s_vector_Norm := m_vector_Norm (spOk_cons ok_vector_merge (spOk_cons ok_vector_arrange (spOk_cons ok_vector_Norm_1 (spOk_nil)))) vc_vector_Norm_ok
theorem ok_topology_Loop : Meets Tryz.prog 13 s_topology_Loop := m_topology_Loop (spOk_cons ok_topology_check (spOk_cons ok_topology_tree (spOk_cons ok_topology_roots (spOk_cons ok_slices_BinarySearch_Sint_int (spOk_cons ok_rational_FromInt (spOk_cons ok_vector_Norm (spOk_inl (inl_ok (cx := ⟨Tryz.prog, tys⟩) (fn := Tryz.f42) (c := Tryz.f42.body.getD .skip) Tryz.func42 (by kernel_rfl) (by kernel_rfl) tys_ok (ansOk_cons (spOk_cons ok_rational_FromInt (spOk_nil)) (ansOk_cons (spOk_cons ok_rational_FromInt (spOk_nil)) (ansOk_nil)))) (spOk_nil)))))))) vc_topology_Loop_ok
theorem ok_r03_Zero : Meets Tryz.prog 21 s_r03_Zero := m_r03_Zero (spOk_nil) vc_r03_Zero_ok
theorem ok_r01_Equal : Meets Tryz.prog 45 s_r01_Equal := m_r01_Equal (spOk_nil) vc_r01_Equal_ok
theorem ok_r01_Trim : Meets Tryz.prog 99 s_r01_Trim := m_r01_Trim (spOk_nil) vc_r01_Trim_ok
theorem ok_r02_Make : Meets Tryz.prog 74 s_r02_Make := m_r02_Make (spOk_cons ok_r01_Trim (spOk_nil)) vc_r02_Make_ok
theorem ok_r02_Norm : Meets Tryz.prog 70 s_r02_Norm := m_r02_Norm (spOk_cons ok_r02_Make (spOk_nil)) vc_r02_Norm_ok
theorem ok_r02_Sign : Meets Tryz.prog 53 s_r02_Sign := m_r02_Sign (spOk_cons ok_r02_Norm (spOk_nil)) vc_r02_Sign_ok
theorem ok_r02_GCD : Meets Tryz.prog 71 s_r02_GCD := meets_false fun _ h => h
theorem ok_r02_DivMod : Meets Tryz.prog 72 s_r02_DivMod := meets_false fun _ h => h
theorem ok_r02_Neg : Meets Tryz.prog 73 s_r02_Neg := m_r02_Neg (spOk_cons ok_r02_Make (spOk_nil)) vc_r02_Neg_ok
theorem ok_r03_Make : Meets Tryz.prog 46 s_r03_Make := m_r03_Make (spOk_cons ok_r03_Zero (spOk_cons ok_r01_Equal (spOk_cons ok_r02_Sign (spOk_cons ok_r02_Norm (spOk_cons ok_r02_GCD (spOk_cons ok_r02_DivMod (spOk_cons ok_r02_Neg (spOk_nil)))))))) vc_r03_Make_ok
theorem ok_r01_FromUint64 : Meets Tryz.prog 75 s_r01_FromUint64 := m_r01_FromUint64 (spOk_cons ok_r01_Trim (spOk_nil)) vc_r01_FromUint64_ok
theorem ok_r02_FromInt : Meets Tryz.prog 47 s_r02_FromInt := m_r02_FromInt (spOk_cons ok_r02_Make (spOk_cons ok_r01_FromUint64 (spOk_nil))) vc_r02_FromInt_ok
theorem ok_r03_FromInt : Meets Tryz.prog 18 s_r03_FromInt := m_r03_FromInt (spOk_cons ok_r03_Make (spOk_cons ok_r02_FromInt (spOk_nil))) vc_r03_FromInt_ok
theorem ok_r02_Equal : Meets Tryz.prog 44 s_r02_Equal := m_r02_Equal (spOk_cons ok_r01_Equal (spOk_nil)) vc_r02_Equal_ok
theorem ok_r03_Equal : Meets Tryz.prog 16 s_r03_Equal := m_r03_Equal (spOk_cons ok_r02_Equal (spOk_cons ok_r01_Equal (spOk_nil))) vc_r03_Equal_ok
theorem ok_r03_Norm : Meets Tryz.prog 48 s_r03_Norm := m_r03_Norm (spOk_cons ok_r03_Make (spOk_nil)) vc_r03_Norm_ok
theorem ok_r03_Canonical : Meets Tryz.prog 61 s_r03_Canonical := m_r03_Canonical (spOk_cons ok_r03_Equal (spOk_cons ok_r03_Norm (spOk_nil))) vc_r03_Canonical_ok
theorem ok_r06_Identical : Meets Tryz.prog 35 s_r06_Identical := m_r06_Identical (spOk_cons ok_r03_Equal (spOk_cons ok_r03_Canonical (spOk_nil))) vc_r06_Identical_ok
theorem ok_law19_awake : Meets Tryz.prog 10 s_law19_awake := m_law19_awake (spOk_cons ok_topology_Forest (spOk_cons ok_topology_Islands (spOk_cons ok_topology_Bridges (spOk_cons ok_help_Equal_int (spOk_cons ok_topology_Loop (spOk_cons ok_r03_FromInt (spOk_cons ok_r06_Identical (spOk_nil)))))))) vc_law19_awake_ok
theorem ok_law19_has : Meets Tryz.prog 14 s_law19_has := m_law19_has (spOk_nil) vc_law19_has_ok
end Go.Proofs.YtppgpdigopffbaaGreat
namespace Go.Proofs.YtppgpdigopffbaaGreat
open Go.Vc Go.Gw
theorem inc_abs {ls : List Ln} {b : Int} {e : Ent} (h : e.2 = ri 1 ∨ e.2 = ri (-1)) : (inc ls b e).natAbs ≤ 1 := by
  unfold inc dlt
  rcases h with h | h <;> rw [h, rsgn_ri] <;> (split <;> split <;> decide)
theorem sumB_abs {ls : List Ln} {b : Int} : ∀ {l : List Ent}, pm l → (sumB ls b l).natAbs ≤ l.length
  | [], _ => by simp [sumB]
  | e :: l, h => by
    have ih := sumB_abs (ls := ls) (b := b) (l := l) fun x hx => h x (List.mem_cons_of_mem _ hx)
    have := inc_abs (ls := ls) (b := b) (h e (by simp))
    simp only [sumB, List.length_cons]; omega
def okS (x : RatV) (v : Int) : Prop := (x = zr ∧ v = 0) ∨ x = ri v
theorem okS_val {x : RatV} {v : Int} (h : okS x v) (hv : v.natAbs ≤ 1000000) : whole x ∧ rv x = (v : Rat) := by
  rcases h with ⟨rfl, rfl⟩ | rfl
  · refine ⟨⟨⟨by decide, by decide⟩, by decide⟩, ?_⟩
    unfold rv zr
    show mkRat _ 0 = _
    rw [Rat.mkRat_zero]; rfl
  · exact ⟨whole_ri hv, rv_ri v⟩
theorem loop_valid {n : Int} {ls : List Ln} (hok : netOk n ls) {line : Int} (h0 : 0 ≤ line) (h1 : line < (ls.length : Int)) (hl : line ∉ forestF n ls) : validV (loopF n ls line) (ls.length : Int) := by
  refine ⟨loopF_byIx n ls line, fun e he => ?_⟩
  have hm := loopF_mem.1 he
  refine ⟨hm.1, hm.2.1, ?_⟩
  rcases loop_pm hok h0 h1 hl e he with h | h <;> rw [h, rsgn_ri] <;> decide
theorem loopC_self {n : Int} {ls : List Ln} (line : Int) : loopC n ls line line = 1 := by unfold loopC; rw [if_pos rfl]
set_option maxHeartbeats 2000000 in
theorem vc_law19_TopologyLoops_ok (x : dens s_law19_TopologyLoops.args) (hw : awf s_law19_TopologyLoops.args x) (hp : s_law19_TopologyLoops.pre x) : vc_law19_TopologyLoops x := by
  simp only [vc_law19_TopologyLoops]
  refine ⟨trivial, ?_⟩
  rintro ⟨n, ls, _⟩ _ ⟨hok, hn7, hl⟩
  change Int at n
  change List (Int × Int) at ls
  have hok : netOk n ls := hok
  have hn7 : n ≤ 7 := hn7
  have hl : ls.length ≤ 12 := hl
  obtain ⟨n0, _, nb⟩ := id hok
  have h0 : netE n ls = 0 := netE_ok.2 hok
  refine ⟨trivial, ?_⟩
  rintro ⟨F, e, _⟩ _ ⟨hF, he⟩
  refine ⟨by show ls.length ≤ _; omega, ?_⟩
  rintro ⟨B, f, _⟩ _ ⟨_, hB⟩
  obtain ⟨hB, hf⟩ := hB h0
  refine ⟨trivial, ?_⟩
  rintro ⟨aw, _⟩ _ haw
  simp only at hF he hB hf haw ⊢
  rw [h0] at hF he
  rw [if_pos rfl] at hF
  subst hF he hB hf haw
  refine ⟨fun h => by simp [sel] at h, fun _ => ⟨⟨by omega, Int.le_refl _, by simp; omega, by omega⟩, ?_⟩⟩
  refine ⟨fun p => 0 ≤ p.1 ∧ p.1 ≤ (ls.length : Int) ∧ p.2.1.length = ls.length ∧ ∀ m : Nat, m < ls.length → (p.2.1.getD m false = true ↔ ∃ k : Int, 0 ≤ k ∧ k < p.1 ∧ k ∉ forestF n ls ∧ loopC n ls k (m : Int) ≠ 0), fun p => ((ls.length : Int) - p.1).toNat, ⟨Int.le_refl _, Int.natCast_nonneg _, by simp, fun m hm => ?_⟩, ?_⟩
  · constructor
    · intro h
      simp only [List.getD_eq_getElem?_getD, List.getElem?_replicate] at h
      split at h <;> cases h
    · rintro ⟨k, k0, k1, _⟩
      change k < 0 at k1; omega
  rintro ⟨i, used, _⟩ _ ⟨i0, i1, i2, i3⟩
  change Int at i
  change List Bool at used
  simp only at i0 i1 i2 i3 ⊢
  refine ⟨fun hi' => ?_, fun hi' => ?_⟩
  · have hi : i < (ls.length : Int) := of_decide_eq_true hi'
    clear hi'
    refine ⟨fun p => p.1.length = ls.length ∧ ∀ m : Nat, m < ls.length → (p.1.getD m false = true ↔ ∃ k : Int, 0 ≤ k ∧ k < i + 1 ∧ k ∉ forestF n ls ∧ loopC n ls k (m : Int) ≠ 0), ⟨by show ls.length ≤ _; omega, ?_⟩, ?_⟩
    · rintro ⟨v, h, _⟩ _ ⟨_, hv⟩
      obtain ⟨hv, hh⟩ := hv h0
      refine ⟨trivial, ?_⟩
      rintro ⟨r5, _⟩ _ h5
      simp only at hv hh h5 ⊢
      subst hv hh h5
      refine ⟨fun hif => ?_, fun hif => ?_⟩
      · have hif := of_decide_eq_true hif
        obtain ⟨e1, e2⟩ := loopP_forest' i0 hi hif
        rw [e2]
        refine ⟨fun h => absurd (of_decide_eq_true h) (by decide), fun _ => ⟨i2, fun m hm => ?_⟩⟩
        show used.getD m false = true ↔ _
        rw [i3 m hm]
        constructor
        · rintro ⟨k, k0, k1, k2, k3⟩; exact ⟨k, k0, by omega, k2, k3⟩
        · rintro ⟨k, k0, k1, k2, k3⟩
          exact ⟨k, k0, by have : k ≠ i := fun e => k2 (by rw [e]; exact hif)
                           omega, k2, k3⟩
      · have hnf := of_decide_eq_false hif
        obtain ⟨e1, e2⟩ := loopP_loop' (n := n) i0 hi hnf
        rw [e1, e2]
        have hpm : pm (loopF n ls i) := loop_pm hok i0 hi hnf
        have hval := loop_valid hok i0 hi hnf
        have hlen := loopF_len (n := n) (ls := ls) i
        have hself : (i, ri 1) ∈ loopF n ls i := loopF_mem.2 ⟨i0, hi, by simp only [loopC_self]; decide, by simp only [loopC_self]⟩
        have hnd : ((loopF n ls i).map fun e : Ent => e.1).Nodup := by
          unfold List.Nodup
          rw [List.pairwise_map]
          exact (loopF_byIx n ls i).imp fun {a b} hab e => by omega
        have his : isum (loopF n ls i) i = 1 := by
          have := isum_one hnd hself
          rw [rsgn_ri] at this; exact this
        have hclosed : ∀ b, sumB ls b (loopF n ls i) = 0 := loop_closed hok i0 hi hnf
        have hselfl : (lnA ls i).1 = (lnA ls i).2 → loopF n ls i = [(i, ri 1)] := loop_self hok i0 hi hnf
        have hmem : ∀ e ∈ loopF n ls i, 0 ≤ e.1 ∧ e.1 < (ls.length : Int) ∧ (e.1 ≠ i → e.1 ∈ forestF n ls) := fun e he => by
          obtain ⟨m0, m1, m2, _⟩ := loopF_mem.1 he
          refine ⟨m0, m1, fun hne => ?_⟩
          by_cases hf : e.1 ∈ forestF n ls
          · exact hf
          · unfold loopC at m2
            rw [if_neg hne, if_neg hf] at m2
            exact absurd rfl m2
        have hidx : ∀ m : Nat, m < ls.length → ((∃ e ∈ loopF n ls i, e.1 = (m : Int)) ↔ loopC n ls i (m : Int) ≠ 0) := fun m hm => by
          constructor
          · rintro ⟨e, he, hem⟩
            have := (loopF_mem.1 he).2.2.1
            rw [hem] at this; exact this
          · intro hc
            exact ⟨((m : Int), ri (loopC n ls i (m : Int))), loopF_mem.2 ⟨by simp only; omega, by simp only; omega, hc, rfl⟩, rfl⟩
        generalize loopF n ls i = L at *
        refine ⟨fun _ e he => ?_, ?_⟩
        · rcases hpm e he with h | h <;> rw [h] <;> exact whole_ri (by decide)
        rintro ⟨r6, _⟩ h6
        have h6 := (h6 rfl).2
        simp only at h6
        have h6 : r6 = true := by rw [h6]; exact decide_eq_true hval
        subst h6
        refine ⟨fun _ => ⟨hpm, by show L.length ≤ _; omega⟩, ?_⟩
        rintro ⟨r7, _⟩ h7
        have h7 := (h7 rfl).2
        simp only at h7
        rw [his] at h7
        subst h7
        refine ⟨fun _ => trivial, ?_⟩
        rintro ⟨r8, _⟩ h8
        have h8 := (h8 rfl).2
        simp only at h8
        subst h8
        refine ⟨fun _ => trivial, ?_⟩
        rintro ⟨r9, _⟩ h9
        have h9 := (h9 rfl).2
        simp only at h9
        have h9 : r9 = true := by rw [h9]; exact decide_eq_true (by trivial)
        subst h9
        refine ⟨fun h => by simp [sel] at h, fun _ => ⟨⟨n0, Int.le_refl _, by simp; omega, by omega⟩, ?_⟩⟩
        refine ⟨fun p => 0 ≤ p.1 ∧ p.1 ≤ (L.length : Int) ∧ p.2.1.length = ls.length ∧ (∀ m : Nat, m < ls.length → (p.2.1.getD m false = true ↔ used.getD m false = true ∨ ∃ e ∈ L.take p.1.toNat, e.1 = (m : Int))) ∧ p.2.2.1.length = n.toNat ∧ ∀ b : Int, 0 ≤ b → b < n → okS (p.2.2.1.getD b.toNat zr) (sumB ls b (L.take p.1.toNat)), fun p => ((L.length : Int) - p.1).toNat, ⟨Int.le_refl _, Int.natCast_nonneg _, i2, fun m hm => by simp, by simp, fun b b0 b1 => ?_⟩, ?_⟩
        · refine .inl ⟨?_, rfl⟩
          rw [List.getD_eq_getElem?_getD, List.getElem?_replicate]
          split <;> rfl
        rintro ⟨k, us, sums, _⟩ _ ⟨k0, k1, k2, k3, k4, k5⟩
        change Int at k
        change List Bool at us
        change List ((Bool × List Int) × List Int) at sums
        simp only at k0 k1 k2 k3 k4 k5 ⊢
        refine ⟨fun hk' => ?_, fun hk' => ?_⟩
        · have hk : k < (L.length : Int) := of_decide_eq_true hk'
          clear hk'
          have hel : gx dEE L k ∈ L := gx_mem k0 hk
          have hts : L.take (k + 1).toNat = L.take k.toNat ++ [gx dEE L k] := by
            rw [show (k + 1).toNat = k.toNat + 1 from by omega, List.take_add_one, gx_get (d := dEE) k0 hk]; rfl
          obtain ⟨ep, ea⟩ := pm_val hpm hel
          have epm := hpm _ hel
          obtain ⟨m0, m1, m2⟩ := hmem _ hel
          have hone : (lnA ls (gx dEE L k).1).1 = (lnA ls (gx dEE L k).1).2 → k = 0 ∧ L.length = 1 := fun hs => by
            have hei : (gx dEE L k).1 = i := by
              by_cases h : (gx dEE L k).1 = i
              · exact h
              · exact absurd hs (treeF_line hok (Nat.le_refl _) (m2 h))
            rw [hei] at hs
            have := congrArg List.length (hselfl hs)
            simp at this; omega
          generalize gx dEE L k = e at *
          have hle : gx (0, 0) ls e.1 = lnA ls e.1 := gx_getD m0 m1
          rw [hle]
          have hin := nb _ (lnA_mem m0 m1)
          have hinc : ∀ b, sumB ls b (L.take (k + 1).toNat) = sumB ls b (L.take k.toNat) + inc ls b e := fun b => by
            rw [hts, sumB_append]; simp only [sumB]; omega
          have hincv : ∀ b, inc ls b e = rsgn e.2 * (dlt b (lnA ls e.1).1 - dlt b (lnA ls e.1).2) := fun _ => rfl
          have hbd : ∀ b, (sumB ls b (L.take k.toNat)).natAbs ≤ 12 := fun b => by
            have := sumB_abs (ls := ls) (b := b) (pm_take hpm k.toNat)
            rw [List.length_take] at this; omega
          obtain ⟨a0, a1, b0, b1⟩ := hin
          generalize lnA ls e.1 = l at *
          obtain ⟨wa, va⟩ := okS_val (k5 l.1 a0 a1) (by have := hbd l.1; omega)
          obtain ⟨wb, vb⟩ := okS_val (k5 l.2 b0 b1) (by have := hbd l.2; omega)
          have we : whole e.2 := by rw [ep]; exact whole_ri (by omega)
          have ve : rv e.2 = (rsgn e.2 : Rat) := by rw [ep, rv_ri, rsgn_ri]; congr 1; rcases epm with h | h <;> rw [h, rsgn_ri] <;> rfl
          have hs11 : rc (rv (sums.getD l.1.toNat zr) + rv e.2) = ri (sumB ls l.1 (L.take k.toNat) + rsgn e.2) := by rw [va, ve, ← Rat.intCast_add, rc_int]
          have hs12 : rc (rv (sums.getD l.2.toNat zr) - rv e.2) = ri (sumB ls l.2 (L.take k.toNat) - rsgn e.2) := by rw [vb, ve, ← Rat.intCast_sub, rc_int]
          have hz0 : rc (0 : Rat) = ri 0 := by rw [← rc_int]; rfl
          have hus : (us.set e.1.toNat true).length = ls.length ∧ ∀ m : Nat, m < ls.length → ((us.set e.1.toNat true).getD m false = true ↔ used.getD m false = true ∨ ∃ d ∈ L.take (k + 1).toNat, d.1 = (m : Int)) := by
            refine ⟨by rw [List.length_set]; exact k2, fun m hm => ?_⟩
            rw [List.getD_eq_getElem?_getD, List.getElem?_set, hts]
            by_cases hme : e.1.toNat = m
            · rw [if_pos hme, if_pos (by omega)]
              simp only [Option.getD_some, true_iff]
              exact .inr ⟨e, by simp, by omega⟩
            · rw [if_neg hme, ← List.getD_eq_getElem?_getD, k3 m hm]
              constructor
              · rintro (h | ⟨d, hd, hdm⟩)
                · exact .inl h
                · exact .inr ⟨d, List.mem_append.2 (.inl hd), hdm⟩
              · rintro (h | ⟨d, hd, hdm⟩)
                · exact .inl h
                · rcases List.mem_append.1 hd with hd | hd
                  · exact .inr ⟨d, hd, hdm⟩
                  · rw [List.mem_singleton.1 hd] at hdm; omega
          have hget : ∀ (s : List RatV) (c : Int) (v : RatV) (b : Int), 0 ≤ b → 0 ≤ c → c < (s.length : Int) → (s.set c.toNat v).getD b.toNat zr = if b = c then v else s.getD b.toNat zr := fun s c v b hb hc hcl => by
            rw [List.getD_eq_getElem?_getD, List.getElem?_set]
            by_cases h : b = c
            · subst h; rw [if_pos rfl, if_pos (by omega), if_pos rfl]; rfl
            · rw [if_neg (by omega), if_neg h, List.getD_eq_getElem?_getD]
          have hJ1 : l.1 ≠ l.2 → ((us.set e.1.toNat true).length = ls.length ∧ (∀ m : Nat, m < ls.length → ((us.set e.1.toNat true).getD m false = true ↔ used.getD m false = true ∨ ∃ d ∈ L.take (k + 1).toNat, d.1 = (m : Int)))) ∧ ((sums.set l.1.toNat (ri (sumB ls l.1 (L.take k.toNat) + rsgn e.2))).set l.2.toNat (ri (sumB ls l.2 (L.take k.toNat) - rsgn e.2))).length = n.toNat ∧ ∀ b : Int, 0 ≤ b → b < n → okS (((sums.set l.1.toNat (ri (sumB ls l.1 (L.take k.toNat) + rsgn e.2))).set l.2.toNat (ri (sumB ls l.2 (L.take k.toNat) - rsgn e.2))).getD b.toNat zr) (sumB ls b (L.take (k + 1).toNat)) := fun hne => by
            refine ⟨hus, by rw [List.length_set, List.length_set]; exact k4, fun b hb hbn => ?_⟩
            rw [hget _ _ _ b hb b0 (by rw [List.length_set]; omega), hget _ _ _ b hb a0 (by omega), hinc, hincv]
            unfold dlt
            by_cases h2 : b = l.2
            · subst h2
              rw [if_pos rfl, if_neg (fun h => hne h.symm), if_pos rfl]
              right; congr 1; omega
            · rw [if_neg h2, if_neg h2]
              by_cases h1 : b = l.1
              · subst h1
                rw [if_pos rfl, if_pos rfl]
                right; congr 1; omega
              · rw [if_neg h1, if_neg h1]
                have := k5 b hb hbn
                rw [show sumB ls b (L.take k.toNat) + rsgn e.2 * (0 - 0) = sumB ls b (L.take k.toNat) from by omega]
                exact this
          have hJ2 : l.1 = l.2 → ((us.set e.1.toNat true).length = ls.length ∧ (∀ m : Nat, m < ls.length → ((us.set e.1.toNat true).getD m false = true ↔ used.getD m false = true ∨ ∃ d ∈ L.take (k + 1).toNat, d.1 = (m : Int)))) ∧ (((sums.set l.1.toNat (ri (sumB ls l.1 (L.take k.toNat) + rsgn e.2))).set l.2.toNat (ri (sumB ls l.2 (L.take k.toNat) - rsgn e.2))).set l.1.toNat (ri 0)).length = n.toNat ∧ ∀ b : Int, 0 ≤ b → b < n → okS ((((sums.set l.1.toNat (ri (sumB ls l.1 (L.take k.toNat) + rsgn e.2))).set l.2.toNat (ri (sumB ls l.2 (L.take k.toNat) - rsgn e.2))).set l.1.toNat (ri 0)).getD b.toNat zr) (sumB ls b (L.take (k + 1).toNat)) := fun heq => by
            obtain ⟨hk0, hL1⟩ := hone heq
            refine ⟨hus, by rw [List.length_set, List.length_set, List.length_set]; exact k4, fun b hb hbn => ?_⟩
            have hsum0 : sumB ls b (L.take (k + 1).toNat) = 0 := by
              rw [List.take_of_length_le (by omega)]; exact hclosed b
            have hold : sumB ls b (L.take k.toNat) = 0 := by rw [hk0]; rfl
            rw [hsum0, hget _ _ _ b hb a0 (by rw [List.length_set, List.length_set]; omega), hget _ _ _ b hb b0 (by rw [List.length_set]; omega), hget _ _ _ b hb a0 (by omega)]
            by_cases h1 : b = l.1
            · rw [if_pos h1]; exact .inr rfl
            · rw [if_neg h1, if_neg (by rw [← heq]; exact h1), if_neg h1]
              have := k5 b hb hbn
              rw [hold] at this
              exact this
          have ra : 0 ≤ l.1 ∧ l.1 < (sums.length : Int) := ⟨a0, by omega⟩
          have rb : 0 ≤ l.2 ∧ l.2 < (sums.length : Int) := ⟨b0, by omega⟩
          refine ⟨fun p => (p.1.length = ls.length ∧ (∀ m : Nat, m < ls.length → (p.1.getD m false = true ↔ used.getD m false = true ∨ ∃ d ∈ L.take (k + 1).toNat, d.1 = (m : Int)))) ∧ p.2.1.length = n.toNat ∧ ∀ b : Int, 0 ≤ b → b < n → okS (p.2.1.getD b.toNat zr) (sumB ls b (L.take (k + 1).toNat)), ⟨⟨k0, hk⟩, fun _ => trivial, ?_⟩, ?_⟩
          · rintro ⟨r10, _⟩ h10
            simp only at h10 ⊢
            refine ⟨fun h => ?_, fun _ => ⟨⟨m0, by omega⟩, ⟨m0, m1⟩, ⟨by decide, by decide⟩, ⟨by decide, by decide⟩, ⟨by decide, by decide⟩, ra, ⟨by decide, by decide⟩, rb, ?_⟩⟩
            · exfalso
              rw [sel_and] at h
              simp only [Bool.and_eq_true, decide_eq_true_eq, Bool.not_eq_true'] at h
              obtain ⟨h1, h2⟩ := h
              have := (h10 (decide_eq_true h1)).2
              rw [this, decide_eq_true (m2 h1)] at h2
              cases h2
            · repeat' first
                | exact ⟨wa, we⟩
                | exact ⟨wb, we⟩
                | exact ra
                | exact rb
                | exact ⟨Int.le_refl _, by decide⟩
                | exact ⟨by decide, by decide⟩
                | (intro hpq; exact hJ1 (of_decide_eq_false hpq))
                | (intro hpq
                   have hpq2 := of_decide_eq_true hpq
                   refine ⟨⟨by decide, by decide⟩, trivial, ?_⟩
                   rintro ⟨r, _⟩ _ hr
                   simp only at hr ⊢
                   rw [hz0] at hr
                   subst hr
                   exact ⟨⟨ra.1, by simp only [List.length_set]; exact ra.2⟩, hJ2 hpq2⟩)
                | exact ⟨rb.1, by simp only [List.length_set]; exact rb.2⟩
                | (rintro ⟨r, _⟩ _ hr
                   simp only at hr ⊢
                   first
                     | rw [show rc (rv (List.getD sums l.1.toNat ((false, []), [])) + rv e.2) = _ from hs11] at hr
                     | rw [show rc (rv (List.getD sums l.2.toNat ((false, []), [])) - rv e.2) = _ from hs12] at hr
                   subst hr)
                | refine ⟨?_, ?_⟩
          · rintro ⟨us2, sums2, _⟩ _ ⟨⟨q1, q2⟩, q3, q4⟩
            simp only at q1 q2 q3 q4 ⊢
            rw [wr (by omega) (by omega)]
            exact ⟨⟨by omega, by omega, q1, q2, q3, q4⟩, by omega⟩
        · have hk := of_decide_eq_false hk'
          rw [take_all (by omega)] at k3 k5
          refine ⟨fun p => 0 ≤ p.1 ∧ p.1 ≤ n, fun p => (n - p.1).toNat, ⟨Int.le_refl _, n0⟩, ?_⟩
          rintro ⟨b, _⟩ _ ⟨b0, b1⟩
          change Int at b
          simp only at b0 b1 ⊢
          refine ⟨fun hb' => ?_, fun _ => ⟨k2, fun m hm => ?_⟩⟩
          · have hb : b < n := of_decide_eq_true hb'
            have hs := k5 b b0 hb
            rw [hclosed] at hs
            obtain ⟨w0, v0⟩ := okS_val hs (by decide)
            refine ⟨⟨b0, by omega⟩, w0, ?_⟩
            rintro ⟨r, _⟩ _ hr
            have hr : r = (rv (sums.getD b.toNat zr)).num.sign := hr
            rw [v0] at hr
            have hr : r = 0 := hr
            subst hr
            refine ⟨fun h => absurd rfl (of_decide_eq_true h), fun _ => ?_⟩
            rw [wr (by omega) (by omega)]
            exact ⟨⟨by omega, by omega⟩, by omega⟩
          · show us.getD m false = true ↔ _
            rw [k3 m hm, i3 m hm, hidx m hm]
            constructor
            · rintro (⟨q, q0, q1, q2, q3⟩ | h)
              · exact ⟨q, q0, by omega, q2, q3⟩
              · exact ⟨i, i0, by omega, hnf, h⟩
            · rintro ⟨q, q0, q1, q2, q3⟩
              by_cases hqi : q = i
              · subst hqi; exact .inr q3
              · exact .inl ⟨q, q0, by omega, q2, q3⟩
    · rintro ⟨us, _⟩ _ ⟨u1, u2⟩
      simp only at u1 u2 ⊢
      rw [wr (by omega) (by omega)]
      exact ⟨⟨by omega, by omega, u1, u2⟩, by omega⟩
  · have hi := of_decide_eq_false hi'
    have hie : i = (ls.length : Int) := by omega
    subst hie
    refine ⟨fun p => 0 ≤ p.1 ∧ p.1 ≤ (ls.length : Int), fun p => ((ls.length : Int) - p.1).toNat, ⟨Int.le_refl _, Int.natCast_nonneg _⟩, ?_⟩
    rintro ⟨m, _⟩ _ ⟨m0, m1⟩
    change Int at m
    simp only at m0 m1 ⊢
    refine ⟨fun hm' => ?_, fun _ => trivial⟩
    have hm : m < (ls.length : Int) := of_decide_eq_true hm'
    refine ⟨⟨m0, by omega⟩, trivial, ?_⟩
    rintro ⟨r, _⟩ _ hr
    change Bool at r
    simp only at hr ⊢
    have hne : r ≠ used.getD m.toNat false := by
      have hu := i3 m.toNat (by omega)
      rw [show ((m.toNat : Nat) : Int) = m from by omega] at hu
      have hiff : m ∈ bridgesF n ls ↔ ¬ (used.getD m.toNat false = true) := by
        rw [hu]
        by_cases hmf : m ∈ forestF n ls
        · exact bridge_in hok hmf
        · constructor
          · intro h; exact absurd h (bridge_out hok m0 hmf)
          · intro h
            exact absurd ⟨m, m0, hm, hmf, by rw [loopC_self]; decide⟩ h
      intro he
      rw [hr] at he
      by_cases hb : m ∈ bridgesF n ls
      · rw [decide_eq_true hb] at he
        exact hiff.1 hb he.symm
      · rw [decide_eq_false hb] at he
        exact hb (hiff.2 (by rw [← he]; decide))
    refine ⟨fun h => absurd (by simpa using h) hne, fun _ => ?_⟩
    rw [wr (by omega) (by omega)]
    exact ⟨⟨by omega, by omega⟩, by omega⟩
end Go.Proofs.YtppgpdigopffbaaGreat
namespace Go.Proofs.YtppgpdigopffbaaGreat
open Go.Vc Go.Gw
theorem ok_r03_Sign : Meets Tryz.prog 22 s_r03_Sign := m_r03_Sign (spOk_cons ok_r03_Norm (spOk_cons ok_r02_Sign (spOk_nil))) vc_r03_Sign_ok
theorem ok_r06_Valid : Meets Tryz.prog 15 s_r06_Valid := m_r06_Valid (spOk_cons ok_r03_Sign (spOk_nil)) vc_r06_Valid_ok
theorem ok_r01_Add : Meets Tryz.prog 76 s_r01_Add := m_r01_Add (spOk_cons ok_r01_Trim (spOk_nil)) vc_r01_Add_ok
theorem ok_r01_Compare : Meets Tryz.prog 100 s_r01_Compare := m_r01_Compare (spOk_cons ok_r01_Trim (spOk_nil)) vc_r01_Compare_ok
theorem ok_r01_Sub : Meets Tryz.prog 77 s_r01_Sub := m_r01_Sub (spOk_cons ok_r01_Trim (spOk_cons ok_r01_Compare (spOk_nil))) vc_r01_Sub_ok
theorem ok_r02_Add : Meets Tryz.prog 49 s_r02_Add := m_r02_Add (spOk_cons ok_r02_Make (spOk_cons ok_r01_Add (spOk_cons ok_r01_Sub (spOk_nil)))) vc_r02_Add_ok
theorem ok_r01_Mul : Meets Tryz.prog 78 s_r01_Mul := m_r01_Mul (spOk_cons ok_r01_Trim (spOk_nil)) vc_r01_Mul_ok
theorem ok_r02_Mul : Meets Tryz.prog 50 s_r02_Mul := m_r02_Mul (spOk_cons ok_r02_Make (spOk_cons ok_r01_Mul (spOk_nil))) vc_r02_Mul_ok
theorem ok_r03_den : Meets Tryz.prog 51 s_r03_den := m_r03_den (spOk_cons ok_r03_Norm (spOk_nil)) vc_r03_den_ok
theorem ok_r03_Add : Meets Tryz.prog 19 s_r03_Add := m_r03_Add (spOk_cons ok_r03_Make (spOk_cons ok_r03_Norm (spOk_cons ok_r02_Add (spOk_cons ok_r02_Mul (spOk_cons ok_r03_den (spOk_nil)))))) vc_r03_Add_ok
theorem ok_r06_Get : Meets Tryz.prog 17 s_r06_Get := m_r06_Get (spOk_cons ok_r03_Add (spOk_cons ok_r03_Zero (spOk_nil))) vc_r06_Get_ok
theorem ok_r03_Neg : Meets Tryz.prog 52 s_r03_Neg := m_r03_Neg (spOk_cons ok_r03_Make (spOk_cons ok_r03_Norm (spOk_cons ok_r03_den (spOk_cons ok_r02_Neg (spOk_nil))))) vc_r03_Neg_ok
theorem ok_r03_Sub : Meets Tryz.prog 20 s_r03_Sub := m_r03_Sub (spOk_cons ok_r03_Add (spOk_cons ok_r03_Neg (spOk_nil))) vc_r03_Sub_ok
theorem ok_law19_TopologyLoops : Meets Tryz.prog 4 s_law19_TopologyLoops := m_law19_TopologyLoops (spOk_cons ok_law19_network (spOk_cons ok_topology_Forest (spOk_cons ok_law19_awake (spOk_cons ok_topology_Bridges (spOk_cons ok_topology_Loop (spOk_cons ok_law19_has (spOk_cons ok_r06_Valid (spOk_cons ok_r03_Equal (spOk_cons ok_r06_Get (spOk_cons ok_r03_FromInt (spOk_cons ok_r03_Add (spOk_cons ok_r03_Sub (spOk_cons ok_r03_Zero (spOk_cons ok_r03_Sign (spOk_nil))))))))))))))) vc_law19_TopologyLoops_ok
end Go.Proofs.YtppgpdigopffbaaGreat
