/- Parts: Tc, TPI, Tg, TPJ, Th, TPK, Ti, TPL, Tj, TPM, Tk. -/
import Derived.Test.YtppgpdigopffbaaGreatK10E
namespace Go.Proofs.YtppgpdigopffbaaGreat
open Go.Vc Go.Gw
noncomputable def sp_topology_Bridges_99 : Specs := []
def an_topology_Bridges_99 : An := { loop := [(1, ⟨[1], [0, 1, 3, 4, 5, 6], [(0, false, [.val (.int .i64)])], [], [(2, .row (.int .i64) 3)]⟩)], plan := [(2, [0, 2, 3, 6, 8], [10], true, (.q 0 (.p 1 (.q 2 (.q 3 (.p 4 (.p 5 (.q 6 (.p 7 (.q 8 (.p 9 (.e 10 .done))))))))))))] }
noncomputable def sp_topology_Bridges_103 : Specs := []
def an_topology_Bridges_103 : An := { loop := [(1, ⟨[1], [0, 1, 3, 4, 5, 6], [(0, false, [.val (.int .i64)])], [], [(2, .row (.int .i64) 3)]⟩)], plan := [(2, [0, 2, 3, 6, 8], [10], true, (.q 0 (.p 1 (.q 2 (.q 3 (.p 4 (.p 5 (.q 6 (.p 7 (.q 8 (.p 9 (.e 10 .done))))))))))))] }
noncomputable def sp_topology_Bridges_134 : Specs := []
def an_topology_Bridges_134 : An := { loop := [(1, ⟨[1], [0, 1, 3, 4, 5], [(0, false, [.val (.int .i64)])], [], [(2, .row (.int .i64) 3)]⟩)], plan := [(2, [0, 2, 3, 6, 8], [10], true, (.q 0 (.p 1 (.q 2 (.q 3 (.p 4 (.p 5 (.q 6 (.p 7 (.q 8 (.p 9 (.e 10 .done))))))))))))] }
noncomputable def sp_topology_Bridges_138 : Specs := [(40, s_topology_Bridges_2), (64, s_slices_IndexFunc_Sint_int)]
def an_topology_Bridges_138 : An := { join := [(6, ⟨[0, 1, 6], [4, 5], [(5, false, [.val (.int .i64)])], [], [(0, .row (.int .i64) 3)]⟩)], loop := [(5, ⟨[0, 1], [4, 5], [(5, false, [.val (.int .i64)]), (6, false, [.val (.int .i64)])], [], [(0, .row (.int .i64) 3)]⟩)] }
def an_topology_Bridges : An := { join := [(12, ⟨[0, 1, 7, 10, 11, 43, 44, 45], [0], [], [], [(1, .row (.int .i64) 3)]⟩), (30, ⟨[7, 10, 11, 14, 16, 17, 82, 83, 84], [0, 1, 2, 3, 4, 5], [(22, false, [.val (.int .i64)]), (23, false, [.val (.int .i64)])], [], []⟩), (33, ⟨[7, 10, 11, 14, 16, 17, 82, 83, 84], [0, 1, 3, 5], [], [], [(2, .row (.int .i64) 3), (4, .map false (.int .i64) false .bool)]⟩)], loop := [(8, ⟨[0, 1, 7, 10, 11, 43, 44], [0], [(45, false, [.val (.int .i64)])], [], [(1, .row (.int .i64) 3)]⟩), (15, ⟨[1, 7, 10, 11, 14, 71], [0, 1, 3], [(72, false, [.val (.int .i64)])], [], [(2, .row (.int .i64) 3)]⟩), (27, ⟨[7, 10, 11, 14, 16, 17, 82, 83, 84], [0, 1, 3, 5], [(22, false, [.val (.int .i64)]), (23, false, [.val (.int .i64)])], [], [(2, .row (.int .i64) 3), (4, .map false (.int .i64) false .bool)]⟩), (22, ⟨[7, 10, 11, 14, 16, 17, 82, 83], [0, 1, 3, 5], [(84, false, [.val (.int .i64)])], [], [(2, .row (.int .i64) 3), (4, .map false (.int .i64) false .bool)]⟩)], plan := [(26, [2], [3, 7], false, (.p 0 (.p 1 (.q 2 (.p 4 (.p 5 (.or 3 (.e 6 (.e 7 (.p 8 (.p 9 .done)))) (.e 6 (.e 3 (.e 7 (.p 8 (.p 9 .done)))))))))))), (28, [3, 7], [], true, (.p 0 (.p 1 (.p 2 (.q 3 (.p 4 (.p 5 (.p 6 (.q 7 (.p 8 .done)))))))))), (30, [0, 5], [6], true, (.q 0 (.p 1 (.p 2 (.p 3 (.p 4 (.q 5 (.e 6 .done)))))))), (31, [0, 6], [8], true, (.q 0 (.p 1 (.p 2 (.p 3 (.p 4 (.p 5 (.q 6 (.p 7 (.e 8 .done))))))))))] }
noncomputable def sp_topology_Bridges : Specs := [(30, s_topology_check), (31, s_topology_tree), (36, s_topology_roots), (38, s_slices_BinarySearch_Sint_int), (37, inlSpec (mkInl ⟨Tryz.prog, tys⟩ [(99, sp_topology_Bridges_99, an_topology_Bridges_99), (103, sp_topology_Bridges_103, an_topology_Bridges_103), (134, sp_topology_Bridges_134, an_topology_Bridges_134)] Tryz.f37.results.toList (Tryz.f37.body.getD .skip) Tryz.f37.ntmps)), (39, inlSpec (mkInl ⟨Tryz.prog, tys⟩ [(138, sp_topology_Bridges_138, an_topology_Bridges_138)] Tryz.f39.results.toList (Tryz.f39.body.getD .skip) Tryz.f39.ntmps))]
def vc_topology_Bridges : dens s_topology_Bridges.args → Prop := fun (x : Int × List (Int × Int) × Unit) => True ∧ ∀ (r : Int × Unit), In64 r.fst ∧ True → r.fst = netE x.fst x.snd.fst → (decide (r.fst ≠ (0 : Int)) = true → (netE x.fst x.snd.fst ≠ (0 : Int) → nilL Int = [] ∧ r.fst = netE x.fst x.snd.fst) ∧ (netE x.fst x.snd.fst = (0 : Int) → nilL Int = bridgesF x.fst x.snd.fst ∧ r.fst = (0 : Int))) ∧ (decide (r.fst ≠ (0 : Int)) = false → netOk x.fst x.snd.fst ∧ ∀ (r_1 : List Int × List (List (Int × Int)) × Unit), WfI r_1.fst ∧ (List.length r_1.snd.fst ≤ 9223372036854775807 ∧ ∀ (x : List (Int × Int)), x ∈ r_1.snd.fst → x.length ≤ 9223372036854775807 ∧ ∀ (x_1 : Int × Int), x_1 ∈ x → In64 x_1.fst ∧ In64 x_1.snd) ∧ True → r_1.fst = forestF x.fst x.snd.fst ∧ r_1.snd.fst = nextT x.fst x.snd.fst → (∃ (n : Int), ∃ (ls : List Ln), netOk n ls ∧ r_1.snd.fst = nextT n ls) ∧ ∀ (r_2 : List Int × List (Int × Int) × Unit), WfI r_2.fst ∧ (List.length r_2.snd.fst ≤ 9223372036854775807 ∧ ∀ (x : Int × Int), x ∈ r_2.snd.fst → In64 x.fst ∧ In64 x.snd) ∧ True → (∀ (n : Int) (ls : List Ln), netOk n ls → r_1.snd.fst = nextT n ls → rootsP n ls r_2.fst r_2.snd.fst) → ((0 : Int) ≤ x.fst ∧ x.fst ≤ x.fst ∧ (↑(8 : Nat) : Int) * x.fst ≤ (281474976710656 : Int) ∧ x.fst ≤ (9223372036854775807 : Int)) ∧ ∃ (I : Int × List Int × Unit → Prop), ∃ (μ : Int × List Int × Unit → Nat), I ((0 : Int), List.replicate (Int.toNat x.fst) (0 : Int), ()) ∧ ∀ (p : Int × List Int × Unit), In64 p.fst ∧ WfI p.snd.fst ∧ True → I p → (decide (p.fst < (↑(List.length r_2.fst) : Int)) = true → ∃ (J : List Int × Unit → Prop), (((0 : Int) ≤ p.fst ∧ p.fst < (↑(List.length r_2.fst) : Int)) ∧ ((0 : Int) ≤ gx (0 : Int) r_2.fst p.fst ∧ gx (0 : Int) r_2.fst p.fst < (↑(List.length r_2.snd.fst) : Int)) ∧ ((0 : Int) ≤ (0 : Int) ∧ (0 : Int) < (↑(2 : Nat) : Int)) ∧ (decide ((0 : Int) ≤ (gx ((0 : Int), (0 : Int)) r_2.snd.fst (gx (0 : Int) r_2.fst p.fst)).fst) = true → ((0 : Int) ≤ gx (0 : Int) r_2.fst p.fst ∧ gx (0 : Int) r_2.fst p.fst < (↑(List.length r_2.snd.fst) : Int)) ∧ ((0 : Int) ≤ (1 : Int) ∧ (1 : Int) < (↑(2 : Nat) : Int)) ∧ ((0 : Int) ≤ (gx ((0 : Int), (0 : Int)) r_2.snd.fst (gx (0 : Int) r_2.fst p.fst)).snd ∧ (gx ((0 : Int), (0 : Int)) r_2.snd.fst (gx (0 : Int) r_2.fst p.fst)).snd < (↑(List.length p.snd.fst) : Int)) ∧ ((0 : Int) ≤ gx (0 : Int) r_2.fst p.fst ∧ gx (0 : Int) r_2.fst p.fst < (↑(List.length p.snd.fst) : Int)) ∧ J (List.set p.snd.fst (gx (0 : Int) r_2.fst p.fst).toNat (IntKind.i64.wrap (List.getD p.snd.fst (Int.toNat (gx ((0 : Int), (0 : Int)) r_2.snd.fst (gx (0 : Int) r_2.fst p.fst)).snd) (0 : Int) + (1 : Int))), ())) ∧ (decide ((0 : Int) ≤ (gx ((0 : Int), (0 : Int)) r_2.snd.fst (gx (0 : Int) r_2.fst p.fst)).fst) = false → J (p.snd.fst, ()))) ∧ ∀ (p_1 : List Int × Unit), WfI p_1.fst ∧ True → J p_1 → I (IntKind.i64.wrap (p.fst + (1 : Int)), p_1) ∧ μ (IntKind.i64.wrap (p.fst + (1 : Int)), p_1) < μ p) ∧ (decide (p.fst < (↑(List.length r_2.fst) : Int)) = false → ((0 : Int) ≤ x.fst ∧ x.fst ≤ x.fst ∧ (↑(8 : Nat) : Int) * x.fst ≤ (281474976710656 : Int) ∧ x.fst ≤ (9223372036854775807 : Int)) ∧ ∃ (I : Int × List Int × Unit → Prop), ∃ (μ : Int × List Int × Unit → Nat), I ((0 : Int), List.replicate (Int.toNat x.fst) (0 : Int), ()) ∧ ∀ (p_1 : Int × List Int × Unit), In64 p_1.fst ∧ WfI p_1.snd.fst ∧ True → I p_1 → (decide (p_1.fst < (↑(List.replicate (Int.toNat x.fst) (0 : Int)).length : Int)) = true → ((0 : Int) ≤ p_1.fst ∧ p_1.fst < (↑(List.length p_1.snd.fst) : Int)) ∧ I (IntKind.i64.wrap (p_1.fst + (1 : Int)), List.set p_1.snd.fst (Int.toNat p_1.fst) p_1.fst, ()) ∧ μ (IntKind.i64.wrap (p_1.fst + (1 : Int)), List.set p_1.snd.fst (Int.toNat p_1.fst) p_1.fst, ()) < μ p_1) ∧ (decide (p_1.fst < (↑(List.replicate (Int.toNat x.fst) (0 : Int)).length : Int)) = false → ∃ (I : Int × List Int × List (Int × Bool) × Unit → Prop), ∃ (μ : Int × List Int × List (Int × Bool) × Unit → Nat), I ((0 : Int), p_1.snd.fst, [], ()) ∧ ∀ (p_2 : Int × List Int × List (Int × Bool) × Unit), In64 p_2.fst ∧ WfI p_2.snd.fst ∧ (∀ (x : Int × Bool), x ∈ p_2.snd.snd.fst → In64 x.fst ∧ True) ∧ True → I p_2 → (decide (p_2.fst < (↑(List.length x.snd.fst) : Int)) = true → ∃ (J : List Int × List (Int × Bool) × Unit → Prop), (((0 : Int) ≤ p_2.fst ∧ p_2.fst < (↑(List.length x.snd.fst) : Int)) ∧ (List.Pairwise (fun (x1 x2 : Int) => x1 < x2) r_1.fst ∧ List.length r_1.fst ≤ (100000 : Nat)) ∧ ∀ (r_3 : Int × Bool × Unit), In64 r_3.fst ∧ True ∧ True → r_3.snd.fst = decide (p_2.fst ∈ r_1.fst) → (r_3.snd.fst = true → J (p_2.snd.fst, p_2.snd.snd.fst, ())) ∧ (r_3.snd.fst = false → ((0 : Int) ≤ (0 : Int) ∧ (0 : Int) < (↑(2 : Nat) : Int)) ∧ ((0 : Int) ≤ (1 : Int) ∧ (1 : Int) < (↑(2 : Nat) : Int)) ∧ (∃ (I : Int × List Int × Unit → Prop), ∃ (μ : Int × List Int × Unit → Nat), I ((gx ((0 : Int), (0 : Int)) x.snd.fst p_2.fst).fst, p_2.snd.fst, ()) ∧ ∀ (p_3 : Int × List Int × Unit), In64 p_3.fst ∧ WfI p_3.snd.fst ∧ True → I p_3 → ((0 : Int) ≤ p_3.fst ∧ p_3.fst < (↑(List.length p_3.snd.fst) : Int)) ∧ (decide (List.getD p_3.snd.fst (Int.toNat p_3.fst) (0 : Int) ≠ p_3.fst) = true → ((0 : Int) ≤ p_3.fst ∧ p_3.fst < (↑(List.length p_3.snd.fst) : Int)) ∧ ((0 : Int) ≤ List.getD p_3.snd.fst (Int.toNat p_3.fst) (0 : Int) ∧ List.getD p_3.snd.fst (Int.toNat p_3.fst) (0 : Int) < (↑(List.length p_3.snd.fst) : Int)) ∧ ((0 : Int) ≤ p_3.fst ∧ p_3.fst < (↑(List.length p_3.snd.fst) : Int)) ∧ ((0 : Int) ≤ p_3.fst ∧ p_3.fst < (↑(List.set p_3.snd.fst (Int.toNat p_3.fst) (List.getD p_3.snd.fst (List.getD p_3.snd.fst (Int.toNat p_3.fst) (0 : Int)).toNat (0 : Int))).length : Int)) ∧ I ((List.set p_3.snd.fst (Int.toNat p_3.fst) (List.getD p_3.snd.fst (List.getD p_3.snd.fst (Int.toNat p_3.fst) (0 : Int)).toNat (0 : Int))).getD (Int.toNat p_3.fst) (0 : Int), List.set p_3.snd.fst (Int.toNat p_3.fst) (List.getD p_3.snd.fst (List.getD p_3.snd.fst (Int.toNat p_3.fst) (0 : Int)).toNat (0 : Int)), ()) ∧ μ ((List.set p_3.snd.fst (Int.toNat p_3.fst) (List.getD p_3.snd.fst (List.getD p_3.snd.fst (Int.toNat p_3.fst) (0 : Int)).toNat (0 : Int))).getD (Int.toNat p_3.fst) (0 : Int), List.set p_3.snd.fst (Int.toNat p_3.fst) (List.getD p_3.snd.fst (List.getD p_3.snd.fst (Int.toNat p_3.fst) (0 : Int)).toNat (0 : Int)), ()) < μ p_3) ∧ (decide (List.getD p_3.snd.fst (Int.toNat p_3.fst) (0 : Int) ≠ p_3.fst) = false → ∃ (I : Int × List Int × Unit → Prop), ∃ (μ : Int × List Int × Unit → Nat), I ((gx ((0 : Int), (0 : Int)) x.snd.fst p_2.fst).snd, p_3.snd.fst, ()) ∧ ∀ (p_4 : Int × List Int × Unit), In64 p_4.fst ∧ WfI p_4.snd.fst ∧ True → I p_4 → ((0 : Int) ≤ p_4.fst ∧ p_4.fst < (↑(List.length p_4.snd.fst) : Int)) ∧ (decide (List.getD p_4.snd.fst (Int.toNat p_4.fst) (0 : Int) ≠ p_4.fst) = true → ((0 : Int) ≤ p_4.fst ∧ p_4.fst < (↑(List.length p_4.snd.fst) : Int)) ∧ ((0 : Int) ≤ List.getD p_4.snd.fst (Int.toNat p_4.fst) (0 : Int) ∧ List.getD p_4.snd.fst (Int.toNat p_4.fst) (0 : Int) < (↑(List.length p_4.snd.fst) : Int)) ∧ ((0 : Int) ≤ p_4.fst ∧ p_4.fst < (↑(List.length p_4.snd.fst) : Int)) ∧ ((0 : Int) ≤ p_4.fst ∧ p_4.fst < (↑(List.set p_4.snd.fst (Int.toNat p_4.fst) (List.getD p_4.snd.fst (List.getD p_4.snd.fst (Int.toNat p_4.fst) (0 : Int)).toNat (0 : Int))).length : Int)) ∧ I ((List.set p_4.snd.fst (Int.toNat p_4.fst) (List.getD p_4.snd.fst (List.getD p_4.snd.fst (Int.toNat p_4.fst) (0 : Int)).toNat (0 : Int))).getD (Int.toNat p_4.fst) (0 : Int), List.set p_4.snd.fst (Int.toNat p_4.fst) (List.getD p_4.snd.fst (List.getD p_4.snd.fst (Int.toNat p_4.fst) (0 : Int)).toNat (0 : Int)), ()) ∧ μ ((List.set p_4.snd.fst (Int.toNat p_4.fst) (List.getD p_4.snd.fst (List.getD p_4.snd.fst (Int.toNat p_4.fst) (0 : Int)).toNat (0 : Int))).getD (Int.toNat p_4.fst) (0 : Int), List.set p_4.snd.fst (Int.toNat p_4.fst) (List.getD p_4.snd.fst (List.getD p_4.snd.fst (Int.toNat p_4.fst) (0 : Int)).toNat (0 : Int)), ()) < μ p_4) ∧ (decide (List.getD p_4.snd.fst (Int.toNat p_4.fst) (0 : Int) ≠ p_4.fst) = false → ∃ (I : Int × Int × List Int × List (Int × Bool) × Unit → Prop), ∃ (μ : Int × Int × List Int × List (Int × Bool) × Unit → Nat), I (p_3.fst, p_4.fst, p_4.snd.fst, p_2.snd.snd.fst, ()) ∧ ∀ (p_5 : Int × Int × List Int × List (Int × Bool) × Unit), In64 p_5.fst ∧ In64 p_5.snd.fst ∧ WfI p_5.snd.snd.fst ∧ (∀ (x : Int × Bool), x ∈ p_5.snd.snd.snd.fst → In64 x.fst ∧ True) ∧ True → I p_5 → (decide (p_5.fst ≠ p_5.snd.fst) = true → ∃ (J : Int × Int × Unit → Prop), (((0 : Int) ≤ p_5.fst ∧ p_5.fst < (↑(List.length p.snd.fst) : Int)) ∧ ((0 : Int) ≤ p_5.snd.fst ∧ p_5.snd.fst < (↑(List.length p.snd.fst) : Int)) ∧ (decide (List.getD p.snd.fst (Int.toNat p_5.fst) (0 : Int) < List.getD p.snd.fst (Int.toNat p_5.snd.fst) (0 : Int)) = true → J (p_5.snd.fst, p_5.fst, ())) ∧ (decide (List.getD p.snd.fst (Int.toNat p_5.fst) (0 : Int) < List.getD p.snd.fst (Int.toNat p_5.snd.fst) (0 : Int)) = false → J (p_5.fst, p_5.snd.fst, ()))) ∧ ∀ (p_6 : Int × Int × Unit), In64 p_6.fst ∧ In64 p_6.snd.fst ∧ True → J p_6 → ((0 : Int) ≤ p_6.fst ∧ p_6.fst < (↑(List.length r_2.snd.fst) : Int)) ∧ ((0 : Int) ≤ (0 : Int) ∧ (0 : Int) < (↑(2 : Nat) : Int)) ∧ ((0 : Int) ≤ p_6.fst ∧ p_6.fst < (↑(List.length r_2.snd.fst) : Int)) ∧ ((0 : Int) ≤ (1 : Int) ∧ (1 : Int) < (↑(2 : Nat) : Int)) ∧ ((0 : Int) ≤ p_6.fst ∧ p_6.fst < (↑(List.length p_5.snd.snd.fst) : Int)) ∧ ∃ (I_1 : Int × List Int × Unit → Prop), ∃ (μ_1 : Int × List Int × Unit → Nat), I_1 (p_6.fst, List.set p_5.snd.snd.fst (Int.toNat p_6.fst) (gx ((0 : Int), (0 : Int)) r_2.snd.fst p_6.fst).snd, ()) ∧ ∀ (p_7 : Int × List Int × Unit), In64 p_7.fst ∧ WfI p_7.snd.fst ∧ True → I_1 p_7 → ((0 : Int) ≤ p_7.fst ∧ p_7.fst < (↑(List.length p_7.snd.fst) : Int)) ∧ (decide (List.getD p_7.snd.fst (Int.toNat p_7.fst) (0 : Int) ≠ p_7.fst) = true → ((0 : Int) ≤ p_7.fst ∧ p_7.fst < (↑(List.length p_7.snd.fst) : Int)) ∧ ((0 : Int) ≤ List.getD p_7.snd.fst (Int.toNat p_7.fst) (0 : Int) ∧ List.getD p_7.snd.fst (Int.toNat p_7.fst) (0 : Int) < (↑(List.length p_7.snd.fst) : Int)) ∧ ((0 : Int) ≤ p_7.fst ∧ p_7.fst < (↑(List.length p_7.snd.fst) : Int)) ∧ ((0 : Int) ≤ p_7.fst ∧ p_7.fst < (↑(List.set p_7.snd.fst (Int.toNat p_7.fst) (List.getD p_7.snd.fst (List.getD p_7.snd.fst (Int.toNat p_7.fst) (0 : Int)).toNat (0 : Int))).length : Int)) ∧ I_1 ((List.set p_7.snd.fst (Int.toNat p_7.fst) (List.getD p_7.snd.fst (List.getD p_7.snd.fst (Int.toNat p_7.fst) (0 : Int)).toNat (0 : Int))).getD (Int.toNat p_7.fst) (0 : Int), List.set p_7.snd.fst (Int.toNat p_7.fst) (List.getD p_7.snd.fst (List.getD p_7.snd.fst (Int.toNat p_7.fst) (0 : Int)).toNat (0 : Int)), ()) ∧ μ_1 ((List.set p_7.snd.fst (Int.toNat p_7.fst) (List.getD p_7.snd.fst (List.getD p_7.snd.fst (Int.toNat p_7.fst) (0 : Int)).toNat (0 : Int))).getD (Int.toNat p_7.fst) (0 : Int), List.set p_7.snd.fst (Int.toNat p_7.fst) (List.getD p_7.snd.fst (List.getD p_7.snd.fst (Int.toNat p_7.fst) (0 : Int)).toNat (0 : Int)), ()) < μ_1 p_7) ∧ (decide (List.getD p_7.snd.fst (Int.toNat p_7.fst) (0 : Int) ≠ p_7.fst) = false → I (p_7.fst, p_6.snd.fst, p_7.snd.fst, mput (Ty.int IntKind.i64) (gx ((0 : Int), (0 : Int)) r_2.snd.fst p_6.fst).fst true p_5.snd.snd.snd.fst, ()) ∧ μ (p_7.fst, p_6.snd.fst, p_7.snd.fst, mput (Ty.int IntKind.i64) (gx ((0 : Int), (0 : Int)) r_2.snd.fst p_6.fst).fst true p_5.snd.snd.snd.fst, ()) < μ p_5)) ∧ (decide (p_5.fst ≠ p_5.snd.fst) = false → J (p_5.snd.snd.fst, p_5.snd.snd.snd.fst, ()))))) ∧ ∃ (I : Int × List Int × Unit → Prop), ∃ (μ : Int × List Int × Unit → Nat), I ((gx ((0 : Int), (0 : Int)) x.snd.fst p_2.fst).fst, p_2.snd.fst, ()) ∧ ∀ (p_3 : Int × List Int × Unit), In64 p_3.fst ∧ WfI p_3.snd.fst ∧ True → I p_3 → ((0 : Int) ≤ p_3.fst ∧ p_3.fst < (↑(List.length p_3.snd.fst) : Int)) ∧ (decide (List.getD p_3.snd.fst (Int.toNat p_3.fst) (0 : Int) ≠ p_3.fst) = true → ((0 : Int) ≤ p_3.fst ∧ p_3.fst < (↑(List.length p_3.snd.fst) : Int)) ∧ ((0 : Int) ≤ List.getD p_3.snd.fst (Int.toNat p_3.fst) (0 : Int) ∧ List.getD p_3.snd.fst (Int.toNat p_3.fst) (0 : Int) < (↑(List.length p_3.snd.fst) : Int)) ∧ ((0 : Int) ≤ p_3.fst ∧ p_3.fst < (↑(List.length p_3.snd.fst) : Int)) ∧ ((0 : Int) ≤ p_3.fst ∧ p_3.fst < (↑(List.set p_3.snd.fst (Int.toNat p_3.fst) (List.getD p_3.snd.fst (List.getD p_3.snd.fst (Int.toNat p_3.fst) (0 : Int)).toNat (0 : Int))).length : Int)) ∧ I ((List.set p_3.snd.fst (Int.toNat p_3.fst) (List.getD p_3.snd.fst (List.getD p_3.snd.fst (Int.toNat p_3.fst) (0 : Int)).toNat (0 : Int))).getD (Int.toNat p_3.fst) (0 : Int), List.set p_3.snd.fst (Int.toNat p_3.fst) (List.getD p_3.snd.fst (List.getD p_3.snd.fst (Int.toNat p_3.fst) (0 : Int)).toNat (0 : Int)), ()) ∧ μ ((List.set p_3.snd.fst (Int.toNat p_3.fst) (List.getD p_3.snd.fst (List.getD p_3.snd.fst (Int.toNat p_3.fst) (0 : Int)).toNat (0 : Int))).getD (Int.toNat p_3.fst) (0 : Int), List.set p_3.snd.fst (Int.toNat p_3.fst) (List.getD p_3.snd.fst (List.getD p_3.snd.fst (Int.toNat p_3.fst) (0 : Int)).toNat (0 : Int)), ()) < μ p_3) ∧ (decide (List.getD p_3.snd.fst (Int.toNat p_3.fst) (0 : Int) ≠ p_3.fst) = false → ∃ (I : Int × List Int × Unit → Prop), ∃ (μ : Int × List Int × Unit → Nat), I ((gx ((0 : Int), (0 : Int)) x.snd.fst p_2.fst).snd, p_3.snd.fst, ()) ∧ ∀ (p_4 : Int × List Int × Unit), In64 p_4.fst ∧ WfI p_4.snd.fst ∧ True → I p_4 → ((0 : Int) ≤ p_4.fst ∧ p_4.fst < (↑(List.length p_4.snd.fst) : Int)) ∧ (decide (List.getD p_4.snd.fst (Int.toNat p_4.fst) (0 : Int) ≠ p_4.fst) = true → ((0 : Int) ≤ p_4.fst ∧ p_4.fst < (↑(List.length p_4.snd.fst) : Int)) ∧ ((0 : Int) ≤ List.getD p_4.snd.fst (Int.toNat p_4.fst) (0 : Int) ∧ List.getD p_4.snd.fst (Int.toNat p_4.fst) (0 : Int) < (↑(List.length p_4.snd.fst) : Int)) ∧ ((0 : Int) ≤ p_4.fst ∧ p_4.fst < (↑(List.length p_4.snd.fst) : Int)) ∧ ((0 : Int) ≤ p_4.fst ∧ p_4.fst < (↑(List.set p_4.snd.fst (Int.toNat p_4.fst) (List.getD p_4.snd.fst (List.getD p_4.snd.fst (Int.toNat p_4.fst) (0 : Int)).toNat (0 : Int))).length : Int)) ∧ I ((List.set p_4.snd.fst (Int.toNat p_4.fst) (List.getD p_4.snd.fst (List.getD p_4.snd.fst (Int.toNat p_4.fst) (0 : Int)).toNat (0 : Int))).getD (Int.toNat p_4.fst) (0 : Int), List.set p_4.snd.fst (Int.toNat p_4.fst) (List.getD p_4.snd.fst (List.getD p_4.snd.fst (Int.toNat p_4.fst) (0 : Int)).toNat (0 : Int)), ()) ∧ μ ((List.set p_4.snd.fst (Int.toNat p_4.fst) (List.getD p_4.snd.fst (List.getD p_4.snd.fst (Int.toNat p_4.fst) (0 : Int)).toNat (0 : Int))).getD (Int.toNat p_4.fst) (0 : Int), List.set p_4.snd.fst (Int.toNat p_4.fst) (List.getD p_4.snd.fst (List.getD p_4.snd.fst (Int.toNat p_4.fst) (0 : Int)).toNat (0 : Int)), ()) < μ p_4) ∧ (decide (List.getD p_4.snd.fst (Int.toNat p_4.fst) (0 : Int) ≠ p_4.fst) = false → ∃ (I : Int × Int × List Int × List (Int × Bool) × Unit → Prop), ∃ (μ : Int × Int × List Int × List (Int × Bool) × Unit → Nat), I (p_3.fst, p_4.fst, p_4.snd.fst, p_2.snd.snd.fst, ()) ∧ ∀ (p_5 : Int × Int × List Int × List (Int × Bool) × Unit), In64 p_5.fst ∧ In64 p_5.snd.fst ∧ WfI p_5.snd.snd.fst ∧ (∀ (x : Int × Bool), x ∈ p_5.snd.snd.snd.fst → In64 x.fst ∧ True) ∧ True → I p_5 → (decide (p_5.fst ≠ p_5.snd.fst) = true → ∃ (J : Int × Int × Unit → Prop), (((0 : Int) ≤ p_5.fst ∧ p_5.fst < (↑(List.length p.snd.fst) : Int)) ∧ ((0 : Int) ≤ p_5.snd.fst ∧ p_5.snd.fst < (↑(List.length p.snd.fst) : Int)) ∧ (decide (List.getD p.snd.fst (Int.toNat p_5.fst) (0 : Int) < List.getD p.snd.fst (Int.toNat p_5.snd.fst) (0 : Int)) = true → J (p_5.snd.fst, p_5.fst, ())) ∧ (decide (List.getD p.snd.fst (Int.toNat p_5.fst) (0 : Int) < List.getD p.snd.fst (Int.toNat p_5.snd.fst) (0 : Int)) = false → J (p_5.fst, p_5.snd.fst, ()))) ∧ ∀ (p_6 : Int × Int × Unit), In64 p_6.fst ∧ In64 p_6.snd.fst ∧ True → J p_6 → ((0 : Int) ≤ p_6.fst ∧ p_6.fst < (↑(List.length r_2.snd.fst) : Int)) ∧ ((0 : Int) ≤ (0 : Int) ∧ (0 : Int) < (↑(2 : Nat) : Int)) ∧ ((0 : Int) ≤ p_6.fst ∧ p_6.fst < (↑(List.length r_2.snd.fst) : Int)) ∧ ((0 : Int) ≤ (1 : Int) ∧ (1 : Int) < (↑(2 : Nat) : Int)) ∧ ((0 : Int) ≤ p_6.fst ∧ p_6.fst < (↑(List.length p_5.snd.snd.fst) : Int)) ∧ ∃ (I_1 : Int × List Int × Unit → Prop), ∃ (μ_1 : Int × List Int × Unit → Nat), I_1 (p_6.fst, List.set p_5.snd.snd.fst (Int.toNat p_6.fst) (gx ((0 : Int), (0 : Int)) r_2.snd.fst p_6.fst).snd, ()) ∧ ∀ (p_7 : Int × List Int × Unit), In64 p_7.fst ∧ WfI p_7.snd.fst ∧ True → I_1 p_7 → ((0 : Int) ≤ p_7.fst ∧ p_7.fst < (↑(List.length p_7.snd.fst) : Int)) ∧ (decide (List.getD p_7.snd.fst (Int.toNat p_7.fst) (0 : Int) ≠ p_7.fst) = true → ((0 : Int) ≤ p_7.fst ∧ p_7.fst < (↑(List.length p_7.snd.fst) : Int)) ∧ ((0 : Int) ≤ List.getD p_7.snd.fst (Int.toNat p_7.fst) (0 : Int) ∧ List.getD p_7.snd.fst (Int.toNat p_7.fst) (0 : Int) < (↑(List.length p_7.snd.fst) : Int)) ∧ ((0 : Int) ≤ p_7.fst ∧ p_7.fst < (↑(List.length p_7.snd.fst) : Int)) ∧ ((0 : Int) ≤ p_7.fst ∧ p_7.fst < (↑(List.set p_7.snd.fst (Int.toNat p_7.fst) (List.getD p_7.snd.fst (List.getD p_7.snd.fst (Int.toNat p_7.fst) (0 : Int)).toNat (0 : Int))).length : Int)) ∧ I_1 ((List.set p_7.snd.fst (Int.toNat p_7.fst) (List.getD p_7.snd.fst (List.getD p_7.snd.fst (Int.toNat p_7.fst) (0 : Int)).toNat (0 : Int))).getD (Int.toNat p_7.fst) (0 : Int), List.set p_7.snd.fst (Int.toNat p_7.fst) (List.getD p_7.snd.fst (List.getD p_7.snd.fst (Int.toNat p_7.fst) (0 : Int)).toNat (0 : Int)), ()) ∧ μ_1 ((List.set p_7.snd.fst (Int.toNat p_7.fst) (List.getD p_7.snd.fst (List.getD p_7.snd.fst (Int.toNat p_7.fst) (0 : Int)).toNat (0 : Int))).getD (Int.toNat p_7.fst) (0 : Int), List.set p_7.snd.fst (Int.toNat p_7.fst) (List.getD p_7.snd.fst (List.getD p_7.snd.fst (Int.toNat p_7.fst) (0 : Int)).toNat (0 : Int)), ()) < μ_1 p_7) ∧ (decide (List.getD p_7.snd.fst (Int.toNat p_7.fst) (0 : Int) ≠ p_7.fst) = false → I (p_7.fst, p_6.snd.fst, p_7.snd.fst, mput (Ty.int IntKind.i64) (gx ((0 : Int), (0 : Int)) r_2.snd.fst p_6.fst).fst true p_5.snd.snd.snd.fst, ()) ∧ μ (p_7.fst, p_6.snd.fst, p_7.snd.fst, mput (Ty.int IntKind.i64) (gx ((0 : Int), (0 : Int)) r_2.snd.fst p_6.fst).fst true p_5.snd.snd.snd.fst, ()) < μ p_5)) ∧ (decide (p_5.fst ≠ p_5.snd.fst) = false → J (p_5.snd.snd.fst, p_5.snd.snd.snd.fst, ())))))) ∧ ∀ (p : List Int × List (Int × Bool) × Unit), WfI p.fst ∧ (∀ (x : Int × Bool), x ∈ p.snd.fst → In64 x.fst ∧ True) ∧ True → J p → I (IntKind.i64.wrap (p_2.fst + (1 : Int)), p.fst, p.snd.fst, ()) ∧ μ (IntKind.i64.wrap (p_2.fst + (1 : Int)), p.fst, p.snd.fst, ()) < μ p_2) ∧ (decide (p_2.fst < (↑(List.length x.snd.fst) : Int)) = false → ∃ (ok : Int × Unit → Prop), ∃ (φ : Int × Unit → Bool), (∀ (y : Int × Unit), (Ty.int IntKind.i64).wf y.fst ∧ True → ok y → True ∧ ∀ (z : Bool × Unit), True ∧ True → z.fst = mB p_2.snd.snd.fst y.fst → false = false ∧ z.fst = φ y) ∧ (∀ (i : Int), i ∈ r_1.fst → (ok, φ).fst (i, ())) ∧ ∀ (r_3 : Int × Unit), In64 r_3.fst ∧ True → r_3.fst = idxF (fun (i : Int) => (ok, φ).snd (i, ())) r_1.fst → (decide (r_3.fst = (-1 : Int)) = true → (netE x.fst x.snd.fst ≠ (0 : Int) → r_1.fst = [] ∧ (0 : Int) = netE x.fst x.snd.fst) ∧ (netE x.fst x.snd.fst = (0 : Int) → r_1.fst = bridgesF x.fst x.snd.fst ∧ (0 : Int) = (0 : Int))) ∧ (decide (r_3.fst = (-1 : Int)) = false → ∃ (I : Int × Int × List Int × Unit → Prop), ∃ (μ : Int × Int × List Int × Unit → Nat), I (r_3.fst, IntKind.i64.wrap (r_3.fst + (1 : Int)), r_1.fst, ()) ∧ ∀ (p_3 : Int × Int × List Int × Unit), In64 p_3.fst ∧ In64 p_3.snd.fst ∧ WfI p_3.snd.snd.fst ∧ True → I p_3 → (decide (p_3.snd.fst < (↑(List.length p_3.snd.snd.fst) : Int)) = true → ∃ (J : Int × List Int × Unit → Prop), (((0 : Int) ≤ p_3.snd.fst ∧ p_3.snd.fst < (↑(List.length p_3.snd.snd.fst) : Int)) ∧ True ∧ ∀ (r : Bool × Unit), True ∧ True → r.fst = mB p_2.snd.snd.fst (List.getD p_3.snd.snd.fst (Int.toNat p_3.snd.fst) (0 : Int)) → ((!r.fst) = true → ((0 : Int) ≤ p_3.fst ∧ p_3.fst < (↑(List.length p_3.snd.snd.fst) : Int)) ∧ J (IntKind.i64.wrap (p_3.fst + (1 : Int)), List.set p_3.snd.snd.fst (Int.toNat p_3.fst) (List.getD p_3.snd.snd.fst (Int.toNat p_3.snd.fst) (0 : Int)), ())) ∧ ((!r.fst) = false → J (p_3.fst, p_3.snd.snd.fst, ()))) ∧ ∀ (p : Int × List Int × Unit), In64 p.fst ∧ WfI p.snd.fst ∧ True → J p → I (p.fst, IntKind.i64.wrap (p_3.snd.fst + (1 : Int)), p.snd.fst, ()) ∧ μ (p.fst, IntKind.i64.wrap (p_3.snd.fst + (1 : Int)), p.snd.fst, ()) < μ p_3) ∧ (decide (p_3.snd.fst < (↑(List.length p_3.snd.snd.fst) : Int)) = false → ((0 : Int) ≤ p_3.fst ∧ p_3.fst ≤ (↑(List.length p_3.snd.snd.fst) : Int) ∧ (↑(List.length p_3.snd.snd.fst) : Int) ≤ (↑(List.length p_3.snd.snd.fst) : Int)) ∧ ((0 : Int) ≤ (0 : Int) ∧ (0 : Int) ≤ p_3.fst ∧ p_3.fst ≤ (↑(clearL (0 : Int) (Int.toNat p_3.fst) (↑(List.length p_3.snd.snd.fst) : Int).toNat p_3.snd.snd.fst).length : Int)) ∧ (netE x.fst x.snd.fst ≠ (0 : Int) → List.drop (Int.toNat (0 : Int)) (List.take (Int.toNat p_3.fst) (clearL (0 : Int) (Int.toNat p_3.fst) (↑(List.length p_3.snd.snd.fst) : Int).toNat p_3.snd.snd.fst)) = [] ∧ (0 : Int) = netE x.fst x.snd.fst) ∧ (netE x.fst x.snd.fst = (0 : Int) → List.drop (Int.toNat (0 : Int)) (List.take (Int.toNat p_3.fst) (clearL (0 : Int) (Int.toNat p_3.fst) (↑(List.length p_3.snd.snd.fst) : Int).toNat p_3.snd.snd.fst)) = bridgesF x.fst x.snd.fst ∧ (0 : Int) = (0 : Int))))))))
theorem vc_topology_Bridges_eq (x : dens s_topology_Bridges.args) : semF ⟨Tryz.prog, tys⟩ sp_topology_Bridges an_topology_Bridges s_topology_Bridges Tryz.f11.results.toList (Tryz.f11.body.getD .skip) x = vc_topology_Bridges x := by kernel_rfl
theorem m_topology_Bridges (hsp : SpOk Tryz.prog sp_topology_Bridges) (h : ∀ x, awf s_topology_Bridges.args x → s_topology_Bridges.pre x → vc_topology_Bridges x) : Meets Tryz.prog 11 s_topology_Bridges := meets_vc (cx := ⟨Tryz.prog, tys⟩) (sp := sp_topology_Bridges) (an := an_topology_Bridges) (s := s_topology_Bridges) (fn := Tryz.f11) (c := Tryz.f11.body.getD .skip) Tryz.func11 (by kernel_rfl) (Nat.le_of_ble_eq_true (by kernel_rfl)) (by kernel_rfl) tys_ok hsp vc_topology_Bridges_eq h
end Go.Proofs.YtppgpdigopffbaaGreat
namespace Go.Proofs.YtppgpdigopffbaaGreat
open Go.Vc Go.Gw
theorem find_vc {n : Int} {up : List Ln} {dep top0 : List Int} {b0 : Int} (h : Tops n up dep top0) (hd0 : ∀ v, 0 ≤ v → v < n → 0 ≤ lat dep v) (b00 : 0 ≤ b0) (b01 : b0 < n) {W K : Int × List Int × Unit → Prop}
    (hK : ∀ c top, Tops n up dep top → (∀ v, 0 ≤ v → v < n → (Mv top v ↔ Mv top0 v)) → 0 ≤ c → c < n → ¬ Mv top c → (∀ f, Con n up (Mv top0) f → f c = f b0) → K (c, top, ())) :
    ∃ (I : Int × List Int × Unit → Prop), ∃ (μ : Int × List Int × Unit → Nat), I (b0, top0, ()) ∧ ∀ (p : Int × List Int × Unit), W p → I p → (0 ≤ p.1 ∧ p.1 < (p.2.1.length : Int)) ∧
      (decide (p.2.1.getD p.1.toNat 0 ≠ p.1) = true → (0 ≤ p.1 ∧ p.1 < (p.2.1.length : Int)) ∧ (0 ≤ p.2.1.getD p.1.toNat 0 ∧ p.2.1.getD p.1.toNat 0 < (p.2.1.length : Int)) ∧ (0 ≤ p.1 ∧ p.1 < (p.2.1.length : Int)) ∧
        (0 ≤ p.1 ∧ p.1 < ((p.2.1.set p.1.toNat (p.2.1.getD (p.2.1.getD p.1.toNat 0).toNat 0)).length : Int)) ∧
        I ((p.2.1.set p.1.toNat (p.2.1.getD (p.2.1.getD p.1.toNat 0).toNat 0)).getD p.1.toNat 0, p.2.1.set p.1.toNat (p.2.1.getD (p.2.1.getD p.1.toNat 0).toNat 0), ()) ∧
        μ ((p.2.1.set p.1.toNat (p.2.1.getD (p.2.1.getD p.1.toNat 0).toNat 0)).getD p.1.toNat 0, p.2.1.set p.1.toNat (p.2.1.getD (p.2.1.getD p.1.toNat 0).toNat 0), ()) < μ p) ∧
      (decide (p.2.1.getD p.1.toNat 0 ≠ p.1) = false → K p) := by
  refine ⟨fun p => Tops n up dep p.2.1 ∧ (∀ v, 0 ≤ v → v < n → (Mv p.2.1 v ↔ Mv top0 v)) ∧ 0 ≤ p.1 ∧ p.1 < n ∧ ∀ f, Con n up (Mv top0) f → f p.1 = f b0, fun p => (lat dep p.1).toNat, ⟨h, fun _ _ _ => Iff.rfl, b00, b01, fun _ _ => rfl⟩, ?_⟩
  rintro ⟨c, t, _⟩ _ ⟨h1, h2, h3, h4, h5⟩
  simp only at h1 h2 h3 h4 h5 ⊢
  have hl := h1.len
  have e1 : t.getD c.toNat 0 = lat t c := rfl
  have e2 : t.getD (lat t c).toNat 0 = lat t (lat t c) := rfl
  rw [e1, e2]
  have hk : c.toNat < t.length := by omega
  have e3 : (t.set c.toNat (lat t (lat t c))).getD c.toNat 0 = lat t (lat t c) := by
    have := lat_set (v := lat t (lat t c)) (i := c) hk
    rw [if_pos rfl] at this
    exact this
  rw [e3, List.length_set]
  obtain ⟨r0, r1⟩ := h1.rng c h3 h4
  obtain ⟨s0, s1⟩ := h1.rng _ r0 r1
  refine ⟨⟨h3, by omega⟩, fun hm => ?_, fun hm => ?_⟩
  · have hm' : lat t c ≠ c := of_decide_eq_true hm
    have hm : Mv t c := hm'
    obtain ⟨g1, g2⟩ := h1.halve h3 h4 hm
    have d1 := (h1.dec c h3 h4 hm).2
    have d2 : lat dep (lat t (lat t c)) ≤ lat dep (lat t c) := by
      by_cases hm2 : Mv t (lat t c)
      · have := (h1.dec _ r0 r1 hm2).2; omega
      · unfold Mv at hm2
        rw [show lat t (lat t c) = lat t c from Decidable.not_not.1 hm2]; exact Int.le_refl _
    have d3 := hd0 _ s0 s1
    refine ⟨⟨h3, by omega⟩, ⟨r0, by omega⟩, ⟨h3, by omega⟩, ⟨h3, by omega⟩, ⟨g1, fun v v0 v1 => (g2 v v0 v1).trans (h2 v v0 v1), s0, s1, fun f hf => ?_⟩, by omega⟩
    have hf' : Con n up (Mv t) f := hf.sub fun v v0 v1 hv => (h2 v v0 v1).1 hv
    rw [h1.con f hf' _ r0 r1, h1.con f hf' c h3 h4]
    exact h5 f hf
  · have hm' : ¬ lat t c ≠ c := of_decide_eq_false hm
    have hm : ¬ Mv t c := hm'
    exact hK c t h1 h2 h3 h4 hm h5
theorem delete_take {F : List Int} {keep : Int → Bool} {s : List Int} {i j : Nat} (hl : s.length = F.length) (hij : i < j) (hj : j ≤ F.length) (h1 : s.take i = (F.take j).filter keep) (h2 : ∀ k, j ≤ k → s[k]? = F[k]?) (hjl : j < F.length) :
    (keep (s.getD j 0) = true → (s.set i (s.getD j 0)).take (i + 1) = (F.take (j + 1)).filter keep) ∧ (keep (s.getD j 0) = false → s.take i = (F.take (j + 1)).filter keep) ∧ ∀ k, j + 1 ≤ k → (s.set i (s.getD j 0))[k]? = F[k]? := by
  have hg : s.getD j 0 = F[j] := by rw [List.getD_eq_getElem?_getD, h2 j (Nat.le_refl _), List.getElem?_eq_getElem hjl]; rfl
  have ht : F.take (j + 1) = F.take j ++ [F[j]] := by rw [List.take_add_one, List.getElem?_eq_getElem hjl]; rfl
  refine ⟨fun hk => ?_, fun hk => ?_, fun k hk => ?_⟩
  · rw [ht, List.filter_append, ← h1, List.filter_cons_of_pos (by rw [← hg]; exact hk), List.filter_nil, ← hg, List.take_add_one, List.getElem?_set, if_pos rfl, if_pos (by omega), List.take_set_of_le (Nat.le_refl _)]
    rfl
  · rw [ht, List.filter_append, ← h1, List.filter_cons_of_neg (by rw [← hg, hk]; simp), List.filter_nil, List.append_nil]
  · rw [List.getElem?_set, if_neg (by omega)]; exact h2 k (by omega)
theorem vc_topology_Bridges_ok (x : dens s_topology_Bridges.args) (hw : awf s_topology_Bridges.args x) (hp : s_topology_Bridges.pre x) : vc_topology_Bridges x := by
  obtain ⟨n, ls, _⟩ := x
  change Int at n
  change List (Int × Int) at ls
  have hl : ls.length ≤ 100000 := hp
  simp only [vc_topology_Bridges]
  refine ⟨trivial, ?_⟩
  rintro ⟨e, _⟩ _ he
  simp only at he ⊢
  subst he
  refine ⟨fun h => ?_, fun h => ?_⟩
  · have h := of_decide_eq_true h
    exact ⟨fun _ => ⟨by trivial, by trivial⟩, fun h' => absurd h' h⟩
  have h : netE n ls = 0 := by simpa using h
  have hok := netE_ok.1 h
  obtain ⟨n0, n1, nb⟩ := id hok
  refine ⟨hok, ?_⟩
  rintro ⟨F, N, _⟩ _ ⟨hF, hN⟩
  simp only at hF hN ⊢
  subst hF hN
  have hfl : (forestF n ls).length ≤ 16384 := forest_le hok (k := ls.length) (Nat.le_refl _)
  refine ⟨⟨n, ls, hok, rfl⟩, ?_⟩
  rintro ⟨ord, up, _⟩ _ hR
  simp only at hR ⊢
  have hR := hR n ls hok rfl
  have hol := hR.len
  have hul := hR.ulen
  change List Int at ord
  change List (Int × Int) at up
  refine ⟨⟨n0, Int.le_refl _, by omega, by omega⟩, fun p => 0 ≤ p.1 ∧ p.1 ≤ (ord.length : Int) ∧ p.2.1.length = n.toNat ∧ ∀ (j : Nat) (b : Int), ord[j]? = some b → (p.1 ≤ (j : Int) → lat p.2.1 b = 0) ∧ ((j : Int) < p.1 → 0 ≤ lat p.2.1 b ∧ lat p.2.1 b ≤ j ∧ ((upA up b).1 < 0 → lat p.2.1 b = 0) ∧ (0 ≤ (upA up b).1 → lat p.2.1 b = lat p.2.1 (upA up b).2 + 1)), fun p => ((ord.length : Int) - p.1).toNat, ⟨Int.le_refl _, Int.natCast_nonneg _, by simp, fun j b hb => ⟨fun _ => ?_, fun hh => (by have hh : (j : Int) < 0 := hh; omega)⟩⟩, ?_⟩
  · unfold lat
    simp only [List.getD_eq_getElem?_getD, List.getElem?_replicate]
    split <;> rfl
  rintro ⟨k, dep, _⟩ _ ⟨h0, h1, h2, h3⟩
  change Int at k
  change List Int at dep
  simp only at h0 h1 h2 h3 ⊢
  refine ⟨fun hk => ?_, fun hk => ?_⟩
  · have hk := of_decide_eq_true hk
    have hget : ord[k.toNat]? = some (gx 0 ord k) := gx_get h0 hk
    generalize gx 0 ord k = b at hget ⊢
    have hat := hR.at' k.toNat b hget
    have b0 : 0 ≤ b := hat.1
    have b1 : b < n := hat.2.1
    have hup : gx ((0 : Int), (0 : Int)) up b = upA up b := gx_getD b0 (by omega)
    rw [hup]
    have huniq : ∀ (j : Nat) (c : Int), ord[j]? = some c → c = b → j = k.toNat := fun j c hc e => by
      subst e
      exact (List.getElem?_inj (List.getElem?_eq_some_iff.1 hc).1 hR.nod).1 (hc.trans hget.symm)
    refine ⟨fun p => p.1.length = n.toNat ∧ ∀ (j : Nat) (b : Int), ord[j]? = some b → (k + 1 ≤ (j : Int) → lat p.1 b = 0) ∧ ((j : Int) < k + 1 → 0 ≤ lat p.1 b ∧ lat p.1 b ≤ j ∧ ((upA up b).1 < 0 → lat p.1 b = 0) ∧ (0 ≤ (upA up b).1 → lat p.1 b = lat p.1 (upA up b).2 + 1)), ⟨⟨h0, hk⟩, ⟨b0, by omega⟩, ⟨by omega, by omega⟩, fun hr => ?_, fun hr => ?_⟩, ?_⟩
    · have hr := of_decide_eq_true hr
      rcases hat.2.2 with ⟨q1, _⟩ | ⟨q1, q2, j, hj, hjb⟩
      · rw [q1] at hr; simp at hr
      · obtain ⟨c0, c1, _⟩ := joins_in hok q1 q2
        have hj' := (h3 j _ hjb).2 (by omega)
        have hcb : (upA up b).2 ≠ b := fun e => by have := huniq j _ hjb e; omega
        have e1 : dep.getD (upA up b).2.toNat 0 = lat dep (upA up b).2 := rfl
        rw [e1, wr (by have := hj'.1; omega) (by have := hj'.2.1; omega)]
        refine ⟨⟨b0, by omega⟩, ⟨by omega, by omega⟩, ⟨c0, by omega⟩, ⟨b0, by omega⟩, by rw [List.length_set]; exact h2, fun i c hc => ?_⟩
        have hci := hR.at' i c hc
        have cc0 : 0 ≤ c := hci.1
        have cc1 : c < n := hci.2.1
        have hkl : b.toNat < dep.length := by omega
        rw [lat_set hkl]
        by_cases hcb2 : c = b
        · have := huniq i c hc hcb2
          subst hcb2
          rw [if_pos rfl]
          refine ⟨fun hh => by omega, fun _ => ⟨by omega, by omega, fun hh => by omega, fun _ => ?_⟩⟩
          rw [lat_set hkl, if_neg (by omega)]
        · rw [if_neg (by omega)]
          refine ⟨fun hh => (h3 i c hc).1 (by omega), fun hh => ?_⟩
          have hik : i ≠ k.toNat := fun e => by
            subst e
            rw [hc] at hget
            exact hcb2 (Option.some.inj hget)
          obtain ⟨z1, z2, z3, z4⟩ := (h3 i c hc).2 (by omega)
          refine ⟨z1, z2, z3, fun hrc => ?_⟩
          rw [z4 hrc]
          rcases hci.2.2 with ⟨q1', _⟩ | ⟨q1', q2', j', hj'', hjb'⟩
          · rw [q1'] at hrc; simp at hrc
          · obtain ⟨d0, d1, _⟩ := joins_in hok q1' q2'
            have : (upA up c).2 ≠ b := fun e => by have := huniq j' _ hjb' e; omega
            rw [lat_set hkl, if_neg (by omega)]
    · have hr := of_decide_eq_false hr
      refine ⟨h2, fun i c hc => ⟨fun hh => (h3 i c hc).1 (by omega), fun hh => ?_⟩⟩
      by_cases hik : i = k.toNat
      · subst hik
        rw [hget] at hc
        cases hc
        have := (h3 _ b hget).1 (by omega)
        exact ⟨by show 0 ≤ lat dep b; omega, by show lat dep b ≤ _; omega, fun _ => this, fun hh => by omega⟩
      · exact (h3 i c hc).2 (by omega)
    · rintro ⟨dep', _⟩ _ ⟨g1, g2⟩
      simp only at g1 g2 ⊢
      rw [wr (by omega) (by omega)]
      exact ⟨⟨by omega, by omega, g1, g2⟩, by omega⟩
  have hk := of_decide_eq_false hk
  have hD : Deps n ls up dep := ⟨hul, h2, fun v v0 v1 => by
    obtain ⟨j, hj⟩ := List.mem_iff_getElem?.1 (hR.all v v0 v1)
    have hjl := (List.getElem?_eq_some_iff.1 hj).1
    obtain ⟨z1, z2, z3, z4⟩ := (h3 j v hj).2 (by omega)
    refine ⟨z1, ?_⟩
    rcases (hR.at' j v hj).2.2 with ⟨q1, q2⟩ | ⟨q1, q2, _⟩
    · exact .inl ⟨q1, q2, z3 (by rw [q1]; simp)⟩
    · exact .inr ⟨q1, q2, z4 (forest_mem q1).1⟩⟩
  have hd0 : ∀ v, 0 ≤ v → v < n → 0 ≤ lat dep v := fun v v0 v1 => (hD.at' v v0 v1).1
  clear h3 hk h0 h1
  simp only [List.length_replicate]
  refine ⟨⟨n0, Int.le_refl _, by omega, by omega⟩, fun p => 0 ≤ p.1 ∧ p.1 ≤ n ∧ p.2.1.length = n.toNat ∧ ∀ i : Int, 0 ≤ i → i < p.1 → lat p.2.1 i = i, fun p => (n - p.1).toNat, ⟨Int.le_refl _, n0, by simp, fun i hi hi' => (by have hi' : i < 0 := hi'; omega)⟩, ?_⟩
  rintro ⟨b, t, _⟩ _ ⟨h0, h1, ht, h3⟩
  change Int at b
  change List Int at t
  simp only at h0 h1 ht h3 ⊢
  refine ⟨fun h => ?_, fun hb => ?_⟩
  · have h := of_decide_eq_true h
    rw [wr (by omega) (by omega)]
    refine ⟨⟨h0, by omega⟩, ⟨by omega, by omega, by rw [List.length_set]; exact ht, fun j hj hjb => ?_⟩, by omega⟩
    rw [lat_set (by omega)]
    split
    · omega
    · exact h3 j hj (by omega)
  have hb := of_decide_eq_false hb
  have hid : ∀ i : Int, 0 ≤ i → i < n → lat t i = i := fun i i0 i1 => h3 i i0 (by omega)
  have hT : Tops n up dep t := ⟨ht, fun v v0 v1 => by rw [hid v v0 v1]; exact ⟨v0, v1⟩, fun v v0 v1 hm => absurd (hid v v0 v1) hm, fun f _ v v0 v1 => by rw [hid v v0 v1]⟩
  refine ⟨fun p => 0 ≤ p.1 ∧ p.1 ≤ (ls.length : Int) ∧ Tops n up dep p.2.1 ∧ Mk n up (Mv p.2.1) (mB p.2.2.1) ∧ Snd n ls up (Mv p.2.1) ∧ Cmp n ls up (Mv p.2.1) p.1.toNat, fun p => ((ls.length : Int) - p.1).toNat, ⟨Int.le_refl _, Int.natCast_nonneg _, hT, fun e => ⟨fun hh => (by cases hh), fun ⟨w, w0, w1, hw, _⟩ => absurd (hid w w0 w1) hw⟩, fun w w0 w1 hw => absurd (hid w w0 w1) hw, fun j hj => absurd hj (Nat.not_lt_zero _)⟩, ?_⟩
  clear hT hid h3 ht h0 h1 hb
  rintro ⟨i, top, m, _⟩ _ ⟨h0, h1, hT, hMk, hSn, hCm⟩
  change Int at i
  change List Int at top
  change List (Int × Bool) at m
  simp only at h0 h1 hT hMk hSn hCm ⊢
  refine ⟨fun hi => ?_, fun hi => ?_⟩
  · have hi := of_decide_eq_true hi
    have hgd : gx ((0 : Int), (0 : Int)) ls i = ls.getD i.toNat (0, 0) := gx_getD h0 hi
    have hin : inB n (gx ((0 : Int), (0 : Int)) ls i) := nb _ (gx_mem h0 hi)
    generalize gx ((0 : Int), (0 : Int)) ls i = l at hgd hin ⊢
    obtain ⟨x0, x1, y0, y1⟩ := hin
    refine ⟨fun p => Tops n up dep p.1 ∧ Mk n up (Mv p.1) (mB p.2.1) ∧ Snd n ls up (Mv p.1) ∧ Cmp n ls up (Mv p.1) (i.toNat + 1), ⟨⟨h0, hi⟩, ⟨forest_sorted n ls, by omega⟩, ?_⟩, ?_⟩
    · rintro ⟨_, r, _⟩ _ hr
      simp only at hr ⊢
      subst hr
      have hii : ((i.toNat : Nat) : Int) = i := by omega
      refine ⟨fun hf => ⟨hT, hMk, hSn, fun j hj hjf => ?_⟩, fun hf => ⟨⟨by omega, by omega⟩, ⟨by omega, by omega⟩, ?_, ?_⟩⟩
      · have hf := of_decide_eq_true hf
        rcases (by omega : j < i.toNat ∨ j = i.toNat) with hji | hji
        · exact hCm j hji hjf
        · subst hji; rw [hii] at hjf; exact absurd hf hjf
      all_goals
        have hf : i ∉ forestF n ls := of_decide_eq_false hf
        have hjf : ((i.toNat : Nat) : Int) ∉ forestF n ls := by rw [hii]; exact hf
        refine find_vc hT hd0 x0 x1 fun a top1 T1 E1 a0 a1 na fa => ?_
        refine find_vc T1 hd0 y0 y1 fun b top2 T2 E2 b0 b1 nb' fb => ?_
        have E12 : ∀ v, 0 ≤ v → v < n → (Mv top2 v ↔ Mv top v) := fun v v0 v1 => (E2 v v0 v1).trans (E1 v v0 v1)
        have na2 : ¬ Mv top2 a := fun hh => na ((E2 a a0 a1).1 hh)
        simp only
        refine ⟨fun p => 0 ≤ p.1 ∧ p.1 < n ∧ 0 ≤ p.2.1 ∧ p.2.1 < n ∧ ¬ Mv p.2.2.1 p.1 ∧ ¬ Mv p.2.2.1 p.2.1 ∧ Tops n up dep p.2.2.1 ∧ Mk n up (Mv p.2.2.1) (mB p.2.2.2.1) ∧ Snd n ls up (Mv p.2.2.1) ∧ Cmp n ls up (Mv p.2.2.1) i.toNat ∧ ∀ f, Con n up (Mv p.2.2.1) f → (f p.1 = f p.2.1 ↔ f l.1 = f l.2), fun p => cnt p.2.2.1, ⟨a0, a1, b0, b1, na2, nb', T2, ?_, ?_, ?_, ?_⟩, ?_⟩
        · intro e
          rw [hMk e]
          exact ⟨fun ⟨w, w0, w1, hw, he⟩ => ⟨w, w0, w1, (E12 w w0 w1).2 hw, he⟩, fun ⟨w, w0, w1, hw, he⟩ => ⟨w, w0, w1, (E12 w w0 w1).1 hw, he⟩⟩
        · exact fun w w0 w1 hw => hSn w w0 w1 ((E12 w w0 w1).1 hw)
        · exact fun j hj hjf f hf => hCm j hj hjf f (hf.sub fun v v0 v1 hv => (E12 v v0 v1).2 hv)
        · intro f hf
          have hf1 : Con n up (Mv top1) f := hf.sub fun v v0 v1 hv => (E2 v v0 v1).2 hv
          have hf0 : Con n up (Mv top) f := hf.sub fun v v0 v1 hv => (E12 v v0 v1).2 hv
          show f a = f b ↔ _
          rw [fa f hf0, fb f hf1]
        clear E12 na2 nb' T2 E2 fb fa na E1 T1 hMk hSn hCm hT
        rintro ⟨a', b', tp, mm, _⟩ _ ⟨k1, k2, k3, k4, k5, k6, kT, kM, kS, kC, kf⟩
        change Int at a' b'
        change List Int at tp
        change List (Int × Bool) at mm
        simp only at k1 k2 k3 k4 k5 k6 kT kM kS kC kf ⊢
        have htl := kT.len
        refine ⟨fun hne => ?_, fun heq => ?_⟩
        · have hne : a' ≠ b' := of_decide_eq_true hne
          refine ⟨fun p => 0 ≤ p.1 ∧ p.1 < n ∧ 0 ≤ p.2.1 ∧ p.2.1 < n ∧ p.1 ≠ p.2.1 ∧ lat dep p.2.1 ≤ lat dep p.1 ∧ ¬ Mv tp p.1 ∧ ¬ Mv tp p.2.1 ∧ ∀ f, Con n up (Mv tp) f → (f p.1 = f p.2.1 ↔ f l.1 = f l.2), ⟨⟨k1, by omega⟩, ⟨k3, by omega⟩, fun hd => ?_, fun hd => ?_⟩, ?_⟩
          · have hd : lat dep a' < lat dep b' := of_decide_eq_true hd
            exact ⟨k3, k4, k1, k2, fun e => hne e.symm, Int.le_of_lt hd, k6, k5, fun f hf => (by rw [← kf f hf]; exact eq_comm)⟩
          · have hd : ¬ lat dep a' < lat dep b' := of_decide_eq_false hd
            exact ⟨k1, k2, k3, k4, hne, Int.not_lt.1 hd, k5, k6, kf⟩
          rintro ⟨a, b, _⟩ _ ⟨a0, a1, b0, b1, hab, hdep, na, nbb, hf'⟩
          change Int at a b
          simp only at a0 a1 b0 b1 hab hdep na nbb hf' ⊢
          rw [hgd] at hf'
          obtain ⟨hr, hsnd⟩ := mark_step hok hD kT (by omega) hjf a0 a1 b0 b1 na hab hdep hf'
          have hup : gx ((0 : Int), (0 : Int)) up a = upA up a := gx_getD a0 (by omega)
          rw [hup]
          obtain ⟨T3, E3⟩ := kT.mark hok hD a0 a1 hr
          refine ⟨⟨a0, by omega⟩, ⟨by omega, by omega⟩, ⟨a0, by omega⟩, ⟨by omega, by omega⟩, ⟨a0, by omega⟩, ?_⟩
          refine find_vc T3 hd0 a0 a1 fun c top4 T4 E4 c0 c1 nc fc => ?_
          have E34 : ∀ v, 0 ≤ v → v < n → (Mv top4 v ↔ Mv tp v ∨ v = a) := fun v v0 v1 => (E4 v v0 v1).trans (E3 v v0 v1)
          simp only
          refine ⟨⟨c0, c1, b0, b1, nc, fun hh => ?_, T4, fun e => ?_, fun w w0 w1 hw => ?_, fun j hj hjf f hf => ?_, fun f hf => ?_⟩, ?_⟩
          · rcases (E34 b b0 b1).1 hh with hh | hh
            · exact nbb hh
            · exact hab hh.symm
          · rw [mB_put]
            split
            · rename_i he
              exact ⟨fun _ => ⟨a, a0, a1, (E34 a a0 a1).2 (.inr rfl), he.symm⟩, fun _ => rfl⟩
            · rename_i he
              rw [kM e]
              refine ⟨fun ⟨w, w0, w1, hw, hwe⟩ => ⟨w, w0, w1, (E34 w w0 w1).2 (.inl hw), hwe⟩, fun ⟨w, w0, w1, hw, hwe⟩ => ?_⟩
              rcases (E34 w w0 w1).1 hw with hw | hw
              · exact ⟨w, w0, w1, hw, hwe⟩
              · subst hw; exact absurd hwe.symm he
          · rcases (E34 w w0 w1).1 hw with hw | hw
            · exact kS w w0 w1 hw
            · subst hw; exact hsnd
          · exact kC j hj hjf f (hf.sub fun v v0 v1 hv => (E34 v v0 v1).2 (.inl hv))
          · have hf3 : Con n up (Mv (tp.set a.toNat (upA up a).2)) f := hf.sub fun v v0 v1 hv => (E4 v v0 v1).2 hv
            have hft : Con n up (Mv tp) f := hf.sub fun v v0 v1 hv => (E34 v v0 v1).2 (.inl hv)
            show f c = f b ↔ _
            rw [fc f hf3, hgd]
            exact hf' f hft
          · have t4l := T4.len
            refine cnt_lt (by omega) (fun v v0 v1 hv => ?_) a0 (by omega) ((E34 a a0 a1).2 (.inr rfl)) (Decidable.not_not.1 na)
            exact Decidable.not_not.1 fun hh => absurd hv ((E34 v v0 (by omega)).2 (.inl hh))
        · have heq : a' = b' := by simpa using heq
          subst heq
          refine ⟨kT, kM, kS, fun j hj hjf f hf => ?_⟩
          rcases (by omega : j < i.toNat ∨ j = i.toNat) with hji | hji
          · exact kC j hji hjf f hf
          · subst hji
            have := (kf f hf).1 rfl
            rw [hgd] at this
            exact this
    · rintro ⟨tp, mm, _⟩ _ ⟨k1, k2, k3, k4⟩
      simp only at k1 k2 k3 k4 ⊢
      rw [wr (by omega) (by omega), show (i + 1).toNat = i.toNat + 1 from by omega]
      exact ⟨⟨by omega, by omega, k1, k2, k3, k4⟩, by omega⟩
  have hi := of_decide_eq_false hi
  rw [show i.toNat = ls.length from by omega] at hCm
  have hEq := bridges_eq hok hD hT hMk hSn hCm
  refine ⟨fun _ => True, fun y => mB m y.1, ⟨fun y _ _ => ⟨trivial, ?_⟩, fun _ _ => trivial, ?_⟩⟩
  · rintro ⟨z, _⟩ _ hz
    exact ⟨by trivial, hz⟩
  rintro ⟨r, _⟩ _ hr
  simp only at hr ⊢
  change Int at r
  have hsplit : ∀ k : Nat, (∀ j, j < k → j < (forestF n ls).length → mB m ((forestF n ls).getD j 0) = false) → ((forestF n ls).take k).filter (fun e => !(mB m e)) = (forestF n ls).take k := fun k hk => by
    refine List.filter_eq_self.2 fun a ha => ?_
    obtain ⟨j, hj, rfl⟩ := List.mem_iff_getElem.1 ha
    have hj2 : j < k ∧ j < (forestF n ls).length := by rw [List.length_take] at hj; omega
    have := hk j hj2.1 hj2.2
    rw [List.getD_eq_getElem?_getD, List.getElem?_eq_getElem hj2.2] at this
    simp only [Option.getD_some] at this
    simp [this]
  unfold idxF at hr
  cases hfi : (forestF n ls).findIdx? (fun i => mB m i) with
  | none =>
    rw [hfi] at hr
    simp only at hr
    subst hr
    refine ⟨fun _ => ⟨fun h' => absurd h h', fun _ => ⟨?_, by trivial⟩⟩, fun hh => by simp at hh⟩
    rw [← hEq]
    rw [List.findIdx?_eq_none_iff] at hfi
    exact (List.filter_eq_self.2 fun a ha => by simp [hfi a ha]).symm
  | some q =>
    rw [hfi] at hr
    simp only at hr
    subst hr
    rw [List.findIdx?_eq_some_iff_getElem] at hfi
    obtain ⟨hq, hq1, hq2⟩ := hfi
    refine ⟨fun hh => ?_, fun _ => ?_⟩
    · have := of_decide_eq_true hh; omega
    have hqn : IntKind.i64.wrap ((q : Int) + 1) = (q : Int) + 1 := wr (by omega) (by omega)
    rw [hqn]
    refine ⟨fun p => 0 ≤ p.1 ∧ p.1 < p.2.1 ∧ p.2.1 ≤ ((forestF n ls).length : Int) ∧ p.2.2.1.length = (forestF n ls).length ∧ p.2.2.1.take p.1.toNat = ((forestF n ls).take p.2.1.toNat).filter (fun e => !(mB m e)) ∧ ∀ k, p.2.1.toNat ≤ k → p.2.2.1[k]? = (forestF n ls)[k]?, fun p => (((forestF n ls).length : Int) - p.2.1).toNat, ⟨by omega, by show (q : Int) < q + 1; omega, by show (q : Int) + 1 ≤ _; omega, rfl, ?_, fun _ _ => rfl⟩, ?_⟩
    · show List.take ((q : Int).toNat) _ = _
      rw [Int.toNat_natCast, show ((q : Int) + 1).toNat = q + 1 from by omega, List.take_add_one, List.getElem?_eq_getElem hq, List.filter_append, hsplit q fun j hj hjl => ?_]
      · rw [show List.filter (fun e => !mB m e) (Option.toList (some (forestF n ls)[q])) = [] from by simp [hq1], List.append_nil]
      · have := hq2 j hj
        rw [List.getD_eq_getElem?_getD, List.getElem?_eq_getElem hjl]
        simpa using this
    rintro ⟨a, b, s, _⟩ _ ⟨k0, k1, k2, k3, k4, k5⟩
    change Int at a b
    change List Int at s
    simp only at k0 k1 k2 k3 k4 k5 ⊢
    refine ⟨fun hb => ?_, fun hb => ?_⟩
    · have hb := of_decide_eq_true hb
      have hde := delete_take (keep := fun e => !(mB m e)) k3 (i := a.toNat) (j := b.toNat) (by omega) (by omega) k4 k5 (by omega)
      refine ⟨fun p => 0 ≤ p.1 ∧ p.1 < b + 1 ∧ p.2.1.length = (forestF n ls).length ∧ p.2.1.take p.1.toNat = ((forestF n ls).take (b + 1).toNat).filter (fun e => !(mB m e)) ∧ ∀ k, (b + 1).toNat ≤ k → p.2.1[k]? = (forestF n ls)[k]?, ⟨⟨by omega, hb⟩, trivial, ?_⟩, ?_⟩
      · rintro ⟨r, _⟩ _ hr
        simp only at hr ⊢
        have hb1 : (b + 1).toNat = b.toNat + 1 := by omega
        refine ⟨fun ht => ⟨⟨k0, by omega⟩, ?_⟩, fun hf => ?_⟩
        · rw [wr (by omega) (by omega), show (a + 1).toNat = a.toNat + 1 from by omega, hb1, List.length_set]
          exact ⟨by omega, by omega, k3, hde.1 (by rw [← hr]; exact ht), hde.2.2⟩
        · rw [hb1]
          exact ⟨k0, by omega, k3, hde.2.1 (by rw [← hr]; exact hf), fun k hk => k5 k (by omega)⟩
      · rintro ⟨a2, s2, _⟩ _ ⟨m0, m1, m2, m3, m4⟩
        simp only at m0 m1 m2 m3 m4 ⊢
        rw [wr (by omega) (by omega)]
        exact ⟨⟨m0, m1, by omega, m2, m3, m4⟩, by omega⟩
    · have hb := of_decide_eq_false hb
      rw [List.take_of_length_le (l := forestF n ls) (by omega)] at k4
      have hcl : (clearL (0 : Int) a.toNat (s.length : Int).toNat s).length = s.length := clearL_len (by omega) (by omega)
      have hct : List.drop (Int.toNat 0) (List.take a.toNat (clearL (0 : Int) a.toNat (s.length : Int).toNat s)) = bridgesF n ls := by
        show List.take a.toNat (clearL (0 : Int) a.toNat (s.length : Int).toNat s) = _
        unfold clearL
        rw [List.take_append_of_le_length (by rw [List.length_take]; omega), List.take_take, Nat.min_self, k4]
        exact hEq
      refine ⟨⟨k0, by omega, Int.le_refl _⟩, ⟨Int.le_refl _, k0, by rw [hcl]; omega⟩, fun h' => absurd h h', fun _ => ⟨hct, by trivial⟩⟩
end Go.Proofs.YtppgpdigopffbaaGreat
namespace Go.Proofs.YtppgpdigopffbaaGreat
open Go.Vc Go.Gw
def an_natural_cut : An := { loop := [(2, ⟨[0], [], [(3, false, [.val (.int .i64)])], [], []⟩)] }
def sp_natural_cut : Specs := []
def an_natural_FromUint64 : An := {}
def sp_natural_FromUint64 : Specs := [(102, s_natural_cut)]
def an_natural_word : An := { loop := [(3, ⟨[6, 7], [], [(3, false, [.val (.int .u64)]), (8, false, [.val (.int .i64)])], [], []⟩)] }
def sp_natural_word : Specs := []
def an_natural_Uint64 : An := {}
def sp_natural_Uint64 : Specs := [(102, s_natural_cut), (122, s_natural_word)]
def an_natural_Compare : An := { loop := [(7, ⟨[0, 1], [], [(5, false, [.val (.int .i64)])], [], []⟩)], plan := [(9, [3, 7], [], true, (.p 0 (.p 1 (.p 2 (.q 3 (.p 4 (.p 5 (.p 6 (.q 7 (.p 8 .done)))))))))), (11, [3, 7], [], true, (.p 0 (.p 1 (.p 2 (.q 3 (.p 4 (.p 5 (.p 6 (.q 7 (.p 8 .done))))))))))] }
def sp_natural_Compare : Specs := [(102, s_natural_cut)]
def an_integer_signed : An := {}
def sp_integer_signed : Specs := []
def an_integer_FromInt : An := {}
def sp_integer_FromInt : Specs := [(84, s_integer_signed), (85, s_natural_FromUint64)]
def an_integer_Sign : An := {}
def sp_integer_Sign : Specs := [(106, s_natural_Compare)]
def an_rational_FromInt : An := {}
def sp_rational_FromInt : Specs := [(65, s_integer_FromInt)]
def an_rational_parts : An := { plan := [(3, [1], [4], false, (.p 0 (.q 1 (.p 2 (.or 3 (.e 4 (.p 5 .done)) (.e 4 (.e 3 (.p 5 .done))))))))] }
def sp_rational_parts : Specs := [(106, s_natural_Compare)]
def an_rational_Sign : An := {}
def sp_rational_Sign : Specs := [(94, s_rational_parts), (103, s_integer_Sign)]
def an_rational_small : An := {}
def sp_rational_small : Specs := [(110, s_natural_Uint64)]
def an_rational_quotient : An := { join := [(4, ⟨[0, 1, 4], [0], [(5, false, [.val (.int .u64)])], [], []⟩)], loop := [(5, ⟨[0, 1, 4, 5], [0], [(6, false, [.val (.int .u64)]), (7, false, [.val (.int .u64)])], [], []⟩)], plan := [(6, [], [], true, (.p 0 (.p 1 (.p 2 (.p 3 (.p 4 (.p 5 .done))))))), (7, [], [13], true, (.p 0 (.p 1 (.p 2 (.p 3 (.p 4 (.p 7 (.p 8 (.p 9 (.p 10 (.e 5 (.p 6 (.e 11 (.p 12 (.e 13 .done)))))))))))))))] }
def sp_rational_quotient : Specs := [(85, s_natural_FromUint64)]
def an_rational_Norm : An := {}
def sp_rational_Norm : Specs := [(91, s_rational_small), (92, s_rational_quotient), (93, s_rational_lowest), (94, s_rational_parts)]
def an_cmp_Compare_int : An := {}
def sp_cmp_Compare_int : Specs := [(83, s_cmp_isNaN_int)]
def vc_natural_cut : dens s_natural_cut.args → Prop := fun (x : List Int × Unit) => ∃ (I : Int × Unit → Prop), ∃ (μ : Int × Unit → Nat), I ((↑(List.length x.fst) : Int), ()) ∧ ∀ (p : Int × Unit), In64 p.fst ∧ True → I p → (decide ((0 : Int) < p.fst) = true → (0 : Int) ≤ IntKind.i64.wrap (p.fst - (1 : Int)) ∧ IntKind.i64.wrap (p.fst - (1 : Int)) < (↑(List.length x.fst) : Int)) ∧ (sel (decide ((0 : Int) < p.fst)) (decide (gx (0 : Int) x.fst (IntKind.i64.wrap (p.fst - (1 : Int))) = (0 : Int))) false = true → I (IntKind.i64.wrap (p.fst - (1 : Int)), ()) ∧ μ (IntKind.i64.wrap (p.fst - (1 : Int)), ()) < μ p) ∧ (sel (decide ((0 : Int) < p.fst)) (decide (gx (0 : Int) x.fst (IntKind.i64.wrap (p.fst - (1 : Int))) = (0 : Int))) false = false → ((0 : Int) ≤ (0 : Int) ∧ (0 : Int) ≤ p.fst ∧ p.fst ≤ (↑(List.length x.fst) : Int)) ∧ List.drop (Int.toNat (0 : Int)) (List.take (Int.toNat p.fst) x.fst) = nc (nv x.fst))
theorem vc_natural_cut_eq (x : dens s_natural_cut.args) : semF ⟨Tryz.prog, tys⟩ sp_natural_cut an_natural_cut s_natural_cut Tryz.f102.results.toList (Tryz.f102.body.getD .skip) x = vc_natural_cut x := by kernel_rfl
theorem m_natural_cut (hsp : SpOk Tryz.prog sp_natural_cut) (h : ∀ x, awf s_natural_cut.args x → s_natural_cut.pre x → vc_natural_cut x) : Meets Tryz.prog 102 s_natural_cut := meets_vc (cx := ⟨Tryz.prog, tys⟩) (sp := sp_natural_cut) (an := an_natural_cut) (s := s_natural_cut) (fn := Tryz.f102) (c := Tryz.f102.body.getD .skip) Tryz.func102 (by kernel_rfl) (Nat.le_of_ble_eq_true (by kernel_rfl)) (by kernel_rfl) tys_ok hsp vc_natural_cut_eq h
def vc_natural_FromUint64 : dens s_natural_FromUint64.args → Prop := fun (x : Int × Unit) => (0 : (Ty.int IntKind.u64).den) ≤ (32 : Int) ∧ True ∧ ∀ (r : List Int × Unit), WfU r.fst ∧ True → r.fst = nc (nv [IntKind.u32.wrap x.fst, IntKind.u32.wrap (Int.fdiv x.fst ((2 : Int) ^ Min.min (Int.toNat (32 : Int)) IntKind.u64.bits))]) → r.fst = nc x.fst.toNat
theorem vc_natural_FromUint64_eq (x : dens s_natural_FromUint64.args) : semF ⟨Tryz.prog, tys⟩ sp_natural_FromUint64 an_natural_FromUint64 s_natural_FromUint64 Tryz.f85.results.toList (Tryz.f85.body.getD .skip) x = vc_natural_FromUint64 x := by kernel_rfl
theorem m_natural_FromUint64 (hsp : SpOk Tryz.prog sp_natural_FromUint64) (h : ∀ x, awf s_natural_FromUint64.args x → s_natural_FromUint64.pre x → vc_natural_FromUint64 x) : Meets Tryz.prog 85 s_natural_FromUint64 := meets_vc (cx := ⟨Tryz.prog, tys⟩) (sp := sp_natural_FromUint64) (an := an_natural_FromUint64) (s := s_natural_FromUint64) (fn := Tryz.f85) (c := Tryz.f85.body.getD .skip) Tryz.func85 (by kernel_rfl) (Nat.le_of_ble_eq_true (by kernel_rfl)) (by kernel_rfl) tys_ok hsp vc_natural_FromUint64_eq h
def vc_natural_word : dens s_natural_word.args → Prop := fun (x : List Int × Unit) => ∃ (I : Int × Int × Unit → Prop), ∃ (μ : Int × Int × Unit → Nat), I ((0 : Int), (0 : Int), ()) ∧ ∀ (p : Int × Int × Unit), InU64 p.fst ∧ In64 p.snd.fst ∧ True → I p → (decide (p.snd.fst < (↑(List.length x.fst) : Int)) = true → ((0 : Int) ≤ p.snd.fst ∧ p.snd.fst < (↑(List.length x.fst) : Int)) ∧ (0 : (Ty.int IntKind.i64).den) ≤ IntKind.i64.wrap ((32 : Int) * p.snd.fst) ∧ I (IntKind.u64.wrap (↑(BitVec.ofInt IntKind.u64.bits p.fst ||| BitVec.ofInt IntKind.u64.bits (IntKind.u64.wrap (IntKind.u64.wrap (gx (0 : Int) x.fst p.snd.fst) * (2 : Int) ^ Min.min (IntKind.i64.wrap ((32 : Int) * p.snd.fst)).toNat IntKind.u64.bits))).toNat : Int), IntKind.i64.wrap (p.snd.fst + (1 : Int)), ()) ∧ μ (IntKind.u64.wrap (↑(BitVec.ofInt IntKind.u64.bits p.fst ||| BitVec.ofInt IntKind.u64.bits (IntKind.u64.wrap (IntKind.u64.wrap (gx (0 : Int) x.fst p.snd.fst) * (2 : Int) ^ Min.min (IntKind.i64.wrap ((32 : Int) * p.snd.fst)).toNat IntKind.u64.bits))).toNat : Int), IntKind.i64.wrap (p.snd.fst + (1 : Int)), ()) < μ p) ∧ (decide (p.snd.fst < (↑(List.length x.fst) : Int)) = false → p.fst = (↑(nv x.fst) : Int))
theorem vc_natural_word_eq (x : dens s_natural_word.args) : semF ⟨Tryz.prog, tys⟩ sp_natural_word an_natural_word s_natural_word Tryz.f122.results.toList (Tryz.f122.body.getD .skip) x = vc_natural_word x := by kernel_rfl
theorem m_natural_word (hsp : SpOk Tryz.prog sp_natural_word) (h : ∀ x, awf s_natural_word.args x → s_natural_word.pre x → vc_natural_word x) : Meets Tryz.prog 122 s_natural_word := meets_vc (cx := ⟨Tryz.prog, tys⟩) (sp := sp_natural_word) (an := an_natural_word) (s := s_natural_word) (fn := Tryz.f122) (c := Tryz.f122.body.getD .skip) Tryz.func122 (by kernel_rfl) (Nat.le_of_ble_eq_true (by kernel_rfl)) (by kernel_rfl) tys_ok hsp vc_natural_word_eq h
def vc_natural_Uint64 : dens s_natural_Uint64.args → Prop := fun (x : List Int × Unit) => True ∧ ∀ (r : List Int × Unit), WfU r.fst ∧ True → r.fst = nc (nv x.fst) → (decide ((2 : Int) < (↑(List.length r.fst) : Int)) = true → (nv x.fst < (18446744073709551616 : Nat) → (0 : Int) = (↑(nv x.fst) : Int) ∧ false = true) ∧ ((18446744073709551616 : Nat) ≤ nv x.fst → false = false)) ∧ (decide ((2 : Int) < (↑(List.length r.fst) : Int)) = false → List.length r.fst ≤ (2 : Nat) ∧ ∀ (r_1 : Int × Unit), InU64 r_1.fst ∧ True → r_1.fst = (↑(nv r.fst) : Int) → (nv x.fst < (18446744073709551616 : Nat) → r_1.fst = (↑(nv x.fst) : Int) ∧ true = true) ∧ ((18446744073709551616 : Nat) ≤ nv x.fst → true = false))
theorem vc_natural_Uint64_eq (x : dens s_natural_Uint64.args) : semF ⟨Tryz.prog, tys⟩ sp_natural_Uint64 an_natural_Uint64 s_natural_Uint64 Tryz.f110.results.toList (Tryz.f110.body.getD .skip) x = vc_natural_Uint64 x := by kernel_rfl
theorem m_natural_Uint64 (hsp : SpOk Tryz.prog sp_natural_Uint64) (h : ∀ x, awf s_natural_Uint64.args x → s_natural_Uint64.pre x → vc_natural_Uint64 x) : Meets Tryz.prog 110 s_natural_Uint64 := meets_vc (cx := ⟨Tryz.prog, tys⟩) (sp := sp_natural_Uint64) (an := an_natural_Uint64) (s := s_natural_Uint64) (fn := Tryz.f110) (c := Tryz.f110.body.getD .skip) Tryz.func110 (by kernel_rfl) (Nat.le_of_ble_eq_true (by kernel_rfl)) (by kernel_rfl) tys_ok hsp vc_natural_Uint64_eq h
def vc_natural_Compare : dens s_natural_Compare.args → Prop := fun (x : List Int × List Int × Unit) => True ∧ ∀ (r : List Int × Unit), WfU r.fst ∧ True → r.fst = nc (nv x.fst) → True ∧ ∀ (r_1 : List Int × Unit), WfU r_1.fst ∧ True → r_1.fst = nc (nv x.snd.fst) → (decide ((↑(List.length r.fst) : Int) ≠ (↑(List.length r_1.fst) : Int)) = true → (decide ((↑(List.length r.fst) : Int) < (↑(List.length r_1.fst) : Int)) = true → (-1 : Int) = ncmp (nv x.fst) (nv x.snd.fst)) ∧ (decide ((↑(List.length r.fst) : Int) < (↑(List.length r_1.fst) : Int)) = false → (1 : Int) = ncmp (nv x.fst) (nv x.snd.fst))) ∧ (decide ((↑(List.length r.fst) : Int) ≠ (↑(List.length r_1.fst) : Int)) = false → ∃ (I : Int × Unit → Prop), ∃ (μ : Int × Unit → Nat), I (IntKind.i64.wrap ((↑(List.length r.fst) : Int) - (1 : Int)), ()) ∧ ∀ (p : Int × Unit), In64 p.fst ∧ True → I p → (decide ((0 : Int) ≤ p.fst) = true → ((0 : Int) ≤ p.fst ∧ p.fst < (↑(List.length r.fst) : Int)) ∧ ((0 : Int) ≤ p.fst ∧ p.fst < (↑(List.length r_1.fst) : Int)) ∧ (decide (gx (0 : Int) r.fst p.fst < gx (0 : Int) r_1.fst p.fst) = true → (-1 : Int) = ncmp (nv x.fst) (nv x.snd.fst)) ∧ (decide (gx (0 : Int) r.fst p.fst < gx (0 : Int) r_1.fst p.fst) = false → ((0 : Int) ≤ p.fst ∧ p.fst < (↑(List.length r.fst) : Int)) ∧ ((0 : Int) ≤ p.fst ∧ p.fst < (↑(List.length r_1.fst) : Int)) ∧ (decide (gx (0 : Int) r_1.fst p.fst < gx (0 : Int) r.fst p.fst) = true → (1 : Int) = ncmp (nv x.fst) (nv x.snd.fst)) ∧ (decide (gx (0 : Int) r_1.fst p.fst < gx (0 : Int) r.fst p.fst) = false → I (IntKind.i64.wrap (p.fst - (1 : Int)), ()) ∧ μ (IntKind.i64.wrap (p.fst - (1 : Int)), ()) < μ p))) ∧ (decide ((0 : Int) ≤ p.fst) = false → (0 : Int) = ncmp (nv x.fst) (nv x.snd.fst)))
theorem vc_natural_Compare_eq (x : dens s_natural_Compare.args) : semF ⟨Tryz.prog, tys⟩ sp_natural_Compare an_natural_Compare s_natural_Compare Tryz.f106.results.toList (Tryz.f106.body.getD .skip) x = vc_natural_Compare x := by kernel_rfl
theorem m_natural_Compare (hsp : SpOk Tryz.prog sp_natural_Compare) (h : ∀ x, awf s_natural_Compare.args x → s_natural_Compare.pre x → vc_natural_Compare x) : Meets Tryz.prog 106 s_natural_Compare := meets_vc (cx := ⟨Tryz.prog, tys⟩) (sp := sp_natural_Compare) (an := an_natural_Compare) (s := s_natural_Compare) (fn := Tryz.f106) (c := Tryz.f106.body.getD .skip) Tryz.func106 (by kernel_rfl) (Nat.le_of_ble_eq_true (by kernel_rfl)) (by kernel_rfl) tys_ok hsp vc_natural_Compare_eq h
def vc_integer_signed : dens s_integer_signed.args → Prop := fun (x : Bool × List Int × Unit) => (sel x.fst (decide ((0 : Int) < (↑(List.length x.snd.fst) : Int))) false, x.snd.fst) = (x.fst && decide (x.snd.fst ≠ []), x.snd.fst)
theorem vc_integer_signed_eq (x : dens s_integer_signed.args) : semF ⟨Tryz.prog, tys⟩ sp_integer_signed an_integer_signed s_integer_signed Tryz.f84.results.toList (Tryz.f84.body.getD .skip) x = vc_integer_signed x := by kernel_rfl
theorem m_integer_signed (hsp : SpOk Tryz.prog sp_integer_signed) (h : ∀ x, awf s_integer_signed.args x → s_integer_signed.pre x → vc_integer_signed x) : Meets Tryz.prog 84 s_integer_signed := meets_vc (cx := ⟨Tryz.prog, tys⟩) (sp := sp_integer_signed) (an := an_integer_signed) (s := s_integer_signed) (fn := Tryz.f84) (c := Tryz.f84.body.getD .skip) Tryz.func84 (by kernel_rfl) (Nat.le_of_ble_eq_true (by kernel_rfl)) (by kernel_rfl) tys_ok hsp vc_integer_signed_eq h
def vc_integer_FromInt : dens s_integer_FromInt.args → Prop := fun (x : Int × Unit) => (decide (x.fst < (0 : Int)) = true → True ∧ ∀ (r : List Int × Unit), WfU r.fst ∧ True → r.fst = nc (IntKind.u64.wrap (-IntKind.u64.wrap x.fst)).toNat → True ∧ ∀ (r_1 : (Bool × List Int) × Unit), WfZ r_1.fst ∧ True → r_1.fst = (true && decide (r.fst ≠ []), r.fst) → r_1.fst = ic x.fst) ∧ (decide (x.fst < (0 : Int)) = false → True ∧ ∀ (r : List Int × Unit), WfU r.fst ∧ True → r.fst = nc (IntKind.u64.wrap x.fst).toNat → True ∧ ∀ (r_1 : (Bool × List Int) × Unit), WfZ r_1.fst ∧ True → r_1.fst = (false && decide (r.fst ≠ []), r.fst) → r_1.fst = ic x.fst)
theorem vc_integer_FromInt_eq (x : dens s_integer_FromInt.args) : semF ⟨Tryz.prog, tys⟩ sp_integer_FromInt an_integer_FromInt s_integer_FromInt Tryz.f65.results.toList (Tryz.f65.body.getD .skip) x = vc_integer_FromInt x := by kernel_rfl
theorem m_integer_FromInt (hsp : SpOk Tryz.prog sp_integer_FromInt) (h : ∀ x, awf s_integer_FromInt.args x → s_integer_FromInt.pre x → vc_integer_FromInt x) : Meets Tryz.prog 65 s_integer_FromInt := meets_vc (cx := ⟨Tryz.prog, tys⟩) (sp := sp_integer_FromInt) (an := an_integer_FromInt) (s := s_integer_FromInt) (fn := Tryz.f65) (c := Tryz.f65.body.getD .skip) Tryz.func65 (by kernel_rfl) (Nat.le_of_ble_eq_true (by kernel_rfl)) (by kernel_rfl) tys_ok hsp vc_integer_FromInt_eq h
def vc_integer_Sign : dens s_integer_Sign.args → Prop := fun (x : (Bool × List Int) × Unit) => True ∧ ∀ (r : Int × Unit), In64 r.fst ∧ True → r.fst = ncmp (nv x.fst.snd) (nv []) → (decide (r.fst = (0 : Int)) = true → (0 : Int) = (iv x.fst).sign) ∧ (decide (r.fst = (0 : Int)) = false → (x.fst.fst = true → (-1 : Int) = (iv x.fst).sign) ∧ (x.fst.fst = false → (1 : Int) = (iv x.fst).sign))
theorem vc_integer_Sign_eq (x : dens s_integer_Sign.args) : semF ⟨Tryz.prog, tys⟩ sp_integer_Sign an_integer_Sign s_integer_Sign Tryz.f103.results.toList (Tryz.f103.body.getD .skip) x = vc_integer_Sign x := by kernel_rfl
theorem m_integer_Sign (hsp : SpOk Tryz.prog sp_integer_Sign) (h : ∀ x, awf s_integer_Sign.args x → s_integer_Sign.pre x → vc_integer_Sign x) : Meets Tryz.prog 103 s_integer_Sign := meets_vc (cx := ⟨Tryz.prog, tys⟩) (sp := sp_integer_Sign) (an := an_integer_Sign) (s := s_integer_Sign) (fn := Tryz.f103) (c := Tryz.f103.body.getD .skip) Tryz.func103 (by kernel_rfl) (Nat.le_of_ble_eq_true (by kernel_rfl)) (by kernel_rfl) tys_ok hsp vc_integer_Sign_eq h
def vc_rational_FromInt : dens s_rational_FromInt.args → Prop := fun (x : Int × Unit) => True ∧ ∀ (r : (Bool × List Int) × Unit), WfZ r.fst ∧ True → r.fst = ic x.fst → (r.fst, [(1 : Int)]) = ri x.fst
theorem vc_rational_FromInt_eq (x : dens s_rational_FromInt.args) : semF ⟨Tryz.prog, tys⟩ sp_rational_FromInt an_rational_FromInt s_rational_FromInt Tryz.f41.results.toList (Tryz.f41.body.getD .skip) x = vc_rational_FromInt x := by kernel_rfl
theorem m_rational_FromInt (hsp : SpOk Tryz.prog sp_rational_FromInt) (h : ∀ x, awf s_rational_FromInt.args x → s_rational_FromInt.pre x → vc_rational_FromInt x) : Meets Tryz.prog 41 s_rational_FromInt := meets_vc (cx := ⟨Tryz.prog, tys⟩) (sp := sp_rational_FromInt) (an := an_rational_FromInt) (s := s_rational_FromInt) (fn := Tryz.f41) (c := Tryz.f41.body.getD .skip) Tryz.func41 (by kernel_rfl) (Nat.le_of_ble_eq_true (by kernel_rfl)) (by kernel_rfl) tys_ok hsp vc_rational_FromInt_eq h
def vc_rational_parts : dens s_rational_parts.args → Prop := fun (x : QQ × Unit) => True ∧ ∀ (r : Int × Unit), In64 r.fst ∧ True → r.fst = ncmp (nv x.fst.snd) (nv []) → (decide (r.fst = (0 : Int)) = true → (nv x.fst.snd = (0 : Nat) → (false, []) = zi ∧ [(1 : Int)] = [(1 : Int)]) ∧ (nv x.fst.snd ≠ (0 : Nat) → (false, []) = x.fst.fst ∧ [(1 : Int)] = x.fst.snd)) ∧ (decide (r.fst = (0 : Int)) = false → ((nv x.fst.snd = (0 : Nat) → x.fst.fst = zi ∧ x.fst.snd = [(1 : Int)]) ∧ (nv x.fst.snd ≠ (0 : Nat) → x.fst.fst = x.fst.fst ∧ x.fst.snd = x.fst.snd)) ∧ (nv x.fst.snd = (0 : Nat) → x.fst.fst = zi ∧ x.fst.snd = [(1 : Int)]) ∧ (nv x.fst.snd ≠ (0 : Nat) → x.fst.fst = x.fst.fst ∧ x.fst.snd = x.fst.snd))
theorem vc_rational_parts_eq (x : dens s_rational_parts.args) : semF ⟨Tryz.prog, tys⟩ sp_rational_parts an_rational_parts s_rational_parts Tryz.f94.results.toList (Tryz.f94.body.getD .skip) x = vc_rational_parts x := by kernel_rfl
theorem m_rational_parts (hsp : SpOk Tryz.prog sp_rational_parts) (h : ∀ x, awf s_rational_parts.args x → s_rational_parts.pre x → vc_rational_parts x) : Meets Tryz.prog 94 s_rational_parts := meets_vc (cx := ⟨Tryz.prog, tys⟩) (sp := sp_rational_parts) (an := an_rational_parts) (s := s_rational_parts) (fn := Tryz.f94) (c := Tryz.f94.body.getD .skip) Tryz.func94 (by kernel_rfl) (Nat.le_of_ble_eq_true (by kernel_rfl)) (by kernel_rfl) tys_ok hsp vc_rational_parts_eq h
def vc_rational_Sign : dens s_rational_Sign.args → Prop := fun (x : QQ × Unit) => True ∧ ∀ (r : (Bool × List Int) × List Int × Unit), WfZ r.fst ∧ WfU r.snd.fst ∧ True → (nv x.fst.snd = (0 : Nat) → r.fst = zi ∧ r.snd.fst = [(1 : Int)]) ∧ (nv x.fst.snd ≠ (0 : Nat) → r.fst = x.fst.fst ∧ r.snd.fst = x.fst.snd) → True ∧ ∀ (r_1 : Int × Unit), In64 r_1.fst ∧ True → r_1.fst = (iv r.fst).sign → r_1.fst = rsgn x.fst
theorem vc_rational_Sign_eq (x : dens s_rational_Sign.args) : semF ⟨Tryz.prog, tys⟩ sp_rational_Sign an_rational_Sign s_rational_Sign Tryz.f86.results.toList (Tryz.f86.body.getD .skip) x = vc_rational_Sign x := by kernel_rfl
theorem m_rational_Sign (hsp : SpOk Tryz.prog sp_rational_Sign) (h : ∀ x, awf s_rational_Sign.args x → s_rational_Sign.pre x → vc_rational_Sign x) : Meets Tryz.prog 86 s_rational_Sign := meets_vc (cx := ⟨Tryz.prog, tys⟩) (sp := sp_rational_Sign) (an := an_rational_Sign) (s := s_rational_Sign) (fn := Tryz.f86) (c := Tryz.f86.body.getD .skip) Tryz.func86 (by kernel_rfl) (Nat.le_of_ble_eq_true (by kernel_rfl)) (by kernel_rfl) tys_ok hsp vc_rational_Sign_eq h
def vc_rational_small : dens s_rational_small.args → Prop := fun (x : QQ × Unit) => True ∧ ∀ (r : Int × Bool × Unit), InU64 r.fst ∧ True ∧ True → (nv x.fst.fst.snd < (18446744073709551616 : Nat) → r.fst = (↑(nv x.fst.fst.snd) : Int) ∧ r.snd.fst = true) ∧ ((18446744073709551616 : Nat) ≤ nv x.fst.fst.snd → r.snd.fst = false) → True ∧ ∀ (r_1 : Int × Bool × Unit), InU64 r_1.fst ∧ True ∧ True → (nv x.fst.snd < (18446744073709551616 : Nat) → r_1.fst = (↑(nv x.fst.snd) : Int) ∧ r_1.snd.fst = true) ∧ ((18446744073709551616 : Nat) ≤ nv x.fst.snd → r_1.snd.fst = false) → (sel (sel (sel (!r.snd.fst) true !r_1.snd.fst) true (decide ((2147483648 : Int) ≤ r.fst))) true (decide ((2147483648 : Int) ≤ r_1.fst)) = true → (smallR x.fst → (0 : Int) = numS x.fst ∧ (0 : Int) = denS x.fst ∧ false = true) ∧ (¬smallR x.fst → false = false)) ∧ (sel (sel (sel (!r.snd.fst) true !r_1.snd.fst) true (decide ((2147483648 : Int) ≤ r.fst))) true (decide ((2147483648 : Int) ≤ r_1.fst)) = false → (decide (r_1.fst = (0 : Int)) = true → (smallR x.fst → (0 : Int) = numS x.fst ∧ (1 : Int) = denS x.fst ∧ true = true) ∧ (¬smallR x.fst → true = false)) ∧ (decide (r_1.fst = (0 : Int)) = false → (x.fst.fst.fst = true → (smallR x.fst → IntKind.i64.wrap (-IntKind.i64.wrap r.fst) = numS x.fst ∧ IntKind.i64.wrap r_1.fst = denS x.fst ∧ true = true) ∧ (¬smallR x.fst → true = false)) ∧ (x.fst.fst.fst = false → (smallR x.fst → IntKind.i64.wrap r.fst = numS x.fst ∧ IntKind.i64.wrap r_1.fst = denS x.fst ∧ true = true) ∧ (¬smallR x.fst → true = false))))
theorem vc_rational_small_eq (x : dens s_rational_small.args) : semF ⟨Tryz.prog, tys⟩ sp_rational_small an_rational_small s_rational_small Tryz.f91.results.toList (Tryz.f91.body.getD .skip) x = vc_rational_small x := by kernel_rfl
theorem m_rational_small (hsp : SpOk Tryz.prog sp_rational_small) (h : ∀ x, awf s_rational_small.args x → s_rational_small.pre x → vc_rational_small x) : Meets Tryz.prog 91 s_rational_small := meets_vc (cx := ⟨Tryz.prog, tys⟩) (sp := sp_rational_small) (an := an_rational_small) (s := s_rational_small) (fn := Tryz.f91) (c := Tryz.f91.body.getD .skip) Tryz.func91 (by kernel_rfl) (Nat.le_of_ble_eq_true (by kernel_rfl)) (by kernel_rfl) tys_ok hsp vc_rational_small_eq h
def vc_rational_quotient : dens s_rational_quotient.args → Prop := fun (x : Int × Int × Unit) => ∃ (J : Int × Unit → Prop), ((decide (x.fst < (0 : Int)) = true → J (IntKind.u64.wrap (-IntKind.u64.wrap x.fst), ())) ∧ (decide (x.fst < (0 : Int)) = false → J (IntKind.u64.wrap x.fst, ()))) ∧ ∀ (p : Int × Unit), InU64 p.fst ∧ True → J p → ∃ (I : Int × Int × Unit → Prop), ∃ (μ : Int × Int × Unit → Nat), I (IntKind.u64.wrap x.snd.fst, p) ∧ ∀ (p_1 : Int × Int × Unit), InU64 p_1.fst ∧ InU64 p_1.snd.fst ∧ True → I p_1 → (decide (p_1.snd.fst ≠ (0 : Int)) = true → p_1.snd.fst ≠ (0 : Int) ∧ I (p_1.snd.fst, Int.tmod p_1.fst p_1.snd.fst, ()) ∧ μ (p_1.snd.fst, Int.tmod p_1.fst p_1.snd.fst, ()) < μ p_1) ∧ (decide (p_1.snd.fst ≠ (0 : Int)) = false → p_1.fst ≠ (0 : Int) ∧ p_1.fst ≠ (0 : Int) ∧ True ∧ ∀ (r : List Int × Unit), WfU r.fst ∧ True → r.fst = nc (IntKind.u64.wrap (Int.tdiv p.fst p_1.fst)).toNat → True ∧ ∀ (r_1 : List Int × Unit), WfU r_1.fst ∧ True → r_1.fst = nc (IntKind.u64.wrap ((IntKind.u64.wrap x.snd.fst).tdiv p_1.fst)).toNat → ((decide (x.fst < (0 : Int)), r.fst), r_1.fst) = rc (mkRat x.fst x.snd.fst.toNat))
theorem vc_rational_quotient_eq (x : dens s_rational_quotient.args) : semF ⟨Tryz.prog, tys⟩ sp_rational_quotient an_rational_quotient s_rational_quotient Tryz.f92.results.toList (Tryz.f92.body.getD .skip) x = vc_rational_quotient x := by kernel_rfl
theorem m_rational_quotient (hsp : SpOk Tryz.prog sp_rational_quotient) (h : ∀ x, awf s_rational_quotient.args x → s_rational_quotient.pre x → vc_rational_quotient x) : Meets Tryz.prog 92 s_rational_quotient := meets_vc (cx := ⟨Tryz.prog, tys⟩) (sp := sp_rational_quotient) (an := an_rational_quotient) (s := s_rational_quotient) (fn := Tryz.f92) (c := Tryz.f92.body.getD .skip) Tryz.func92 (by kernel_rfl) (Nat.le_of_ble_eq_true (by kernel_rfl)) (by kernel_rfl) tys_ok hsp vc_rational_quotient_eq h
def vc_rational_Norm : dens s_rational_Norm.args → Prop := fun (x : QQ × Unit) => True ∧ ∀ (r : Int × Int × Bool × Unit), In64 r.fst ∧ In64 r.snd.fst ∧ True ∧ True → (smallR x.fst → r.fst = numS x.fst ∧ r.snd.fst = denS x.fst ∧ r.snd.snd.fst = true) ∧ (¬smallR x.fst → r.snd.snd.fst = false) → (r.snd.snd.fst = true → ((0 : Int) < r.snd.fst ∧ r.snd.fst ≤ (4611686018427387904 : Int) ∧ (-4611686018427387904 : Int) ≤ r.fst ∧ r.fst ≤ (4611686018427387904 : Int)) ∧ ∀ (r_1 : QQ × Unit), WfQ r_1.fst ∧ True → r_1.fst = rc (mkRat r.fst (Int.toNat r.snd.fst)) → r_1.fst = rc (rv x.fst)) ∧ (r.snd.snd.fst = false → True ∧ ∀ (r : (Bool × List Int) × List Int × Unit), WfZ r.fst ∧ WfU r.snd.fst ∧ True → (nv x.fst.snd = (0 : Nat) → r.fst = zi ∧ r.snd.fst = [(1 : Int)]) ∧ (nv x.fst.snd ≠ (0 : Nat) → r.fst = x.fst.fst ∧ r.snd.fst = x.fst.snd) → False ∧ ∀ (r : QQ × Unit), WfQ r.fst ∧ True → True → r.fst = rc (rv x.fst))
theorem vc_rational_Norm_eq (x : dens s_rational_Norm.args) : semF ⟨Tryz.prog, tys⟩ sp_rational_Norm an_rational_Norm s_rational_Norm Tryz.f69.results.toList (Tryz.f69.body.getD .skip) x = vc_rational_Norm x := by kernel_rfl
theorem m_rational_Norm (hsp : SpOk Tryz.prog sp_rational_Norm) (h : ∀ x, awf s_rational_Norm.args x → s_rational_Norm.pre x → vc_rational_Norm x) : Meets Tryz.prog 69 s_rational_Norm := meets_vc (cx := ⟨Tryz.prog, tys⟩) (sp := sp_rational_Norm) (an := an_rational_Norm) (s := s_rational_Norm) (fn := Tryz.f69) (c := Tryz.f69.body.getD .skip) Tryz.func69 (by kernel_rfl) (Nat.le_of_ble_eq_true (by kernel_rfl)) (by kernel_rfl) tys_ok hsp vc_rational_Norm_eq h
def vc_cmp_Compare_int : dens s_cmp_Compare_int.args → Prop := fun (x : Int × Int × Unit) => True ∧ ∀ (r : Bool × Unit), True ∧ True → r.fst = false → True ∧ ∀ (r_1 : Bool × Unit), True ∧ True → r_1.fst = false → (r.fst = true → (r_1.fst = true → (0 : Int) = cmpI x.fst x.snd.fst) ∧ (r_1.fst = false → (-1 : Int) = cmpI x.fst x.snd.fst)) ∧ (r.fst = false → (r_1.fst = true → (1 : Int) = cmpI x.fst x.snd.fst) ∧ (r_1.fst = false → (decide (x.fst < x.snd.fst) = true → (-1 : Int) = cmpI x.fst x.snd.fst) ∧ (decide (x.fst < x.snd.fst) = false → (decide (x.snd.fst < x.fst) = true → (1 : Int) = cmpI x.fst x.snd.fst) ∧ (decide (x.snd.fst < x.fst) = false → (0 : Int) = cmpI x.fst x.snd.fst))))
theorem vc_cmp_Compare_int_eq (x : dens s_cmp_Compare_int.args) : semF ⟨Tryz.prog, tys⟩ sp_cmp_Compare_int an_cmp_Compare_int s_cmp_Compare_int Tryz.f105.results.toList (Tryz.f105.body.getD .skip) x = vc_cmp_Compare_int x := by kernel_rfl
theorem m_cmp_Compare_int (hsp : SpOk Tryz.prog sp_cmp_Compare_int) (h : ∀ x, awf s_cmp_Compare_int.args x → s_cmp_Compare_int.pre x → vc_cmp_Compare_int x) : Meets Tryz.prog 105 s_cmp_Compare_int := meets_vc (cx := ⟨Tryz.prog, tys⟩) (sp := sp_cmp_Compare_int) (an := an_cmp_Compare_int) (s := s_cmp_Compare_int) (fn := Tryz.f105) (c := Tryz.f105.body.getD .skip) Tryz.func105 (by kernel_rfl) (Nat.le_of_ble_eq_true (by kernel_rfl)) (by kernel_rfl) tys_ok hsp vc_cmp_Compare_int_eq h
end Go.Proofs.YtppgpdigopffbaaGreat
namespace Go.Proofs.YtppgpdigopffbaaGreat
open Go.Vc Go.Gw
theorem vc_natural_cut_ok (x : dens s_natural_cut.args) (hw : awf s_natural_cut.args x) (_ : s_natural_cut.pre x) : vc_natural_cut x := by
  obtain ⟨l, _⟩ := x
  have hl : l.length ≤ 9223372036854775807 := hw.1.1
  have hb : limbs l := limbs_of hw.1.2
  change List Int at l
  simp only [vc_natural_cut]
  refine ⟨fun p => 0 ≤ p.1 ∧ p.1 ≤ (l.length : Int) ∧ ∀ i x, p.1.toNat ≤ i → l[i]? = some x → x = 0, fun p => p.1.toNat, ⟨Int.natCast_nonneg _, Int.le_refl _, fun i x hi hx => ?_⟩, ?_⟩
  · rw [List.getElem?_eq_none (by simpa using hi)] at hx; cases hx
  rintro ⟨n, _⟩ _ ⟨h0, h1, h2⟩
  change Int at n
  simp only at h0 h1 h2 ⊢
  refine ⟨fun h => ?_, fun h => ?_, fun h => ?_⟩
  · have h := of_decide_eq_true h
    rw [wr (by omega) (by omega)]
    exact ⟨by omega, by omega⟩
  · rw [sel_and] at h
    simp only [Bool.and_eq_true, decide_eq_true_eq] at h
    obtain ⟨h3, h4⟩ := h
    rw [wr (by omega) (by omega)] at h4 ⊢
    refine ⟨⟨by omega, by omega, fun i x hi hx => ?_⟩, by omega⟩
    by_cases he : i = (n - 1).toNat
    · subst he
      rw [gx_get (d := (0 : Int)) (by omega) (by omega)] at hx
      cases hx; exact h4
    · exact h2 i x (by omega) hx
  · refine ⟨⟨Int.le_refl _, h0, h1⟩, ?_⟩
    show (l.take n.toNat).drop 0 = _
    rw [List.drop_zero]
    refine nc_take hb (by omega) h2 ?_
    rw [sel_and] at h
    simp only [Bool.and_eq_false_iff, decide_eq_false_iff_not] at h
    rcases h with h | h
    · exact .inl (by omega)
    · by_cases hn : n = 0
      · exact .inl (by omega)
      · rw [wr (by omega) (by omega)] at h
        refine .inr ⟨gx 0 l (n - 1), ?_, h⟩
        have := gx_get (d := (0 : Int)) (l := l) (i := n - 1) (by omega) (by omega)
        rw [← this]; congr 1; omega
theorem vc_natural_FromUint64_ok (x : dens s_natural_FromUint64.args) (hw : awf s_natural_FromUint64.args x) (_ : s_natural_FromUint64.pre x) : vc_natural_FromUint64 x := by
  obtain ⟨v, _⟩ := x
  change Int at v
  have hv : IntKind.u64.min ≤ v ∧ v ≤ IntKind.u64.max := hw.1
  rw [u64_min, u64_max] at hv
  simp only [vc_natural_FromUint64]
  refine ⟨by decide, trivial, ?_⟩
  rintro ⟨r, _⟩ _ hr
  simp only at hr ⊢
  rw [hr]
  congr 1
  rw [show Min.min (Int.toNat 32) IntKind.u64.bits = 32 from rfl]
  simp only [nv, w32_mod]
  rw [Int.fdiv_eq_ediv_of_nonneg _ (by decide), show (2 : Int) ^ 32 = 4294967296 from rfl]
  omega
theorem vc_natural_word_ok (x : dens s_natural_word.args) (hw : awf s_natural_word.args x) (hp : s_natural_word.pre x) : vc_natural_word x := by
  obtain ⟨l, _⟩ := x
  have hb : limbs l := limbs_of hw.1.2
  have hl : l.length ≤ 2 := hp
  change List Int at l
  simp only [vc_natural_word]
  refine ⟨fun p => 0 ≤ p.2.1 ∧ p.2.1 ≤ (l.length : Int) ∧ p.1 = (nv (l.take p.2.1.toNat) : Int), fun p => ((l.length : Int) - p.2.1).toNat, ⟨Int.le_refl _, Int.natCast_nonneg _, rfl⟩, ?_⟩
  rintro ⟨v, i, _⟩ hv ⟨h0, h1, h2⟩
  change Int at v i
  simp only at h0 h1 h2 ⊢
  refine ⟨fun h => ?_, fun h => ?_⟩
  · have h := of_decide_eq_true h
    have hg := limb_gx hb h0 h
    have hlt := nv_lt (l := l.take i.toNat) fun x hx => hb x (List.mem_of_mem_take hx)
    rw [List.length_take, Nat.min_eq_left (by omega)] at hlt
    have hs := nv_take_succ h0 h
    rw [wr (a := 32 * i) (by omega) (by omega), wr (a := i + 1) (by omega) (by omega), w64 hg.1 (by omega)]
    have hm : Min.min (32 * i).toNat IntKind.u64.bits = 32 * i.toNat := by
      show Min.min (32 * i).toNat 64 = _
      omega
    rw [hm]
    have hi : i.toNat = 0 ∨ i.toNat = 1 := by omega
    refine ⟨⟨h0, h⟩, by show (0 : Int) ≤ 32 * i; omega, ?_⟩
    have key : IntKind.u64.wrap (((BitVec.ofInt 64 v ||| BitVec.ofInt 64 (IntKind.u64.wrap (gx 0 l i * 2 ^ (32 * i.toNat)))).toNat : Nat) : Int) = (nv (l.take (i + 1).toNat) : Int) := by
      rw [hs]
      generalize gx 0 l i = b at hg
      rcases hi with hi | hi
      · rw [hi] at hlt ⊢
        have hv0 : v = 0 := by rw [h2, hi]; simp [nv]
        rw [w64 (a := b * 2 ^ (32 * 0)) (by omega) (by omega), or_add (v := v) (b := b) (k := 32 * 0) (by omega) (by omega) hg.1 (by omega) (by omega), w64 (by omega) (by omega)]
        simp [nv]
        omega
      · rw [hi] at hlt ⊢
        rw [hi] at h2
        rw [w64 (a := b * 2 ^ (32 * 1)) (by omega) (by omega), or_add (v := v) (b := b) (k := 32 * 1) (by omega) (by omega) hg.1 (by omega) (by omega), w64 (by omega) (by omega)]
        omega
    exact ⟨⟨by omega, by omega, key⟩, by omega⟩
  · have h := of_decide_eq_false h
    rw [take_all (by omega)] at h2
    exact h2
theorem vc_natural_Uint64_ok (x : dens s_natural_Uint64.args) (hw : awf s_natural_Uint64.args x) (_ : s_natural_Uint64.pre x) : vc_natural_Uint64 x := by
  obtain ⟨l, _⟩ := x
  change List Int at l
  simp only [vc_natural_Uint64]
  refine ⟨trivial, ?_⟩
  rintro ⟨r, _⟩ _ hr
  simp only at hr ⊢
  subst hr
  refine ⟨fun h => ?_, fun h => ?_⟩
  · have h := of_decide_eq_true h
    have := nc_ge (k := 2) (n := nv l) (by omega)
    refine ⟨fun h2 => ?_, fun _ => trivial⟩
    rw [show (4294967296 : Nat) ^ 2 = 18446744073709551616 from rfl] at this
    omega
  · have h := of_decide_eq_false h
    have hle : (nc (nv l)).length ≤ 2 := by omega
    refine ⟨hle, ?_⟩
    rintro ⟨r, _⟩ _ hr
    simp only at hr ⊢
    have hlt := Nat.lt_of_lt_of_le (nc_lt_pow (nv l)) (Nat.pow_le_pow_right (by decide) hle)
    rw [nv_nc] at hr
    refine ⟨fun _ => ⟨hr, trivial⟩, fun h2 => ?_⟩
    rw [show (4294967296 : Nat) ^ 2 = 18446744073709551616 from rfl] at hlt
    omega
theorem vc_natural_Compare_ok (x : dens s_natural_Compare.args) (hw : awf s_natural_Compare.args x) (_ : s_natural_Compare.pre x) : vc_natural_Compare x := by
  obtain ⟨a, b, _⟩ := x
  change List Int at a b
  simp only [vc_natural_Compare]
  refine ⟨trivial, ?_⟩
  rintro ⟨r, _⟩ ⟨⟨hla, _⟩, _⟩ hr
  simp only at hr hla ⊢
  subst hr
  refine ⟨trivial, ?_⟩
  rintro ⟨s, _⟩ ⟨⟨hlb, _⟩, _⟩ hs
  simp only at hs hlb ⊢
  subst hs
  have ha := nc_limbs (nv a)
  have hb := nc_limbs (nv b)
  refine ⟨fun hne => ⟨fun h => ?_, fun h => ?_⟩, fun hne => ?_⟩
  · have h := of_decide_eq_true h
    exact (ncmp_lt (nc_len_lt (by omega))).symm
  · have h := of_decide_eq_false h
    have hne := of_decide_eq_true hne
    exact (ncmp_gt (nc_len_lt (by omega))).symm
  · have hlen : (nc (nv a)).length = (nc (nv b)).length := by have := of_decide_eq_false hne; omega
    have ea := nv_nc (nv a)
    have eb := nv_nc (nv b)
    generalize nc (nv a) = r at *
    generalize nc (nv b) = s at *
    rw [← ea, ← eb]
    refine ⟨fun p => -1 ≤ p.1 ∧ p.1 < (r.length : Int) ∧ r.drop (p.1 + 1).toNat = s.drop (p.1 + 1).toNat, fun p => (p.1 + 1).toNat, ?_, ?_⟩
    · rw [wr (by omega) (by omega)]
      refine ⟨by omega, by omega, ?_⟩
      rw [List.drop_of_length_le (by omega), List.drop_of_length_le (by omega)]
    rintro ⟨i, _⟩ _ ⟨h0, h1, h2⟩
    change Int at i
    simp only at h0 h1 h2 ⊢
    refine ⟨fun h => ?_, fun h => ?_⟩
    · have h := of_decide_eq_true h
      refine ⟨⟨h, h1⟩, ⟨h, by omega⟩, fun hlt => ?_, fun hlt => ⟨⟨h, h1⟩, ⟨h, by omega⟩, fun hgt => ?_, fun hgt => ?_⟩⟩
      · exact (ncmp_lt (nv_top ha hb hlen h h1 h2 (of_decide_eq_true hlt))).symm
      · exact (ncmp_gt (nv_top hb ha hlen.symm h (by omega) h2.symm (of_decide_eq_true hgt))).symm
      · have hlt := of_decide_eq_false hlt
        have hgt := of_decide_eq_false hgt
        rw [wr (by omega) (by omega)]
        refine ⟨⟨by omega, by omega, ?_⟩, by omega⟩
        rw [show i - 1 + 1 = i from by omega, nv_drop_cons h h1, nv_drop_cons h (by omega), h2, show gx 0 r i = gx 0 s i from by omega]
    · have h := of_decide_eq_false h
      rw [show (i + 1).toNat = 0 from by omega, List.drop_zero, List.drop_zero] at h2
      rw [h2, ncmp_self]
theorem vc_integer_signed_ok (x : dens s_integer_signed.args) (hw : awf s_integer_signed.args x) (_ : s_integer_signed.pre x) : vc_integer_signed x := by
  obtain ⟨b, l, _⟩ := x
  change Bool at b
  change List Int at l
  simp only [vc_integer_signed, sel_and]
  cases l <;> simp
theorem vc_integer_FromInt_ok (x : dens s_integer_FromInt.args) (hw : awf s_integer_FromInt.args x) (_ : s_integer_FromInt.pre x) : vc_integer_FromInt x := by
  obtain ⟨v, _⟩ := x
  change Int at v
  have hv : IntKind.i64.min ≤ v ∧ v ≤ IntKind.i64.max := hw.1
  rw [i64_min, i64_max] at hv
  simp only [vc_integer_FromInt]
  refine ⟨fun h => ⟨trivial, ?_⟩, fun h => ⟨trivial, ?_⟩⟩
  · rintro ⟨r, _⟩ _ hr
    refine ⟨trivial, ?_⟩
    rintro ⟨s, _⟩ _ hs
    simp only at hr hs ⊢
    have h := of_decide_eq_true h
    have e : (IntKind.u64.wrap (-IntKind.u64.wrap v)).toNat = v.natAbs := by rw [w64_mod, w64_mod]; omega
    rw [e] at hr
    subst hs hr
    unfold ic
    rw [decide_eq_true h, Bool.true_and, decide_eq_true (by rw [ne_eq, nc_nil]; omega)]
  · rintro ⟨r, _⟩ _ hr
    refine ⟨trivial, ?_⟩
    rintro ⟨s, _⟩ _ hs
    simp only at hr hs ⊢
    have h := of_decide_eq_false h
    have e : (IntKind.u64.wrap v).toNat = v.natAbs := by rw [w64_mod]; omega
    rw [e] at hr
    subst hs hr
    unfold ic
    rw [decide_eq_false h, Bool.false_and]
theorem vc_integer_Sign_ok (x : dens s_integer_Sign.args) (hw : awf s_integer_Sign.args x) (_ : s_integer_Sign.pre x) : vc_integer_Sign x := by
  obtain ⟨⟨b, l⟩, _⟩ := x
  change Bool at b
  change List Int at l
  simp only [vc_integer_Sign]
  refine ⟨trivial, ?_⟩
  rintro ⟨r, _⟩ _ hr
  simp only at hr ⊢
  rw [nv_nil] at hr
  refine ⟨fun h => ?_, fun h => ⟨fun hb => ?_, fun hb => ?_⟩⟩
  · have h := of_decide_eq_true h
    have h0 : nv l = 0 := ncmp_eq0.1 (hr ▸ h)
    unfold iv; simp only [h0]; split <;> rfl
  · have h := of_decide_eq_false h
    have h0 : nv l ≠ 0 := fun e => h (by rw [hr, e]; rfl)
    unfold iv; simp only [hb, if_true]
    rw [Int.sign_neg, Int.sign_eq_one_of_pos (by omega)]
  · have h := of_decide_eq_false h
    have h0 : nv l ≠ 0 := fun e => h (by rw [hr, e]; rfl)
    unfold iv; simp only [hb]
    exact (Int.sign_eq_one_of_pos (by simp; omega)).symm
theorem vc_rational_FromInt_ok (x : dens s_rational_FromInt.args) (hw : awf s_rational_FromInt.args x) (_ : s_rational_FromInt.pre x) : vc_rational_FromInt x := by
  obtain ⟨v, _⟩ := x
  simp only [vc_rational_FromInt]
  refine ⟨trivial, ?_⟩
  rintro ⟨r, _⟩ _ hr
  simp only at hr ⊢
  rw [hr]; rfl
theorem vc_rational_parts_ok (x : dens s_rational_parts.args) (hw : awf s_rational_parts.args x) (_ : s_rational_parts.pre x) : vc_rational_parts x := by
  obtain ⟨⟨a, l⟩, _⟩ := x
  change List Int at l
  simp only [vc_rational_parts]
  refine ⟨trivial, ?_⟩
  rintro ⟨r, _⟩ _ hr
  simp only at hr ⊢
  rw [nv_nil] at hr
  refine ⟨fun h => ?_, fun h => ?_⟩
  · have h0 : nv l = 0 := ncmp_eq0.1 (hr ▸ of_decide_eq_true h)
    exact ⟨fun _ => ⟨rfl, by trivial⟩, fun h => absurd h0 h⟩
  · have h0 : nv l ≠ 0 := fun e => (of_decide_eq_false h) (by rw [hr, e]; rfl)
    exact ⟨⟨fun h => absurd h h0, fun _ => ⟨by trivial, by trivial⟩⟩, fun h => absurd h h0, fun _ => ⟨by trivial, by trivial⟩⟩
theorem vc_rational_Sign_ok (x : dens s_rational_Sign.args) (hw : awf s_rational_Sign.args x) (_ : s_rational_Sign.pre x) : vc_rational_Sign x := by
  obtain ⟨⟨a, l⟩, _⟩ := x
  change List Int at l
  simp only [vc_rational_Sign]
  refine ⟨trivial, ?_⟩
  rintro ⟨r, d, _⟩ _ ⟨hr, hr2⟩
  refine ⟨trivial, ?_⟩
  rintro ⟨s, _⟩ _ hs
  simp only at hr hr2 hs ⊢
  rw [hs]
  unfold rsgn
  split
  · rename_i h; rw [(hr h).1]; rfl
  · rename_i h; rw [(hr2 h).1]
theorem vc_rational_small_ok (x : dens s_rational_small.args) (hw : awf s_rational_small.args x) (_ : s_rational_small.pre x) : vc_rational_small x := by
  obtain ⟨⟨⟨b, a⟩, l⟩, _⟩ := x
  change Bool at b
  change List Int at a l
  simp only [vc_rational_small]
  refine ⟨trivial, ?_⟩
  rintro ⟨u, ok, _⟩ _ ⟨h1, h2⟩
  refine ⟨trivial, ?_⟩
  rintro ⟨v, fits, _⟩ _ ⟨h3, h4⟩
  change Int at u v
  change Bool at ok fits
  simp only at h1 h2 h3 h4 ⊢
  have hs : sel (sel (sel (!ok) true !fits) true (decide (2147483648 ≤ u))) true (decide (2147483648 ≤ v)) = (!ok || !fits || decide (2147483648 ≤ u) || decide (2147483648 ≤ v)) := by simp only [sel_or]
  rw [hs]
  have key : (!ok || !fits || decide (2147483648 ≤ u) || decide (2147483648 ≤ v)) = false → smallR ((b, a), l) ∧ u = (nv a : Int) ∧ v = (nv l : Int) := fun h => by
    simp only [Bool.or_eq_false_iff, Bool.not_eq_false', decide_eq_false_iff_not] at h
    obtain ⟨⟨⟨e1, e2⟩, e3⟩, e4⟩ := h
    have ha : nv a < 18446744073709551616 := by
      rcases Nat.lt_or_ge (nv a) 18446744073709551616 with h | h
      · exact h
      · rw [h2 h] at e1; cases e1
    have hl : nv l < 18446744073709551616 := by
      rcases Nat.lt_or_ge (nv l) 18446744073709551616 with h | h
      · exact h
      · rw [h4 h] at e2; cases e2
    have q1 := (h1 ha).1
    have q3 := (h3 hl).1
    exact ⟨⟨by show nv a < _; omega, by show nv l < _; omega⟩, q1, q3⟩
  have key2 : smallR ((b, a), l) → (!ok || !fits || decide (2147483648 ≤ u) || decide (2147483648 ≤ v)) = false := fun h => by
    obtain ⟨g1, g2⟩ := h
    change nv a < _ at g1
    change nv l < _ at g2
    obtain ⟨q1, q2⟩ := h1 (by omega)
    obtain ⟨q3, q4⟩ := h3 (by omega)
    simp only [Bool.or_eq_false_iff, Bool.not_eq_false', decide_eq_false_iff_not]
    exact ⟨⟨⟨q2, q4⟩, by omega⟩, by omega⟩
  refine ⟨fun h => ⟨fun hs => ?_, fun _ => trivial⟩, fun h => ?_⟩
  · rw [key2 hs] at h; cases h
  · obtain ⟨hsm, hu, hv⟩ := key h
    have hsm' := hsm
    obtain ⟨g1, g2⟩ := hsm
    change nv a < _ at g1
    change nv l < _ at g2
    refine ⟨fun hz => ?_, fun hz => ⟨fun hb => ?_, fun hb => ?_⟩⟩
    · have hz := of_decide_eq_true hz
      have h0 : nv l = 0 := by omega
      exact ⟨fun _ => ⟨by unfold numS; rw [if_pos h0], by unfold denS; rw [if_pos h0], trivial⟩, fun h => absurd hsm' h⟩
    · have hz := of_decide_eq_false hz
      have h0 : nv l ≠ 0 := by omega
      refine ⟨fun _ => ⟨?_, ?_, trivial⟩, fun h => absurd hsm' h⟩
      · unfold numS; rw [if_neg h0, wr (a := u) (by omega) (by omega), wr (by omega) (by omega)]
        unfold iv; simp only [hb, if_true]; omega
      · unfold denS; rw [if_neg h0, wr (by omega) (by omega)]; exact hv
    · have hz := of_decide_eq_false hz
      have h0 : nv l ≠ 0 := by omega
      refine ⟨fun _ => ⟨?_, ?_, trivial⟩, fun h => absurd hsm' h⟩
      · unfold numS; rw [if_neg h0, wr (a := u) (by omega) (by omega)]
        unfold iv; simp only [hb]; simpa using hu
      · unfold denS; rw [if_neg h0, wr (by omega) (by omega)]; exact hv
theorem vc_rational_quotient_ok (x : dens s_rational_quotient.args) (hw : awf s_rational_quotient.args x) (hp : s_rational_quotient.pre x) : vc_rational_quotient x := by
  obtain ⟨n, d, _⟩ := x
  change Int at n d
  obtain ⟨d0, d1, n0, n1⟩ : 0 < d ∧ d ≤ 4611686018427387904 ∧ -4611686018427387904 ≤ n ∧ n ≤ 4611686018427387904 := hp
  have i1 : IntKind.i64.min = -9223372036854775808 := i64_min
  simp only [vc_rational_quotient]
  refine ⟨fun p => p.1 = (n.natAbs : Int), ⟨fun h => ?_, fun h => ?_⟩, ?_⟩
  · have h := of_decide_eq_true h
    show IntKind.u64.wrap (-IntKind.u64.wrap n) = _
    rw [w64_mod, w64_mod]; omega
  · have h := of_decide_eq_false h
    show IntKind.u64.wrap n = _
    rw [w64_mod]; omega
  rintro ⟨s, _⟩ _ hs
  simp only at hs ⊢
  subst hs
  have hd : IntKind.u64.wrap d = d := w64 (by omega) (by omega)
  refine ⟨fun p => 0 ≤ p.1 ∧ 0 ≤ p.2.1 ∧ (p.1 ≠ 0 ∨ p.2.1 ≠ 0) ∧ p.1.toNat.gcd p.2.1.toNat = d.toNat.gcd n.natAbs, fun p => p.2.1.toNat, ?_, ?_⟩
  · refine ⟨by omega, by show (0 : Int) ≤ (n.natAbs : Int); omega, .inl (by omega), ?_⟩
    rw [hd]; rfl
  rintro ⟨g, t, _⟩ _ ⟨h0, h1, h2, h3⟩
  change Int at g t
  simp only at h0 h1 h2 h3 ⊢
  refine ⟨fun h => ?_, fun h => ?_⟩
  · have h := of_decide_eq_true h
    have e : Int.tmod g t = g % t := Int.tmod_eq_emod_of_nonneg h0
    have e2 := Int.emod_nonneg g h
    have e3 := Int.emod_lt_of_pos g (b := t) (by omega)
    rw [e]
    refine ⟨h, ⟨h1, e2, .inl h, ?_⟩, by omega⟩
    rw [← h3, Int.toNat_emod h0 h1, Nat.gcd_comm t.toNat, ← Nat.gcd_rec, Nat.gcd_comm]
  · have h : t = 0 := by simpa using h
    subst h
    have hg : g ≠ 0 := by omega
    refine ⟨hg, hg, trivial, ?_⟩
    rintro ⟨r, _⟩ _ hr
    refine ⟨trivial, ?_⟩
    rintro ⟨q, _⟩ _ hq
    simp only at hr hq ⊢
    have hG : g.toNat = d.toNat.gcd n.natAbs := by rw [← h3]; simp
    have hgp : 0 < g := by omega
    have hge : g = ((d.toNat.gcd n.natAbs : Nat) : Int) := by omega
    obtain ⟨hn, hdn⟩ := mkRat_parts (x := n) (d := d.toNat) (by omega)
    have e1 : (IntKind.u64.wrap (Int.tdiv (n.natAbs : Int) g)).toNat = n.natAbs / d.toNat.gcd n.natAbs := by
      rw [IntWalk.u64_quo _ _ ⟨by omega, by omega, by omega⟩, hge, ← Int.natCast_ediv, Int.toNat_natCast]
    have e2 : (IntKind.u64.wrap (Int.tdiv d g)).toNat = d.toNat / d.toNat.gcd n.natAbs := by
      rw [IntWalk.u64_quo _ _ ⟨by omega, by omega, by omega⟩, hge]
      conv => lhs; rw [show d = ((d.toNat : Nat) : Int) from by omega]
      rw [← Int.natCast_ediv, Int.toNat_natCast]; simp only [Int.toNat_natCast]
    rw [hr, hq, hd, e1, e2]
    unfold rc
    rw [hn, hdn]
    unfold ic
    have hdvd : ((d.toNat.gcd n.natAbs : Nat) : Int) ∣ n := Int.ofNat_dvd_left.2 (Nat.gcd_dvd_right ..)
    have hgN : 0 < d.toNat.gcd n.natAbs := by omega
    generalize d.toNat.gcd n.natAbs = G at hdvd hgN
    obtain ⟨c, rfl⟩ := hdvd
    rw [Int.mul_ediv_cancel_left _ (by omega)]
    have hsgn : (G : Int) * c < 0 ↔ c < 0 := by
      constructor
      · intro h
        rcases Int.lt_or_le c 0 with h1 | h1
        · exact h1
        · have := Int.mul_nonneg (Int.le_of_lt (Int.ofNat_lt.2 hgN)) h1; omega
      · intro h
        exact Int.mul_neg_of_pos_of_neg (by omega) h
    rw [Int.natAbs_mul, Int.natAbs_natCast, Nat.mul_div_cancel_left _ hgN]
    simp only [hsgn]
theorem numS_rv (x : RatV) : mkRat (numS x) (denS x).toNat = rv x := by
  unfold numS denS rv
  split
  · rename_i h; rw [h, Rat.mkRat_zero]; rfl
  · rename_i h; rw [Int.toNat_natCast]
theorem vc_rational_Norm_ok (x : dens s_rational_Norm.args) (hw : awf s_rational_Norm.args x) (hp : s_rational_Norm.pre x) : vc_rational_Norm x := by
  obtain ⟨a, _⟩ := x
  have hs : smallR a := hp
  simp only [vc_rational_Norm]
  refine ⟨trivial, ?_⟩
  rintro ⟨n, d, ok, _⟩ _ ⟨h1, _⟩
  obtain ⟨h1, h2, h3⟩ := h1 hs
  simp only at h1 h2 h3 ⊢
  subst h1 h2 h3
  have hb : 0 < denS a ∧ denS a < 2147483648 ∧ -2147483648 < numS a ∧ numS a < 2147483648 := by
    obtain ⟨g1, g2⟩ := hs
    unfold denS numS iv
    split
    · omega
    · split <;> omega
  refine ⟨fun _ => ⟨⟨by omega, by omega, by omega, by omega⟩, ?_⟩, fun h => by cases h⟩
  rintro ⟨r, _⟩ _ hr
  simp only at hr ⊢
  rw [hr, numS_rv]
theorem vc_cmp_Compare_int_ok (x : dens s_cmp_Compare_int.args) (hw : awf s_cmp_Compare_int.args x) (_ : s_cmp_Compare_int.pre x) : vc_cmp_Compare_int x := by
  obtain ⟨a, b, _⟩ := x
  change Int at a b
  simp only [vc_cmp_Compare_int]
  refine ⟨trivial, ?_⟩
  rintro ⟨r, _⟩ _ hr
  refine ⟨trivial, ?_⟩
  rintro ⟨s, _⟩ _ hs
  change Bool at r s
  simp only at hr hs
  rw [hr, hs]
  refine ⟨fun h => (by cases h), fun _ => ⟨fun h => (by cases h), fun _ => ⟨fun h => ?_, fun h => ⟨fun h2 => ?_, fun h2 => ?_⟩⟩⟩⟩
  · simp [cmpI, of_decide_eq_true h]
  · simp [cmpI, of_decide_eq_false h, of_decide_eq_true h2]
  · simp [cmpI, of_decide_eq_false h, of_decide_eq_false h2]
end Go.Proofs.YtppgpdigopffbaaGreat
namespace Go.Proofs.YtppgpdigopffbaaGreat
open Go.Vc Go.Gw
def an_vector_byIndex : An := {}
def sp_vector_byIndex : Specs := [(105, s_cmp_Compare_int)]
def an_vector_ascending : An := { loop := [(2, ⟨[0], [], [(3, false, [.val (.int .i64)])], [], []⟩)], plan := [(4, [5, 10], [], true, (.p 0 (.p 1 (.p 2 (.p 3 (.p 4 (.q 5 (.p 6 (.p 7 (.p 8 (.p 9 (.q 10 (.p 11 .done)))))))))))))] }
def sp_vector_ascending : Specs := []
def an_slices_insertionSortCmpFunc_Entry : An := { loop := [(4, ⟨[0, 1, 2, 3, 8], [], [(9, false, [.val (.int .i64)])], [], [(0, .row (.pair (.int .i64) (.pair (.pair .bool (.sl (.int .u32))) (.sl (.int .u32)))) 49)]⟩), (1, ⟨[0, 1, 2, 3], [], [(8, false, [.val (.int .i64)])], [], [(0, .row (.pair (.int .i64) (.pair (.pair .bool (.sl (.int .u32))) (.sl (.int .u32)))) 49)]⟩)], plan := [(4, [8, 13], [], false, (.p 0 (.p 1 (.p 2 (.p 3 (.p 4 (.p 5 (.p 6 (.p 7 (.q 8 (.p 9 (.p 10 (.p 11 (.p 12 (.q 13 (.e 14 (.p 15 (.p 16 .done)))))))))))))))))), (6, [9, 13], [15, 17], true, (.p 0 (.p 1 (.p 2 (.p 3 (.p 4 (.p 5 (.p 6 (.p 7 (.p 8 (.q 9 (.p 10 (.p 11 (.p 12 (.q 13 (.p 14 (.e 15 (.p 16 (.e 17 .done)))))))))))))))))))] }
def sp_slices_insertionSortCmpFunc_Entry : Specs := []
def an_slices_stableCmpFunc_Entry : An := { join := [(16, ⟨[0, 1, 2, 6], [], [], [], [(0, .row (.pair (.int .i64) (.pair (.pair .bool (.sl (.int .u32))) (.sl (.int .u32)))) 49)]⟩)], loop := [(2, ⟨[0, 1, 2, 6], [], [(7, false, [.val (.int .i64)]), (8, false, [.val (.int .i64)])], [], [(0, .row (.pair (.int .i64) (.pair (.pair .bool (.sl (.int .u32))) (.sl (.int .u32)))) 49)]⟩), (9, ⟨[0, 1, 2, 6], [], [(7, false, [.val (.int .i64)]), (8, false, [.val (.int .i64)])], [], [(0, .row (.pair (.int .i64) (.pair (.pair .bool (.sl (.int .u32))) (.sl (.int .u32)))) 49)]⟩), (7, ⟨[0, 1, 2], [], [(6, false, [.val (.int .i64)])], [], [(0, .row (.pair (.int .i64) (.pair (.pair .bool (.sl (.int .u32))) (.sl (.int .u32)))) 49)]⟩)] }
def sp_slices_stableCmpFunc_Entry : Specs := [(118, s_slices_insertionSortCmpFunc_Entry), (119, s_slices_symMergeCmpFunc_Entry)]
def an_slices_SortStableFunc_SEntry_Entry : An := {}
def sp_slices_SortStableFunc_SEntry_Entry : Specs := [(104, s_slices_stableCmpFunc_Entry)]
def an_vector_arrange : An := { join := [(14, ⟨[3, 18, 19, 20], [], [(4, false, [.val (.int .i64)])], [], [(0, .row (.pair (.int .i64) (.pair (.pair .bool (.sl (.int .u32))) (.sl (.int .u32)))) 49)]⟩)], loop := [(8, ⟨[3, 18, 19], [], [(4, false, [.val (.int .i64)]), (20, false, [.val (.int .i64)])], [], [(0, .row (.pair (.int .i64) (.pair (.pair .bool (.sl (.int .u32))) (.sl (.int .u32)))) 49)]⟩)], plan := [(10, [8, 10], [], true, (.p 0 (.p 1 (.p 2 (.p 3 (.p 4 (.p 5 (.p 6 (.p 7 (.q 8 (.p 9 (.q 10 (.p 11 (.p 12 .done)))))))))))))), (11, [8, 10], [14], true, (.p 0 (.p 1 (.p 2 (.p 3 (.p 4 (.p 5 (.p 6 (.p 7 (.q 8 (.p 9 (.q 10 (.e 11 (.p 12 (.p 13 (.e 14 .done))))))))))))))))] }
def sp_vector_arrange : Specs := [(87, s_vector_ascending), (88, s_slices_SortStableFunc_SEntry_Entry), (89, s_vector_byIndex), (90, s_rational_Add)]
def an_vector_merge : An := { join := [(13, ⟨[2, 7, 9, 10], [1], [(0, false, [.val (.sl (.pair (.int .i64) (.pair (.pair .bool (.sl (.int .u32))) (.sl (.int .u32)))))]), (1, false, [.val (.sl (.pair (.int .i64) (.pair (.pair .bool (.sl (.int .u32))) (.sl (.int .u32)))))]), (8, false, [.val (.int .i64)])], [(2, 44, [.val .bool, .val (.sl (.int .u32)), .val (.sl (.int .u32))]), (3, 44, [.val .bool, .val (.sl (.int .u32)), .val (.sl (.int .u32))])], []⟩)], loop := [(2, ⟨[2], [], [(0, false, [.val (.sl (.pair (.int .i64) (.pair (.pair .bool (.sl (.int .u32))) (.sl (.int .u32)))))]), (1, false, [.val (.sl (.pair (.int .i64) (.pair (.pair .bool (.sl (.int .u32))) (.sl (.int .u32)))))]), (7, false, [.own (.pair (.int .i64) (.pair (.pair .bool (.sl (.int .u32))) (.sl (.int .u32)))) 49])], [], []⟩)], plan := [(5, [11, 15], [], true, (.p 0 (.p 1 (.p 2 (.p 3 (.p 4 (.p 5 (.p 6 (.p 7 (.p 8 (.p 9 (.p 10 (.q 11 (.p 12 (.p 13 (.p 14 (.q 15 (.p 16 (.p 17 (.p 18 .done)))))))))))))))))))), (6, [3, 7], [9], true, (.p 0 (.p 1 (.p 2 (.q 3 (.p 4 (.p 5 (.p 6 (.q 7 (.p 8 (.e 9 .done))))))))))), (11, [3, 7], [9], true, (.p 0 (.p 1 (.p 2 (.q 3 (.p 4 (.p 5 (.p 6 (.q 7 (.p 8 (.e 9 .done)))))))))))] }
def sp_vector_merge : Specs := [(86, s_rational_Sign)]
def an_vector_Norm_1 : An := {}
def sp_vector_Norm_1 : Specs := [(69, s_rational_Norm)]
def an_vector_Norm : An := {}
def sp_vector_Norm : Specs := [(66, s_vector_merge), (67, s_vector_arrange), (68, s_vector_Norm_1)]
def vc_vector_byIndex : dens s_vector_byIndex.args → Prop := fun (x : EE × EE × Unit) => True ∧ ∀ (r : Int × Unit), In64 r.fst ∧ True → r.fst = cmpI x.fst.fst x.snd.fst.fst → r.fst = cmpI x.fst.fst x.snd.fst.fst
theorem vc_vector_byIndex_eq (x : dens s_vector_byIndex.args) : semF ⟨Tryz.prog, tys⟩ sp_vector_byIndex an_vector_byIndex s_vector_byIndex Tryz.f89.results.toList (Tryz.f89.body.getD .skip) x = vc_vector_byIndex x := by kernel_rfl
theorem m_vector_byIndex (hsp : SpOk Tryz.prog sp_vector_byIndex) (h : ∀ x, awf s_vector_byIndex.args x → s_vector_byIndex.pre x → vc_vector_byIndex x) : Meets Tryz.prog 89 s_vector_byIndex := meets_vc (cx := ⟨Tryz.prog, tys⟩) (sp := sp_vector_byIndex) (an := an_vector_byIndex) (s := s_vector_byIndex) (fn := Tryz.f89) (c := Tryz.f89.body.getD .skip) Tryz.func89 (by kernel_rfl) (Nat.le_of_ble_eq_true (by kernel_rfl)) (by kernel_rfl) tys_ok hsp vc_vector_byIndex_eq h
def vc_vector_ascending : dens s_vector_ascending.args → Prop := fun (x : List EE × Unit) => ∃ (I : Int × Unit → Prop), ∃ (μ : Int × Unit → Nat), I ((1 : Int), ()) ∧ ∀ (p : Int × Unit), In64 p.fst ∧ True → I p → (decide (p.fst < (↑(List.length x.fst) : Int)) = true → ((0 : Int) ≤ IntKind.i64.wrap (p.fst - (1 : Int)) ∧ IntKind.i64.wrap (p.fst - (1 : Int)) < (↑(List.length x.fst) : Int)) ∧ ((0 : Int) ≤ p.fst ∧ p.fst < (↑(List.length x.fst) : Int)) ∧ (decide ((gx dEE x.fst p.fst).fst ≤ (gx dEE x.fst (IntKind.i64.wrap (p.fst - (1 : Int)))).fst) = true → false = decide (byIx x.fst)) ∧ (decide ((gx dEE x.fst p.fst).fst ≤ (gx dEE x.fst (IntKind.i64.wrap (p.fst - (1 : Int)))).fst) = false → I (IntKind.i64.wrap (p.fst + (1 : Int)), ()) ∧ μ (IntKind.i64.wrap (p.fst + (1 : Int)), ()) < μ p)) ∧ (decide (p.fst < (↑(List.length x.fst) : Int)) = false → true = decide (byIx x.fst))
theorem vc_vector_ascending_eq (x : dens s_vector_ascending.args) : semF ⟨Tryz.prog, tys⟩ sp_vector_ascending an_vector_ascending s_vector_ascending Tryz.f87.results.toList (Tryz.f87.body.getD .skip) x = vc_vector_ascending x := by kernel_rfl
theorem m_vector_ascending (hsp : SpOk Tryz.prog sp_vector_ascending) (h : ∀ x, awf s_vector_ascending.args x → s_vector_ascending.pre x → vc_vector_ascending x) : Meets Tryz.prog 87 s_vector_ascending := meets_vc (cx := ⟨Tryz.prog, tys⟩) (sp := sp_vector_ascending) (an := an_vector_ascending) (s := s_vector_ascending) (fn := Tryz.f87) (c := Tryz.f87.body.getD .skip) Tryz.func87 (by kernel_rfl) (Nat.le_of_ble_eq_true (by kernel_rfl)) (by kernel_rfl) tys_ok hsp vc_vector_ascending_eq h
def vc_slices_insertionSortCmpFunc_Entry : dens s_slices_insertionSortCmpFunc_Entry.args → Prop := fun (x : List EE × Int × Int × ((EE × EE × Unit → Prop) × (EE × EE × Unit → Int)) × Unit) => ∃ (I : Int × List EE × Unit → Prop), ∃ (μ : Int × List EE × Unit → Nat), I (IntKind.i64.wrap (x.snd.fst + (1 : Int)), x.fst, ()) ∧ ∀ (p : Int × List EE × Unit), In64 p.fst ∧ WfEs p.snd.fst ∧ True → I p → (decide (p.fst < x.snd.snd.fst) = true → ∃ (I_1 : Int × List EE × Unit → Prop), ∃ (μ_1 : Int × List EE × Unit → Nat), I_1 (p.fst, p.snd.fst, ()) ∧ ∀ (p_1 : Int × List EE × Unit), In64 p_1.fst ∧ WfEs p_1.snd.fst ∧ True → I_1 p_1 → (decide (x.snd.fst < p_1.fst) = true → (0 : Int) ≤ p_1.fst ∧ p_1.fst < (↑(List.length p_1.snd.fst) : Int)) ∧ (decide (x.snd.fst < p_1.fst) = true → (0 : Int) ≤ IntKind.i64.wrap (p_1.fst - (1 : Int)) ∧ IntKind.i64.wrap (p_1.fst - (1 : Int)) < (↑(List.length p_1.snd.fst) : Int)) ∧ Go.Proofs.Tryz.prog = Go.Proofs.Tryz.prog ∧ (decide (x.snd.fst < p_1.fst) = true → x.snd.snd.snd.fst.fst (List.getD p_1.snd.fst (Int.toNat p_1.fst) dEE, List.getD p_1.snd.fst (IntKind.i64.wrap (p_1.fst - (1 : Int))).toNat dEE, ())) ∧ ((decide (x.snd.fst < p_1.fst) = true → (Ty.int IntKind.i64).wf (x.snd.snd.snd.fst.snd (List.getD p_1.snd.fst (Int.toNat p_1.fst) dEE, List.getD p_1.snd.fst (IntKind.i64.wrap (p_1.fst - (1 : Int))).toNat dEE, ()))) → (sel (decide (x.snd.fst < p_1.fst)) (decide (x.snd.snd.snd.fst.snd (List.getD p_1.snd.fst (Int.toNat p_1.fst) dEE, List.getD p_1.snd.fst (IntKind.i64.wrap (p_1.fst - (1 : Int))).toNat dEE, ()) < (0 : Int))) false = true → ((0 : Int) ≤ IntKind.i64.wrap (p_1.fst - (1 : Int)) ∧ IntKind.i64.wrap (p_1.fst - (1 : Int)) < (↑(List.length p_1.snd.fst) : Int)) ∧ ((0 : Int) ≤ p_1.fst ∧ p_1.fst < (↑(List.length p_1.snd.fst) : Int)) ∧ ((0 : Int) ≤ p_1.fst ∧ p_1.fst < (↑(List.length p_1.snd.fst) : Int)) ∧ ((0 : Int) ≤ IntKind.i64.wrap (p_1.fst - (1 : Int)) ∧ IntKind.i64.wrap (p_1.fst - (1 : Int)) < (↑(List.set p_1.snd.fst (Int.toNat p_1.fst) (List.getD p_1.snd.fst (IntKind.i64.wrap (p_1.fst - (1 : Int))).toNat dEE)).length : Int)) ∧ I_1 (IntKind.i64.wrap (p_1.fst - (1 : Int)), (List.set p_1.snd.fst (Int.toNat p_1.fst) (List.getD p_1.snd.fst (IntKind.i64.wrap (p_1.fst - (1 : Int))).toNat dEE)).set (IntKind.i64.wrap (p_1.fst - (1 : Int))).toNat (List.getD p_1.snd.fst (Int.toNat p_1.fst) dEE), ()) ∧ μ_1 (IntKind.i64.wrap (p_1.fst - (1 : Int)), (List.set p_1.snd.fst (Int.toNat p_1.fst) (List.getD p_1.snd.fst (IntKind.i64.wrap (p_1.fst - (1 : Int))).toNat dEE)).set (IntKind.i64.wrap (p_1.fst - (1 : Int))).toNat (List.getD p_1.snd.fst (Int.toNat p_1.fst) dEE), ()) < μ_1 p_1) ∧ (sel (decide (x.snd.fst < p_1.fst)) (decide (x.snd.snd.snd.fst.snd (List.getD p_1.snd.fst (Int.toNat p_1.fst) dEE, List.getD p_1.snd.fst (IntKind.i64.wrap (p_1.fst - (1 : Int))).toNat dEE, ()) < (0 : Int))) false = false → I (IntKind.i64.wrap (p.fst + (1 : Int)), p_1.snd.fst, ()) ∧ μ (IntKind.i64.wrap (p.fst + (1 : Int)), p_1.snd.fst, ()) < μ p))) ∧ (decide (p.fst < x.snd.snd.fst) = false → True ∧ List.Perm p.snd.fst x.fst ∧ List.take x.snd.fst.toNat p.snd.fst = List.take x.snd.fst.toNat x.fst ∧ List.drop x.snd.snd.fst.toNat p.snd.fst = List.drop x.snd.snd.fst.toNat x.fst ∧ srtd x.snd.snd.snd.fst.snd (List.take (x.snd.snd.fst.toNat - x.snd.fst.toNat) (List.drop x.snd.fst.toNat p.snd.fst)))
theorem vc_slices_insertionSortCmpFunc_Entry_eq (x : dens s_slices_insertionSortCmpFunc_Entry.args) : semF ⟨Tryz.prog, tys⟩ sp_slices_insertionSortCmpFunc_Entry an_slices_insertionSortCmpFunc_Entry s_slices_insertionSortCmpFunc_Entry Tryz.f118.results.toList (Tryz.f118.body.getD .skip) x = vc_slices_insertionSortCmpFunc_Entry x := by kernel_rfl
theorem m_slices_insertionSortCmpFunc_Entry (hsp : SpOk Tryz.prog sp_slices_insertionSortCmpFunc_Entry) (h : ∀ x, awf s_slices_insertionSortCmpFunc_Entry.args x → s_slices_insertionSortCmpFunc_Entry.pre x → vc_slices_insertionSortCmpFunc_Entry x) : Meets Tryz.prog 118 s_slices_insertionSortCmpFunc_Entry := meets_vc (cx := ⟨Tryz.prog, tys⟩) (sp := sp_slices_insertionSortCmpFunc_Entry) (an := an_slices_insertionSortCmpFunc_Entry) (s := s_slices_insertionSortCmpFunc_Entry) (fn := Tryz.f118) (c := Tryz.f118.body.getD .skip) Tryz.func118 (by kernel_rfl) (Nat.le_of_ble_eq_true (by kernel_rfl)) (by kernel_rfl) tys_ok hsp vc_slices_insertionSortCmpFunc_Entry_eq h
def vc_slices_stableCmpFunc_Entry : dens s_slices_stableCmpFunc_Entry.args → Prop := fun (x : List EE × Int × ((EE × EE × Unit → Prop) × (EE × EE × Unit → Int)) × Unit) => ∃ (I : Int × Int × List EE × Unit → Prop), ∃ (μ : Int × Int × List EE × Unit → Nat), I ((0 : Int), (20 : Int), x.fst, ()) ∧ ∀ (p : Int × Int × List EE × Unit), In64 p.fst ∧ In64 p.snd.fst ∧ WfEs p.snd.snd.fst ∧ True → I p → (decide (p.snd.fst ≤ x.snd.fst) = true → Go.Proofs.Tryz.prog = Go.Proofs.Tryz.prog ∧ false = false ∧ ((okCmp x.snd.snd.fst.fst fun (z : EE × EE × Unit) => x.snd.snd.fst.snd z) ∧ (0 : Int) ≤ p.fst ∧ p.fst ≤ p.snd.fst ∧ p.snd.fst ≤ (↑(List.length p.snd.snd.fst) : Int) ∧ List.length p.snd.snd.fst ≤ (100000 : Nat)) ∧ ∀ (r : Unit) (o : List EE × Unit), True → ((Ty.int IntKind.i64).pair ((Ty.bool.pair (Ty.int IntKind.u32).sl).pair (Ty.int IntKind.u32).sl)).sl.wf o.fst ∧ True → True → o.fst.Perm p.snd.snd.fst ∧ List.take (Int.toNat p.fst) o.fst = List.take (Int.toNat p.fst) p.snd.snd.fst ∧ List.drop (Int.toNat p.snd.fst) o.fst = List.drop (Int.toNat p.snd.fst) p.snd.snd.fst ∧ srtd (fun (z : EE × EE × Unit) => x.snd.snd.fst.snd z) (List.take (Int.toNat p.snd.fst - Int.toNat p.fst) (List.drop (Int.toNat p.fst) o.fst)) → I (p.snd.fst, IntKind.i64.wrap (p.snd.fst + (20 : Int)), o) ∧ μ (p.snd.fst, IntKind.i64.wrap (p.snd.fst + (20 : Int)), o) < μ p) ∧ (decide (p.snd.fst ≤ x.snd.fst) = false → Go.Proofs.Tryz.prog = Go.Proofs.Tryz.prog ∧ false = false ∧ ((okCmp x.snd.snd.fst.fst fun (z : EE × EE × Unit) => x.snd.snd.fst.snd z) ∧ (0 : Int) ≤ p.fst ∧ p.fst ≤ x.snd.fst ∧ x.snd.fst ≤ (↑(List.length p.snd.snd.fst) : Int) ∧ List.length p.snd.snd.fst ≤ (100000 : Nat)) ∧ ∀ (r : Unit) (o : List EE × Unit), True → ((Ty.int IntKind.i64).pair ((Ty.bool.pair (Ty.int IntKind.u32).sl).pair (Ty.int IntKind.u32).sl)).sl.wf o.fst ∧ True → True → o.fst.Perm p.snd.snd.fst ∧ List.take (Int.toNat p.fst) o.fst = List.take (Int.toNat p.fst) p.snd.snd.fst ∧ List.drop (Int.toNat x.snd.fst) o.fst = List.drop (Int.toNat x.snd.fst) p.snd.snd.fst ∧ srtd (fun (z : EE × EE × Unit) => x.snd.snd.fst.snd z) (List.take (Int.toNat x.snd.fst - Int.toNat p.fst) (List.drop (Int.toNat p.fst) o.fst)) → ∃ (I : Int × List EE × Unit → Prop), ∃ (μ : Int × List EE × Unit → Nat), I ((20 : Int), o) ∧ ∀ (p : Int × List EE × Unit), In64 p.fst ∧ WfEs p.snd.fst ∧ True → I p → (decide (p.fst < x.snd.fst) = true → ∃ (I_1 : Int × Int × List EE × Unit → Prop), ∃ (μ_1 : Int × Int × List EE × Unit → Nat), I_1 ((0 : Int), IntKind.i64.wrap ((2 : Int) * p.fst), p.snd.fst, ()) ∧ ∀ (p_1 : Int × Int × List EE × Unit), In64 p_1.fst ∧ In64 p_1.snd.fst ∧ WfEs p_1.snd.snd.fst ∧ True → I_1 p_1 → (decide (p_1.snd.fst ≤ x.snd.fst) = true → Go.Proofs.Tryz.prog = Go.Proofs.Tryz.prog ∧ false = false ∧ False ∧ ∀ (r : Unit) (o : List EE × Unit), True → ((Ty.int IntKind.i64).pair ((Ty.bool.pair (Ty.int IntKind.u32).sl).pair (Ty.int IntKind.u32).sl)).sl.wf o.fst ∧ True → True → True → I_1 (p_1.snd.fst, IntKind.i64.wrap (p_1.snd.fst + IntKind.i64.wrap ((2 : Int) * p.fst)), o) ∧ μ_1 (p_1.snd.fst, IntKind.i64.wrap (p_1.snd.fst + IntKind.i64.wrap ((2 : Int) * p.fst)), o) < μ_1 p_1) ∧ (decide (p_1.snd.fst ≤ x.snd.fst) = false → ∃ (J : List EE × Unit → Prop), ((decide (IntKind.i64.wrap (p_1.fst + p.fst) < x.snd.fst) = true → Go.Proofs.Tryz.prog = Go.Proofs.Tryz.prog ∧ false = false ∧ False ∧ ∀ (r : Unit) (o : List EE × Unit), True → ((Ty.int IntKind.i64).pair ((Ty.bool.pair (Ty.int IntKind.u32).sl).pair (Ty.int IntKind.u32).sl)).sl.wf o.fst ∧ True → True → True → J o) ∧ (decide (IntKind.i64.wrap (p_1.fst + p.fst) < x.snd.fst) = false → J (p_1.snd.snd.fst, ()))) ∧ ∀ (p_2 : List EE × Unit), WfEs p_2.fst ∧ True → J p_2 → I (IntKind.i64.wrap (p.fst * (2 : Int)), p_2) ∧ μ (IntKind.i64.wrap (p.fst * (2 : Int)), p_2) < μ p)) ∧ (decide (p.fst < x.snd.fst) = false → True ∧ List.Perm p.snd.fst x.fst ∧ srtd x.snd.snd.fst.snd p.snd.fst))
theorem vc_slices_stableCmpFunc_Entry_eq (x : dens s_slices_stableCmpFunc_Entry.args) : semF ⟨Tryz.prog, tys⟩ sp_slices_stableCmpFunc_Entry an_slices_stableCmpFunc_Entry s_slices_stableCmpFunc_Entry Tryz.f104.results.toList (Tryz.f104.body.getD .skip) x = vc_slices_stableCmpFunc_Entry x := by kernel_rfl
theorem m_slices_stableCmpFunc_Entry (hsp : SpOk Tryz.prog sp_slices_stableCmpFunc_Entry) (h : ∀ x, awf s_slices_stableCmpFunc_Entry.args x → s_slices_stableCmpFunc_Entry.pre x → vc_slices_stableCmpFunc_Entry x) : Meets Tryz.prog 104 s_slices_stableCmpFunc_Entry := meets_vc (cx := ⟨Tryz.prog, tys⟩) (sp := sp_slices_stableCmpFunc_Entry) (an := an_slices_stableCmpFunc_Entry) (s := s_slices_stableCmpFunc_Entry) (fn := Tryz.f104) (c := Tryz.f104.body.getD .skip) Tryz.func104 (by kernel_rfl) (Nat.le_of_ble_eq_true (by kernel_rfl)) (by kernel_rfl) tys_ok hsp vc_slices_stableCmpFunc_Entry_eq h
def vc_slices_SortStableFunc_SEntry_Entry : dens s_slices_SortStableFunc_SEntry_Entry.args → Prop := fun (x : List EE × ((EE × EE × Unit → Prop) × (EE × EE × Unit → Int)) × Unit) => Go.Proofs.Tryz.prog = Go.Proofs.Tryz.prog ∧ false = false ∧ ((okCmp x.snd.fst.fst fun (z : EE × EE × Unit) => x.snd.fst.snd z) ∧ (↑(List.length x.fst) : Int) = (↑(List.length x.fst) : Int) ∧ List.length x.fst ≤ (20 : Nat)) ∧ ∀ (r : Unit) (o : List EE × Unit), True → ((Ty.int IntKind.i64).pair ((Ty.bool.pair (Ty.int IntKind.u32).sl).pair (Ty.int IntKind.u32).sl)).sl.wf o.fst ∧ True → True → o.fst.Perm x.fst ∧ srtd (fun (z : EE × EE × Unit) => x.snd.fst.snd z) o.fst → True ∧ o.fst.Perm x.fst ∧ srtd x.snd.fst.snd o.fst
theorem vc_slices_SortStableFunc_SEntry_Entry_eq (x : dens s_slices_SortStableFunc_SEntry_Entry.args) : semF ⟨Tryz.prog, tys⟩ sp_slices_SortStableFunc_SEntry_Entry an_slices_SortStableFunc_SEntry_Entry s_slices_SortStableFunc_SEntry_Entry Tryz.f88.results.toList (Tryz.f88.body.getD .skip) x = vc_slices_SortStableFunc_SEntry_Entry x := by kernel_rfl
theorem m_slices_SortStableFunc_SEntry_Entry (hsp : SpOk Tryz.prog sp_slices_SortStableFunc_SEntry_Entry) (h : ∀ x, awf s_slices_SortStableFunc_SEntry_Entry.args x → s_slices_SortStableFunc_SEntry_Entry.pre x → vc_slices_SortStableFunc_SEntry_Entry x) : Meets Tryz.prog 88 s_slices_SortStableFunc_SEntry_Entry := meets_vc (cx := ⟨Tryz.prog, tys⟩) (sp := sp_slices_SortStableFunc_SEntry_Entry) (an := an_slices_SortStableFunc_SEntry_Entry) (s := s_slices_SortStableFunc_SEntry_Entry) (fn := Tryz.f88) (c := Tryz.f88.body.getD .skip) Tryz.func88 (by kernel_rfl) (Nat.le_of_ble_eq_true (by kernel_rfl)) (by kernel_rfl) tys_ok hsp vc_slices_SortStableFunc_SEntry_Entry_eq h
def vc_vector_arrange : dens s_vector_arrange.args → Prop := fun (x : List EE × Unit) => True ∧ ∀ (r : Bool × Unit), True ∧ True → r.fst = decide (byIx x.fst) → (r.fst = true → List.Perm x.fst x.fst ∧ byIx x.fst) ∧ (r.fst = false → ((0 : Int) ≤ (↑(List.length x.fst) : Int) ∧ (↑(List.length x.fst) : Int) ≤ (↑(List.length x.fst) : Int) ∧ (↑(64 : Nat) : Int) * (↑(List.length x.fst) : Int) ≤ (281474976710656 : Int) ∧ (↑(List.length x.fst) : Int) ≤ (9223372036854775807 : Int)) ∧ ∃ (ok : EE × EE × Unit → Prop), ∃ (φ : EE × EE × Unit → Int), (∀ (y : EE × EE × Unit), ((Ty.int IntKind.i64).pair ((Ty.bool.pair (Ty.int IntKind.u32).sl).pair (Ty.int IntKind.u32).sl)).wf y.fst ∧ ((Ty.int IntKind.i64).pair ((Ty.bool.pair (Ty.int IntKind.u32).sl).pair (Ty.int IntKind.u32).sl)).wf y.snd.fst ∧ True → ok y → True ∧ ∀ (z : Int × Unit), In64 z.fst ∧ True → z.fst = cmpI y.fst.fst y.snd.fst.fst → false = false ∧ z.fst = φ y) ∧ (okCmp ok φ ∧ (copyL (List.replicate (↑(List.length x.fst) : Int).toNat dEE) x.fst).length ≤ (20 : Nat)) ∧ ∀ (r_1 : Unit) (o : List EE × Unit), True → ((Ty.int IntKind.i64).pair ((Ty.bool.pair (Ty.int IntKind.u32).sl).pair (Ty.int IntKind.u32).sl)).sl.wf o.fst ∧ True → True → o.fst.Perm (copyL (List.replicate (↑(List.length x.fst) : Int).toNat dEE) x.fst) ∧ srtd φ o.fst → ∃ (I : Int × Int × List EE × Unit → Prop), ∃ (μ : Int × Int × List EE × Unit → Nat), I ((0 : Int), (0 : Int), o) ∧ ∀ (p : Int × Int × List EE × Unit), In64 p.fst ∧ In64 p.snd.fst ∧ WfEs p.snd.snd.fst ∧ True → I p → (decide (p.snd.fst < (↑o.fst.length : Int)) = true → ∃ (J : Int × List EE × Unit → Prop), (((0 : Int) ≤ p.snd.fst ∧ p.snd.fst < (↑(List.length p.snd.snd.fst) : Int)) ∧ (decide ((0 : Int) < p.fst) = true → (0 : Int) ≤ IntKind.i64.wrap (p.fst - (1 : Int)) ∧ IntKind.i64.wrap (p.fst - (1 : Int)) < (↑(List.length p.snd.snd.fst) : Int)) ∧ (sel (decide ((0 : Int) < p.fst)) (decide ((List.getD p.snd.snd.fst (IntKind.i64.wrap (p.fst - (1 : Int))).toNat dEE).fst = (List.getD p.snd.snd.fst (Int.toNat p.snd.fst) dEE).fst)) false = true → ((0 : Int) ≤ IntKind.i64.wrap (p.fst - (1 : Int)) ∧ IntKind.i64.wrap (p.fst - (1 : Int)) < (↑(List.length p.snd.snd.fst) : Int)) ∧ False ∧ ∀ (r : QQ × Unit), WfQ r.fst ∧ True → True → ((0 : Int) ≤ IntKind.i64.wrap (p.fst - (1 : Int)) ∧ IntKind.i64.wrap (p.fst - (1 : Int)) < (↑(List.length p.snd.snd.fst) : Int)) ∧ J (p.fst, List.set p.snd.snd.fst (IntKind.i64.wrap (p.fst - (1 : Int))).toNat ((List.getD p.snd.snd.fst (IntKind.i64.wrap (p.fst - (1 : Int))).toNat dEE).fst, r.fst), ())) ∧ (sel (decide ((0 : Int) < p.fst)) (decide ((List.getD p.snd.snd.fst (IntKind.i64.wrap (p.fst - (1 : Int))).toNat dEE).fst = (List.getD p.snd.snd.fst (Int.toNat p.snd.fst) dEE).fst)) false = false → ((0 : Int) ≤ p.fst ∧ p.fst < (↑(List.length p.snd.snd.fst) : Int)) ∧ J (IntKind.i64.wrap (p.fst + (1 : Int)), List.set p.snd.snd.fst (Int.toNat p.fst) (List.getD p.snd.snd.fst (Int.toNat p.snd.fst) dEE), ()))) ∧ ∀ (p_1 : Int × List EE × Unit), In64 p_1.fst ∧ WfEs p_1.snd.fst ∧ True → J p_1 → I (p_1.fst, IntKind.i64.wrap (p.snd.fst + (1 : Int)), p_1.snd.fst, ()) ∧ μ (p_1.fst, IntKind.i64.wrap (p.snd.fst + (1 : Int)), p_1.snd.fst, ()) < μ p) ∧ (decide (p.snd.fst < (↑o.fst.length : Int)) = false → ((0 : Int) ≤ (0 : Int) ∧ (0 : Int) ≤ p.fst ∧ p.fst ≤ (↑(List.length p.snd.snd.fst) : Int)) ∧ (List.drop (Int.toNat (0 : Int)) (List.take (Int.toNat p.fst) p.snd.snd.fst)).Perm x.fst ∧ byIx (List.drop (Int.toNat (0 : Int)) (List.take (Int.toNat p.fst) p.snd.snd.fst))))
theorem vc_vector_arrange_eq (x : dens s_vector_arrange.args) : semF ⟨Tryz.prog, tys⟩ sp_vector_arrange an_vector_arrange s_vector_arrange Tryz.f67.results.toList (Tryz.f67.body.getD .skip) x = vc_vector_arrange x := by kernel_rfl
theorem m_vector_arrange (hsp : SpOk Tryz.prog sp_vector_arrange) (h : ∀ x, awf s_vector_arrange.args x → s_vector_arrange.pre x → vc_vector_arrange x) : Meets Tryz.prog 67 s_vector_arrange := meets_vc (cx := ⟨Tryz.prog, tys⟩) (sp := sp_vector_arrange) (an := an_vector_arrange) (s := s_vector_arrange) (fn := Tryz.f67) (c := Tryz.f67.body.getD .skip) Tryz.func67 (by kernel_rfl) (Nat.le_of_ble_eq_true (by kernel_rfl)) (by kernel_rfl) tys_ok hsp vc_vector_arrange_eq h
def vc_vector_merge : dens s_vector_merge.args → Prop := fun (x : List EE × List EE × ((QQ × QQ × Unit → Prop) × (QQ × QQ × Unit → (Bool × List Int) × List Int)) × Unit) => ((0 : Int) ≤ (0 : Int) ∧ (0 : Int) ≤ Max.max (↑(List.length x.fst) : Int) (↑(List.length x.snd.fst) : Int) ∧ (↑(64 : Nat) : Int) * Max.max (↑(List.length x.fst) : Int) (↑(List.length x.snd.fst) : Int) ≤ (281474976710656 : Int) ∧ Max.max (↑(List.length x.fst) : Int) (↑(List.length x.snd.fst) : Int) ≤ (9223372036854775807 : Int)) ∧ ∃ (I : List EE × List EE × List EE × Unit → Prop), ∃ (μ : List EE × List EE × List EE × Unit → Nat), I (x.fst, x.snd.fst, List.replicate (Int.toNat (0 : Int)) dEE, ()) ∧ ∀ (p : List EE × List EE × List EE × Unit), WfEs p.fst ∧ WfEs p.snd.fst ∧ WfEs p.snd.snd.fst ∧ True → I p → (sel (decide ((0 : Int) < (↑(List.length p.fst) : Int))) true (decide ((0 : Int) < (↑(List.length p.snd.fst) : Int))) = true → ∃ (J : List EE × List EE × Int × Bool × List Int × List Int × Bool × List Int × List Int × Unit → Prop), ((decide ((0 : Int) < (↑(List.length p.fst) : Int)) = true ∧ decide ((↑(List.length p.snd.fst) : Int) = (0 : Int)) = false → (0 : Int) ≤ (0 : Int) ∧ (0 : Int) < (↑(List.length p.fst) : Int)) ∧ (decide ((0 : Int) < (↑(List.length p.fst) : Int)) = true ∧ decide ((↑(List.length p.snd.fst) : Int) = (0 : Int)) = false → (0 : Int) ≤ (0 : Int) ∧ (0 : Int) < (↑(List.length p.snd.fst) : Int)) ∧ (sel (decide ((↑(List.length p.snd.fst) : Int) = (0 : Int))) true (sel (decide ((0 : Int) < (↑(List.length p.fst) : Int))) (decide ((gx dEE p.fst (0 : Int)).fst ≤ (gx dEE p.snd.fst (0 : Int)).fst)) false) = true → ((0 : Int) ≤ (0 : Int) ∧ (0 : Int) < (↑(List.length p.fst) : Int)) ∧ ((0 : Int) ≤ (0 : Int) ∧ (0 : Int) < (↑(List.length p.fst) : Int)) ∧ ((0 : Int) ≤ (1 : Int) ∧ (1 : Int) ≤ (↑(List.length p.fst) : Int) ∧ (↑(List.length p.fst) : Int) ≤ (↑(List.length p.fst) : Int)) ∧ (decide ((0 : Int) < (↑(List.length p.snd.fst) : Int)) = true → (0 : Int) ≤ (0 : Int) ∧ (0 : Int) < (↑(List.length p.snd.fst) : Int)) ∧ (sel (decide ((0 : Int) < (↑(List.length p.snd.fst) : Int))) (decide ((gx dEE p.snd.fst (0 : Int)).fst = (gx dEE p.fst (0 : Int)).fst)) false = true → ((0 : Int) ≤ (0 : Int) ∧ (0 : Int) < (↑(List.length p.snd.fst) : Int)) ∧ ((0 : Int) ≤ (1 : Int) ∧ (1 : Int) ≤ (↑(List.length p.snd.fst) : Int) ∧ (↑(List.length p.snd.fst) : Int) ≤ (↑(List.length p.snd.fst) : Int)) ∧ J (List.drop (Int.toNat (1 : Int)) (List.take (↑(List.length p.fst) : Int).toNat p.fst), List.drop (Int.toNat (1 : Int)) (List.take (↑(List.length p.snd.fst) : Int).toNat p.snd.fst), (gx dEE p.fst (0 : Int)).fst, (gx dEE p.fst (0 : Int)).snd.fst.fst, (gx dEE p.fst (0 : Int)).snd.fst.snd, (gx dEE p.fst (0 : Int)).snd.snd, (gx dEE p.snd.fst (0 : Int)).snd.fst.fst, (gx dEE p.snd.fst (0 : Int)).snd.fst.snd, (gx dEE p.snd.fst (0 : Int)).snd.snd, ())) ∧ (sel (decide ((0 : Int) < (↑(List.length p.snd.fst) : Int))) (decide ((gx dEE p.snd.fst (0 : Int)).fst = (gx dEE p.fst (0 : Int)).fst)) false = false → J (List.drop (Int.toNat (1 : Int)) (List.take (↑(List.length p.fst) : Int).toNat p.fst), p.snd.fst, (gx dEE p.fst (0 : Int)).fst, (gx dEE p.fst (0 : Int)).snd.fst.fst, (gx dEE p.fst (0 : Int)).snd.fst.snd, (gx dEE p.fst (0 : Int)).snd.snd, false, [], [], ()))) ∧ (sel (decide ((↑(List.length p.snd.fst) : Int) = (0 : Int))) true (sel (decide ((0 : Int) < (↑(List.length p.fst) : Int))) (decide ((gx dEE p.fst (0 : Int)).fst ≤ (gx dEE p.snd.fst (0 : Int)).fst)) false) = false → ((0 : Int) ≤ (0 : Int) ∧ (0 : Int) < (↑(List.length p.snd.fst) : Int)) ∧ ((0 : Int) ≤ (0 : Int) ∧ (0 : Int) < (↑(List.length p.snd.fst) : Int)) ∧ ((0 : Int) ≤ (1 : Int) ∧ (1 : Int) ≤ (↑(List.length p.snd.fst) : Int) ∧ (↑(List.length p.snd.fst) : Int) ≤ (↑(List.length p.snd.fst) : Int)) ∧ J (p.fst, List.drop (Int.toNat (1 : Int)) (List.take (↑(List.length p.snd.fst) : Int).toNat p.snd.fst), (gx dEE p.snd.fst (0 : Int)).fst, false, [], [], (gx dEE p.snd.fst (0 : Int)).snd.fst.fst, (gx dEE p.snd.fst (0 : Int)).snd.fst.snd, (gx dEE p.snd.fst (0 : Int)).snd.snd, ()))) ∧ ∀ (p_1 : List EE × List EE × Int × Bool × List Int × List Int × Bool × List Int × List Int × Unit), WfEs p_1.fst ∧ WfEs p_1.snd.fst ∧ In64 p_1.snd.snd.fst ∧ True ∧ WfU p_1.snd.snd.snd.snd.fst ∧ WfU p_1.snd.snd.snd.snd.snd.fst ∧ True ∧ WfU p_1.snd.snd.snd.snd.snd.snd.snd.fst ∧ WfU p_1.snd.snd.snd.snd.snd.snd.snd.snd.fst ∧ True → J p_1 → Go.Proofs.Tryz.prog = Go.Proofs.Tryz.prog ∧ x.snd.snd.fst.fst (((p_1.snd.snd.snd.fst, p_1.snd.snd.snd.snd.fst), p_1.snd.snd.snd.snd.snd.fst), ((p_1.snd.snd.snd.snd.snd.snd.fst, p_1.snd.snd.snd.snd.snd.snd.snd.fst), p_1.snd.snd.snd.snd.snd.snd.snd.snd.fst), ()) ∧ (((Ty.bool.pair (Ty.int IntKind.u32).sl).pair (Ty.int IntKind.u32).sl).wf (x.snd.snd.fst.snd (((p_1.snd.snd.snd.fst, p_1.snd.snd.snd.snd.fst), p_1.snd.snd.snd.snd.snd.fst), ((p_1.snd.snd.snd.snd.snd.snd.fst, p_1.snd.snd.snd.snd.snd.snd.snd.fst), p_1.snd.snd.snd.snd.snd.snd.snd.snd.fst), ())) → True ∧ ∀ (r : Int × Unit), In64 r.fst ∧ True → r.fst = rsgn (x.snd.snd.fst.snd (((p_1.snd.snd.snd.fst, p_1.snd.snd.snd.snd.fst), p_1.snd.snd.snd.snd.snd.fst), ((p_1.snd.snd.snd.snd.snd.snd.fst, p_1.snd.snd.snd.snd.snd.snd.snd.fst), p_1.snd.snd.snd.snd.snd.snd.snd.snd.fst), ())) → (decide (r.fst ≠ (0 : Int)) = true → ((List.length p.snd.snd.fst + [(p_1.snd.snd.fst, x.snd.snd.fst.snd (((p_1.snd.snd.snd.fst, p_1.snd.snd.snd.snd.fst), p_1.snd.snd.snd.snd.snd.fst), ((p_1.snd.snd.snd.snd.snd.snd.fst, p_1.snd.snd.snd.snd.snd.snd.snd.fst), p_1.snd.snd.snd.snd.snd.snd.snd.snd.fst), ()))].length) * (64 : Nat) ≤ (140737488355328 : Nat) ∧ List.length p.snd.snd.fst + [(p_1.snd.snd.fst, x.snd.snd.fst.snd (((p_1.snd.snd.snd.fst, p_1.snd.snd.snd.snd.fst), p_1.snd.snd.snd.snd.snd.fst), ((p_1.snd.snd.snd.snd.snd.snd.fst, p_1.snd.snd.snd.snd.snd.snd.snd.fst), p_1.snd.snd.snd.snd.snd.snd.snd.snd.fst), ()))].length ≤ 9223372036854775807) ∧ I (p_1.fst, p_1.snd.fst, p.snd.snd.fst ++ [(p_1.snd.snd.fst, x.snd.snd.fst.snd (((p_1.snd.snd.snd.fst, p_1.snd.snd.snd.snd.fst), p_1.snd.snd.snd.snd.snd.fst), ((p_1.snd.snd.snd.snd.snd.snd.fst, p_1.snd.snd.snd.snd.snd.snd.snd.fst), p_1.snd.snd.snd.snd.snd.snd.snd.snd.fst), ()))], ()) ∧ μ (p_1.fst, p_1.snd.fst, p.snd.snd.fst ++ [(p_1.snd.snd.fst, x.snd.snd.fst.snd (((p_1.snd.snd.snd.fst, p_1.snd.snd.snd.snd.fst), p_1.snd.snd.snd.snd.snd.fst), ((p_1.snd.snd.snd.snd.snd.snd.fst, p_1.snd.snd.snd.snd.snd.snd.snd.fst), p_1.snd.snd.snd.snd.snd.snd.snd.snd.fst), ()))], ()) < μ p) ∧ (decide (r.fst ≠ (0 : Int)) = false → I (p_1.fst, p_1.snd.fst, p.snd.snd.fst, ()) ∧ μ (p_1.fst, p_1.snd.fst, p.snd.snd.fst, ()) < μ p))) ∧ (sel (decide ((0 : Int) < (↑(List.length p.fst) : Int))) true (decide ((0 : Int) < (↑(List.length p.snd.fst) : Int))) = false → p.snd.snd.fst = x.fst)
theorem vc_vector_merge_eq (x : dens s_vector_merge.args) : semF ⟨Tryz.prog, tys⟩ sp_vector_merge an_vector_merge s_vector_merge Tryz.f66.results.toList (Tryz.f66.body.getD .skip) x = vc_vector_merge x := by kernel_rfl
theorem m_vector_merge (hsp : SpOk Tryz.prog sp_vector_merge) (h : ∀ x, awf s_vector_merge.args x → s_vector_merge.pre x → vc_vector_merge x) : Meets Tryz.prog 66 s_vector_merge := meets_vc (cx := ⟨Tryz.prog, tys⟩) (sp := sp_vector_merge) (an := an_vector_merge) (s := s_vector_merge) (fn := Tryz.f66) (c := Tryz.f66.body.getD .skip) Tryz.func66 (by kernel_rfl) (Nat.le_of_ble_eq_true (by kernel_rfl)) (by kernel_rfl) tys_ok hsp vc_vector_merge_eq h
def vc_vector_Norm_1 : dens s_vector_Norm_1.args → Prop := fun (x : QQ × QQ × Unit) => smallR x.fst ∧ ∀ (r : QQ × Unit), WfQ r.fst ∧ True → r.fst = rc (rv x.fst) → r.fst = rc (rv x.fst)
theorem vc_vector_Norm_1_eq (x : dens s_vector_Norm_1.args) : semF ⟨Tryz.prog, tys⟩ sp_vector_Norm_1 an_vector_Norm_1 s_vector_Norm_1 Tryz.f68.results.toList (Tryz.f68.body.getD .skip) x = vc_vector_Norm_1 x := by kernel_rfl
theorem m_vector_Norm_1 (hsp : SpOk Tryz.prog sp_vector_Norm_1) (h : ∀ x, awf s_vector_Norm_1.args x → s_vector_Norm_1.pre x → vc_vector_Norm_1 x) : Meets Tryz.prog 68 s_vector_Norm_1 := meets_vc (cx := ⟨Tryz.prog, tys⟩) (sp := sp_vector_Norm_1) (an := an_vector_Norm_1) (s := s_vector_Norm_1) (fn := Tryz.f68) (c := Tryz.f68.body.getD .skip) Tryz.func68 (by kernel_rfl) (Nat.le_of_ble_eq_true (by kernel_rfl)) (by kernel_rfl) tys_ok hsp vc_vector_Norm_1_eq h
def vc_vector_Norm : dens s_vector_Norm.args → Prop := fun (x : List EE × Unit) => (List.length x.fst ≤ (20 : Nat) ∧ (List.map (fun (x : Int × (Bool × List Int) × List Int) => x.fst) x.fst).Nodup) ∧ ∀ (r : List EE × Unit), WfEs r.fst ∧ True → r.fst.Perm x.fst ∧ byIx r.fst → ∃ (ok : QQ × QQ × Unit → Prop), ∃ (φ : QQ × QQ × Unit → (Bool × List Int) × List Int), (∀ (y : QQ × QQ × Unit), ((Ty.bool.pair (Ty.int IntKind.u32).sl).pair (Ty.int IntKind.u32).sl).wf y.fst ∧ ((Ty.bool.pair (Ty.int IntKind.u32).sl).pair (Ty.int IntKind.u32).sl).wf y.snd.fst ∧ True → ok y → smallR y.fst ∧ ∀ (z : QQ × Unit), WfQ z.fst ∧ True → z.fst = rc (rv y.fst) → true = true ∧ z.fst = φ y) ∧ (nilL EE = [] ∧ List.length r.fst ≤ (100000 : Nat) ∧ ∀ (e : Int × (Bool × List Int) × List Int), e ∈ r.fst → (ok, φ).fst (e.snd, zr, ()) ∧ (ok, φ).snd (e.snd, zr, ()) = e.snd ∧ rsgn e.snd ≠ (0 : Int)) ∧ ∀ (r_1 : List EE × Unit), WfEs r_1.fst ∧ True → r_1.fst = r.fst → List.Perm r_1.fst x.fst ∧ byIx r_1.fst
theorem vc_vector_Norm_eq (x : dens s_vector_Norm.args) : semF ⟨Tryz.prog, tys⟩ sp_vector_Norm an_vector_Norm s_vector_Norm Tryz.f43.results.toList (Tryz.f43.body.getD .skip) x = vc_vector_Norm x := by kernel_rfl
theorem m_vector_Norm (hsp : SpOk Tryz.prog sp_vector_Norm) (h : ∀ x, awf s_vector_Norm.args x → s_vector_Norm.pre x → vc_vector_Norm x) : Meets Tryz.prog 43 s_vector_Norm := meets_vc (cx := ⟨Tryz.prog, tys⟩) (sp := sp_vector_Norm) (an := an_vector_Norm) (s := s_vector_Norm) (fn := Tryz.f43) (c := Tryz.f43.body.getD .skip) Tryz.func43 (by kernel_rfl) (Nat.le_of_ble_eq_true (by kernel_rfl)) (by kernel_rfl) tys_ok hsp vc_vector_Norm_eq h
end Go.Proofs.YtppgpdigopffbaaGreat
namespace Go.Proofs.YtppgpdigopffbaaGreat
open Go.Vc Go.Gw
theorem vc_vector_byIndex_ok (x : dens s_vector_byIndex.args) (hw : awf s_vector_byIndex.args x) (_ : s_vector_byIndex.pre x) : vc_vector_byIndex x := by
  simp only [vc_vector_byIndex]
  exact ⟨trivial, fun r _ h => h⟩
theorem vc_vector_ascending_ok (x : dens s_vector_ascending.args) (hw : awf s_vector_ascending.args x) (_ : s_vector_ascending.pre x) : vc_vector_ascending x := by
  obtain ⟨l, _⟩ := x
  have hl : l.length ≤ 9223372036854775807 := hw.1.1
  change List (Int × (Bool × List Int) × List Int) at l
  simp only [vc_vector_ascending]
  refine ⟨fun p => 1 ≤ p.1 ∧ ∀ s t : Nat, s < t → t < p.1.toNat → t < l.length → (l.getD s dEE).1 < (l.getD t dEE).1, fun p => ((l.length : Int) - p.1).toNat, ⟨Int.le_refl _, fun s t h1 h2 => by simp at h2; omega⟩, ?_⟩
  rintro ⟨k, _⟩ _ ⟨h0, h1⟩
  change Int at k
  simp only at h0 h1 ⊢
  refine ⟨fun h => ?_, fun h => ?_⟩
  · have h := of_decide_eq_true h
    rw [wr (a := k - 1) (by omega) (by omega)]
    refine ⟨⟨by omega, by omega⟩, ⟨by omega, h⟩, fun hb => ?_, fun hb => ?_⟩
    · have hb := of_decide_eq_true hb
      refine (decide_eq_false fun hp => ?_).symm
      unfold byIx at hp
      rw [List.pairwise_iff_getElem] at hp
      have := hp (k - 1).toNat k.toNat (by omega) (by omega) (by omega)
      have e1 := gx_get (d := dEE) (l := l) (i := k) (by omega) h
      have e2 := gx_get (d := dEE) (l := l) (i := k - 1) (by omega) (by omega)
      rw [List.getElem?_eq_getElem (by omega)] at e1 e2
      rw [Option.some.inj e1, Option.some.inj e2] at this
      omega
    · have hb := of_decide_eq_false hb
      rw [wr (a := k + 1) (by omega) (by omega)]
      rw [gx_getD (by omega) h, gx_getD (by omega) (by omega)] at hb
      refine ⟨⟨by omega, fun s t h2 h3 h4 => ?_⟩, by omega⟩
      by_cases ht : t = k.toNat
      · by_cases hs : s = (k - 1).toNat
        · rw [ht, hs]; omega
        · have := h1 s (k - 1).toNat (by omega) (by omega) (by omega)
          rw [ht]; omega
      · exact h1 s t h2 (by omega) h4
  · have h := of_decide_eq_false h
    refine (decide_eq_true ?_).symm
    unfold byIx
    rw [List.pairwise_iff_getElem]
    intro i j hi hj hij
    have := h1 i j hij (by omega) hj
    rw [List.getD_eq_getElem?_getD, List.getElem?_eq_getElem hi, List.getD_eq_getElem?_getD, List.getElem?_eq_getElem hj] at this
    exact this
theorem vc_slices_insertionSortCmpFunc_Entry_ok (x : dens s_slices_insertionSortCmpFunc_Entry.args) (hw : awf s_slices_insertionSortCmpFunc_Entry.args x) (hp : s_slices_insertionSortCmpFunc_Entry.pre x) : vc_slices_insertionSortCmpFunc_Entry x := by
  obtain ⟨l, a, b, ⟨ok, φ⟩, _⟩ := x
  change List (Int × (Bool × List Int) × List Int) at l
  change Int at a b
  obtain ⟨⟨hok, htr, has⟩, a0, ab, bl, hl⟩ : okCmp ok φ ∧ 0 ≤ a ∧ a ≤ b ∧ b ≤ (l.length : Int) ∧ l.length ≤ 100000 := hp
  simp only [vc_slices_insertionSortCmpFunc_Entry]
  have hq : ∀ x y z : Ent, ¬ φ (y, x, ()) < 0 → ¬ φ (z, y, ()) < 0 → ¬ φ (z, x, ()) < 0 := fun x y z h1 h2 => htr z y x h2 h1
  refine ⟨fun p => a + 1 ≤ p.1 ∧ (p.1 ≤ b ∨ p.1 = a + 1) ∧ p.2.1.Perm l ∧ p.2.1.take a.toNat = l.take a.toNat ∧ p.2.1.drop b.toNat = l.drop b.toNat ∧ (∀ s t, a.toNat ≤ s → s < t → t < p.1.toNat → t < b.toNat → ¬ φ (p.2.1.getD t dEE, p.2.1.getD s dEE, ()) < 0), fun p => (b - p.1).toNat, ?_, ?_⟩
  · rw [wr (by omega) (by omega)]
    refine ⟨Int.le_refl _, .inr rfl, List.Perm.refl _, rfl, rfl, fun s t h1 h2 h3 h4 => ?_⟩
    change t < (a + 1).toNat at h3
    omega
  rintro ⟨i, m, _⟩ _ ⟨h0, h1, h2, h3, h4, h5⟩
  change Int at i
  change List (Int × (Bool × List Int) × List Int) at m
  simp only at h0 h1 h2 h3 h4 h5 ⊢
  have hml := h2.length_eq
  refine ⟨fun h => ?_, fun h => ?_⟩
  · have h := of_decide_eq_true h
    refine ⟨fun p => a ≤ p.1 ∧ p.1 ≤ i ∧ p.2.1.Perm l ∧ p.2.1.take a.toNat = l.take a.toNat ∧ p.2.1.drop b.toNat = l.drop b.toNat ∧ insS (fun x y => ¬ φ (y, x, ()) < 0) dEE p.2.1 a.toNat i.toNat p.1.toNat, fun p => (p.1 - a).toNat, ⟨by show a ≤ i; omega, Int.le_refl _, h2, h3, h4, insS_start fun s t q1 q2 q3 => h5 s t q1 q2 q3 (by omega)⟩, ?_⟩
    rintro ⟨j, y, _⟩ _ ⟨g0, g1, g2, g3, g4, g5⟩
    change Int at j
    change List (Int × (Bool × List Int) × List Int) at y
    simp only at g0 g1 g2 g3 g4 g5 ⊢
    have hyl := g2.length_eq
    have ew : IntKind.i64.wrap (j - 1) = j - 1 := wr (by omega) (by omega)
    rw [ew]
    have et : (j - 1).toNat = j.toNat - 1 := by omega
    rw [et]
    refine ⟨fun hj => ⟨by omega, by omega⟩, fun hj => ?_, trivial, fun _ => hok _ _, fun _ => ⟨fun hs => ?_, fun hs => ?_⟩⟩
    · have hj := of_decide_eq_true hj; exact ⟨by omega, by omega⟩
    · rw [sel_and] at hs
      simp only [Bool.and_eq_true, decide_eq_true_eq] at hs
      obtain ⟨s1, s2⟩ := hs
      refine ⟨⟨by omega, by omega⟩, ⟨by omega, by omega⟩, ⟨by omega, by omega⟩, ⟨by omega, by rw [List.length_set]; omega⟩, ⟨by omega, by omega, ?_, ?_, ?_, ?_⟩, by omega⟩
      · exact (swapL_perm (d := dEE) (l := y) (j := j.toNat) (by omega)).trans g2
      · exact (swapL_take (d := dEE) (l := y) (by omega)).trans g3
      · exact (swapL_drop (d := dEE) (l := y) (by omega)).trans g4
      · exact insS_swap g5 (by omega) (by omega) (by omega) (has _ _ s2)
    · rw [sel_and] at hs
      simp only [Bool.and_eq_false_iff, decide_eq_false_iff_not] at hs
      rw [wr (by omega) (by omega)]
      refine ⟨⟨by omega, .inl (by omega), g2, g3, g4, fun s t q1 q2 q3 q4 => ?_⟩, by omega⟩
      refine insS_end g5 hq (by omega) (fun hh => ?_) s t q1 q2 (by change t < (i + 1).toNat at q3; omega)
      rcases hs with hs | hs
      · omega
      · exact hs
  · have h := of_decide_eq_false h
    refine ⟨trivial, h2, h3, h4, ?_⟩
    unfold srtd
    have := pairwise_range (q := fun x y => ¬ φ (y, x, ()) < 0) (d := dEE) (l := m) (a := a.toNat) (b := b.toNat) (by omega) fun s t q1 q2 q3 => h5 s t q1 q2 (by omega) q3
    exact this
theorem vc_slices_stableCmpFunc_Entry_ok (x : dens s_slices_stableCmpFunc_Entry.args) (hw : awf s_slices_stableCmpFunc_Entry.args x) (hp : s_slices_stableCmpFunc_Entry.pre x) : vc_slices_stableCmpFunc_Entry x := by
  obtain ⟨l, n, ⟨ok, φ⟩, _⟩ := x
  change List (Int × (Bool × List Int) × List Int) at l
  change Int at n
  obtain ⟨hok, hn, hl⟩ : okCmp ok φ ∧ n = (l.length : Int) ∧ l.length ≤ 20 := hp
  simp only [vc_slices_stableCmpFunc_Entry]
  refine ⟨fun p => (p.1 = 0 ∧ p.2.1 = 20 ∧ p.2.2.1 = l) ∨ (p.1 = 20 ∧ p.2.1 = 40 ∧ n = 20 ∧ p.2.2.1.Perm l ∧ srtd φ p.2.2.1), fun p => (40 - p.2.1).toNat, .inl ⟨rfl, rfl, rfl⟩, ?_⟩
  rintro ⟨a, b, m, _⟩ _ hI
  change Int at a b
  change List (Int × (Bool × List Int) × List Int) at m
  simp only at hI ⊢
  refine ⟨fun h => ?_, fun h => ?_⟩
  · have h := of_decide_eq_true h
    obtain ⟨rfl, rfl, rfl⟩ : a = 0 ∧ b = 20 ∧ m = l := by
      rcases hI with h1 | ⟨_, h1, _⟩
      · exact h1
      · omega
    refine ⟨trivial, trivial, ⟨hok, Int.le_refl _, by omega, by omega, by omega⟩, ?_⟩
    rintro r ⟨o, _⟩ _ _ _ ⟨o1, o2, o3, o4⟩
    simp only at o1 o2 o3 o4 ⊢
    rw [wr (by omega) (by omega)]
    refine ⟨.inr ⟨by trivial, by trivial, by omega, o1, ?_⟩, by simp⟩
    have hol := o1.length_eq
    change srtd φ ((o.drop 0).take (20 - 0)) at o4
    rw [List.drop_zero, List.take_of_length_le (by omega)] at o4
    exact o4
  · have h := of_decide_eq_false h
    have hm : 0 ≤ a ∧ a ≤ n ∧ m.Perm l ∧ (a = 0 ∨ a = n ∧ srtd φ m) := by
      rcases hI with ⟨rfl, rfl, rfl⟩ | ⟨rfl, rfl, h20, hp, hs⟩
      · exact ⟨Int.le_refl _, by omega, List.Perm.refl _, .inl rfl⟩
      · exact ⟨by decide, by omega, hp, .inr ⟨by omega, hs⟩⟩
    obtain ⟨m1, m2, m3, m4⟩ := hm
    have hml := m3.length_eq
    refine ⟨trivial, trivial, ⟨hok, m1, m2, by omega, by omega⟩, ?_⟩
    rintro r ⟨o, _⟩ _ _ _ ⟨o1, o2, o3, o4⟩
    simp only at o1 o2 o3 o4 ⊢
    have hol := o1.length_eq
    have hso : srtd φ o := by
      rcases m4 with m4 | ⟨m4, m5⟩
      · change srtd φ ((o.drop a.toNat).take (n.toNat - a.toNat)) at o4
        rw [m4] at o4
        change srtd φ ((o.drop 0).take (n.toNat - 0)) at o4
        rw [List.drop_zero, List.take_of_length_le (by omega)] at o4
        exact o4
      · rw [List.take_of_length_le (by omega), List.take_of_length_le (by omega)] at o2
        rw [o2]; exact m5
    refine ⟨fun p => p.1 = 20 ∧ p.2.1.Perm l ∧ srtd φ p.2.1, fun _ => 0, ⟨rfl, o1.trans m3, hso⟩, ?_⟩
    rintro ⟨k, z, _⟩ _ ⟨k1, k2, k3⟩
    simp only at k1 k2 k3 ⊢
    subst k1
    refine ⟨fun hk => ?_, fun _ => ⟨trivial, k2, k3⟩⟩
    have hk := of_decide_eq_true hk
    omega
theorem vc_slices_SortStableFunc_SEntry_Entry_ok (x : dens s_slices_SortStableFunc_SEntry_Entry.args) (hw : awf s_slices_SortStableFunc_SEntry_Entry.args x) (hp : s_slices_SortStableFunc_SEntry_Entry.pre x) : vc_slices_SortStableFunc_SEntry_Entry x := by
  obtain ⟨l, ⟨ok, φ⟩, _⟩ := x
  obtain ⟨hok, hl⟩ : okCmp ok φ ∧ l.length ≤ 20 := hp
  simp only [vc_slices_SortStableFunc_SEntry_Entry]
  refine ⟨trivial, trivial, ⟨hok, trivial, hl⟩, ?_⟩
  rintro r ⟨o, _⟩ _ _ _ h
  exact ⟨trivial, h⟩
theorem okCmp_index : okCmp (fun _ => True) (fun z => cmpI z.1.1 z.2.1.1) := by
  refine ⟨fun _ _ => trivial, fun a b c => ?_, fun a b => ?_⟩
  · simp only [cmpI]
    split <;> split <;> split <;> (try split) <;> (try split) <;> (try split) <;> omega
  · simp only [cmpI]
    split <;> split <;> (try split) <;> (try split) <;> omega
theorem cmpI_neg {a b : Int} : ¬ cmpI a b < 0 ↔ b ≤ a := by
  unfold cmpI; split
  · omega
  · split <;> omega
theorem srtd_byIx {l : List Ent} (h : srtd (fun z => cmpI z.1.1 z.2.1.1) l) (hn : (l.map (·.1)).Nodup) : byIx l := by
  unfold byIx srtd at *
  unfold List.Nodup at hn
  rw [List.pairwise_map] at hn
  refine (h.and hn).imp fun {a b} hh => ?_
  have h1 := cmpI_neg.1 hh.1
  have h2 := hh.2
  simp only at h1
  omega
theorem copyL_all {α : Type} {l : List α} {d : α} : copyL (List.replicate ((l.length : Nat) : Int).toNat d) l = l := by
  unfold copyL
  rw [List.length_replicate, Int.toNat_natCast, List.take_length, List.drop_of_length_le (by simp), List.append_nil]
theorem vc_vector_arrange_ok (x : dens s_vector_arrange.args) (hw : awf s_vector_arrange.args x) (hp : s_vector_arrange.pre x) : vc_vector_arrange x := by
  obtain ⟨l, _⟩ := x
  change List (Int × (Bool × List Int) × List Int) at l
  obtain ⟨hl, hn⟩ : l.length ≤ 20 ∧ (l.map fun e : Int × (Bool × List Int) × List Int => e.1).Nodup := hp
  simp only [vc_vector_arrange]
  refine ⟨trivial, ?_⟩
  rintro ⟨r, _⟩ _ hr
  simp only at hr ⊢
  subst hr
  refine ⟨fun h => ⟨List.Perm.refl _, of_decide_eq_true h⟩, fun h => ⟨⟨by omega, by omega, by omega, by omega⟩, fun _ => True, fun z => cmpI z.1.1 z.2.1.1, ?_, ⟨okCmp_index, ?_⟩, ?_⟩⟩
  · rintro ⟨a, b, _⟩ _ _
    refine ⟨trivial, ?_⟩
    rintro ⟨z, _⟩ _ hz
    exact ⟨(by trivial), hz⟩
  · rw [copyL_all]; exact hl
  rintro r ⟨o, _⟩ _ _ _ ⟨o1, o2⟩
  simp only [copyL_all] at o1 o2 ⊢
  have hol := o1.length_eq
  have hb := srtd_byIx o2 ((o1.map _).nodup_iff.2 hn)
  have hb2 := hb
  unfold byIx at hb2
  rw [List.pairwise_iff_getElem] at hb2
  refine ⟨fun p => p.1 = p.2.1 ∧ 0 ≤ p.1 ∧ p.1 ≤ (o.length : Int) ∧ p.2.2.1 = o, fun p => ((o.length : Int) - p.1).toNat, ⟨rfl, Int.le_refl _, Int.natCast_nonneg _, rfl⟩, ?_⟩
  rintro ⟨n, i, m, _⟩ _ ⟨h0, h1, h2, h3⟩
  change Int at n i
  simp only at h0 h1 h2 h3 ⊢
  subst h0 h3
  refine ⟨fun hi => ?_, fun hi => ?_⟩
  · have hi := of_decide_eq_true hi
    refine ⟨fun p => p.1 = n + 1 ∧ p.2.1 = m, ⟨⟨h1, hi⟩, fun hh => ?_, fun hh => ?_, fun hh => ?_⟩, ?_⟩
    · have hh := of_decide_eq_true hh
      rw [wr (by omega) (by omega)]
      exact ⟨by omega, by omega⟩
    · rw [sel_and] at hh
      simp only [Bool.and_eq_true, decide_eq_true_eq] at hh
      obtain ⟨g1, g2⟩ := hh
      rw [wr (by omega) (by omega)] at g2
      have := hb2 (n - 1).toNat n.toNat (by omega) (by omega) (by omega)
      rw [List.getD_eq_getElem?_getD, List.getElem?_eq_getElem (by omega), List.getD_eq_getElem?_getD, List.getElem?_eq_getElem (by omega)] at g2
      simp only [Option.getD_some] at g2
      omega
    · refine ⟨⟨h1, hi⟩, ?_, ?_⟩
      · exact wr (by omega) (by omega)
      · show m.set n.toNat (m.getD n.toNat _) = m
        rw [List.getD_eq_getElem?_getD, List.getElem?_eq_getElem (by omega)]
        exact List.set_getElem_self _
    · rintro ⟨k, z, _⟩ _ ⟨k1, k2⟩
      simp only at k1 k2 ⊢
      subst k1 k2
      rw [wr (by omega) (by omega)]
      exact ⟨⟨(by trivial), by omega, by omega, (by trivial)⟩, by omega⟩
  · have hi := of_decide_eq_false hi
    refine ⟨⟨Int.le_refl _, h1, h2⟩, ?_⟩
    rw [take_all (by omega)]
    exact ⟨o1, hb⟩
theorem vc_vector_merge_ok (x : dens s_vector_merge.args) (hw : awf s_vector_merge.args x) (hp : s_vector_merge.pre x) : vc_vector_merge x := by
  obtain ⟨l, b, ⟨ok, φ⟩, _⟩ := x
  change List (Int × (Bool × List Int) × List Int) at l
  obtain ⟨hb, hl, he⟩ : b = [] ∧ l.length ≤ 100000 ∧ ∀ e ∈ l, ok (e.2, zr, ()) ∧ φ (e.2, zr, ()) = e.2 ∧ rsgn e.2 ≠ 0 := hp
  subst hb
  simp only [vc_vector_merge]
  refine ⟨⟨Int.le_refl _, by omega, by simp; omega, by simp; omega⟩, fun p => p.2.1 = [] ∧ p.2.2.1 ++ p.1 = l, fun p => p.1.length, ⟨rfl, rfl⟩, ?_⟩
  rintro ⟨c, b, out, _⟩ _ ⟨h1, h2⟩
  change List (Int × (Bool × List Int) × List Int) at c b out
  simp only at h1 h2 ⊢
  subst h1
  cases c with
  | nil =>
    rw [List.append_nil] at h2
    exact ⟨fun h => by simp [sel] at h, fun _ => h2⟩
  | cons e c =>
    obtain ⟨i, ⟨neg, mag⟩, den⟩ := e
    have hel := he (i, (neg, mag), den) (by rw [← h2]; simp)
    refine ⟨fun _ => ⟨fun p => p.1 = c ∧ p.2.1 = [] ∧ p.2.2.1 = i ∧ p.2.2.2.1 = neg ∧ p.2.2.2.2.1 = mag ∧ p.2.2.2.2.2.1 = den ∧ p.2.2.2.2.2.2.1 = false ∧ p.2.2.2.2.2.2.2.1 = [] ∧ p.2.2.2.2.2.2.2.2.1 = [], ⟨fun h => ?_, fun h => ?_, fun h => ⟨⟨by decide, by simp⟩, ⟨by decide, by simp⟩, ⟨by decide, by simp; omega, Int.le_refl _⟩, fun h => ?_, fun h => ?_, fun _ => ⟨?_, rfl, rfl, rfl, rfl, rfl, rfl, rfl, rfl⟩⟩, fun h => ?_⟩, ?_⟩, fun h => by simp [sel] at h⟩
    · simp at h
    · simp at h
    · simp at h
    · simp [sel] at h
    · show ((((i, (neg, mag), den) :: c).take (((i, (neg, mag), den) :: c).length : Int).toNat)).drop 1 = c
      rw [Int.toNat_natCast, List.take_length]; rfl
    · simp [sel] at h
    · rintro ⟨c', b', i', neg', mag', den', n2, m2, d2, _⟩ _ ⟨k1, k2, k3, k4, k5, k6, k7, k8, k9⟩
      simp only at k1 k2 k3 k4 k5 k6 k7 k8 k9 ⊢
      subst k1 k2 k3 k4 k5 k6 k7 k8 k9
      refine ⟨trivial, hel.1, fun _ => ⟨trivial, ?_⟩⟩
      have hφ : φ (((neg', mag'), den'), ((false, []), []), ()) = ((neg', mag'), den') := hel.2.1
      rintro ⟨r, _⟩ _ hr
      simp only at hr ⊢
      have hr : r = rsgn (φ (((neg', mag'), den'), ((false, []), []), ())) := hr
      rw [hφ] at hr ⊢
      refine ⟨fun _ => ⟨⟨?_, ?_⟩, ⟨trivial, ?_⟩, by simp⟩, fun h => absurd (hr ▸ of_decide_eq_false h) ?_⟩
      · have := congrArg List.length h2
        simp at this ⊢; omega
      · have := congrArg List.length h2
        simp at this ⊢; omega
      · rw [← h2]; simp
      · have := hel.2.2
        simpa using this
theorem vc_vector_Norm_1_ok (x : dens s_vector_Norm_1.args) (hw : awf s_vector_Norm_1.args x) (hp : s_vector_Norm_1.pre x) : vc_vector_Norm_1 x := by
  simp only [vc_vector_Norm_1]
  exact ⟨hp, fun r _ h => h⟩
theorem ri_pm_small {x : RatV} (h : x = ri 1 ∨ x = ri (-1)) : smallR x ∧ rc (rv x) = x ∧ rsgn x ≠ 0 := by
  have key : ∀ k : Int, k.natAbs = 1 → smallR (ri k) ∧ rc (rv (ri k)) = ri k ∧ rsgn (ri k) ≠ 0 := fun k hk => by
    refine ⟨⟨?_, ?_⟩, ?_, ?_⟩
    · show nv (ic k).2 < _; rw [nv_ic, hk]; decide
    · rw [ri_one]; decide
    · rw [rv_ri, rc_int]
    · rw [rsgn_ri]; intro h; rw [Int.sign_eq_zero_iff_zero] at h; omega
  rcases h with rfl | rfl <;> exact key _ rfl
theorem vc_vector_Norm_ok (x : dens s_vector_Norm.args) (hw : awf s_vector_Norm.args x) (hp : s_vector_Norm.pre x) : vc_vector_Norm x := by
  obtain ⟨l, _⟩ := x
  change List (Int × (Bool × List Int) × List Int) at l
  obtain ⟨hl, hn, he⟩ : l.length ≤ 20 ∧ (l.map fun e : Int × (Bool × List Int) × List Int => e.1).Nodup ∧ ∀ e ∈ l, e.2 = ri 1 ∨ e.2 = ri (-1) := hp
  simp only [vc_vector_Norm]
  refine ⟨⟨hl, hn⟩, ?_⟩
  rintro ⟨r, _⟩ _ ⟨r1, r2⟩
  simp only at r1 r2 ⊢
  have hrl := r1.length_eq
  refine ⟨fun y => smallR y.1, fun y => rc (rv y.1), ?_, ⟨(by trivial), by omega, fun e h => ?_⟩, ?_⟩
  · rintro ⟨a, b, _⟩ _ ha
    refine ⟨ha, ?_⟩
    rintro ⟨z, _⟩ _ hz
    exact ⟨(by trivial), hz⟩
  · exact ri_pm_small (he e (r1.mem_iff.1 h))
  · rintro ⟨z, _⟩ _ hz
    simp only at hz ⊢
    subst hz
    exact ⟨r1, r2⟩
end Go.Proofs.YtppgpdigopffbaaGreat
namespace Go.Proofs.YtppgpdigopffbaaGreat
open Go.Vc Go.Gw
def an_r01_Trim : An := { loop := [(2, ⟨[0], [], [(3, false, [.val (.int .i64)])], [], []⟩)] }
def sp_r01_Trim : Specs := []
def an_r01_Equal : An := { loop := [(4, ⟨[0, 1], [], [(5, false, [.val (.int .i64)])], [], []⟩)], plan := [(6, [3, 7], [], true, (.p 0 (.p 1 (.p 2 (.q 3 (.p 4 (.p 5 (.p 6 (.q 7 (.p 8 .done))))))))))] }
def sp_r01_Equal : Specs := []
def an_r01_FromUint64 : An := {}
def sp_r01_FromUint64 : Specs := [(99, s_r01_Trim)]
def an_r01_Add : An := { join := [(8, ⟨[0, 1, 5, 7], [0], [(6, false, [.val (.int .u64)])], [], []⟩), (10, ⟨[0, 1, 5, 7], [0], [(6, false, [.val (.int .u64)])], [], []⟩)], loop := [(4, ⟨[0, 1, 5], [], [(6, false, [.val (.int .u64)]), (7, false, [.val (.int .i64)])], [], [(0, .row (.int .u32) 87)]⟩)] }
def sp_r01_Add : Specs := [(99, s_r01_Trim)]
def an_r01_Sub : An := { join := [(12, ⟨[0, 1, 6, 8], [0], [(9, false, [.val (.int .u64)])], [], []⟩), (17, ⟨[0, 1, 6, 8, 9], [0], [(7, false, [.val (.int .u64)]), (10, false, [.val (.int .u64)])], [], []⟩)], loop := [(7, ⟨[0, 1, 6], [], [(7, false, [.val (.int .u64)]), (8, false, [.val (.int .i64)])], [], [(0, .row (.int .u32) 87)]⟩)] }
def sp_r01_Sub : Specs := [(99, s_r01_Trim), (100, s_r01_Compare)]
def an_r01_Compare : An := { loop := [(7, ⟨[0, 1], [], [(5, false, [.val (.int .i64)])], [], []⟩)], plan := [(9, [3, 7], [], true, (.p 0 (.p 1 (.p 2 (.q 3 (.p 4 (.p 5 (.p 6 (.q 7 (.p 8 .done)))))))))), (11, [3, 7], [], true, (.p 0 (.p 1 (.p 2 (.q 3 (.p 4 (.p 5 (.p 6 (.q 7 (.p 8 .done))))))))))] }
def sp_r01_Compare : Specs := [(99, s_r01_Trim)]
def an_r01_Mul : An := { loop := [(7, ⟨[0, 1, 5, 6], [], [(7, false, [.val (.int .u64)]), (8, false, [.val (.int .i64)])], [], [(0, .row (.int .u32) 87)]⟩), (3, ⟨[0, 1, 5], [], [(6, false, [.val (.int .i64)])], [], [(0, .row (.int .u32) 87)]⟩)], plan := [(9, [6, 11, 16], [], true, (.p 0 (.p 1 (.p 2 (.p 3 (.p 4 (.p 5 (.q 6 (.p 7 (.p 8 (.p 9 (.p 10 (.q 11 (.p 12 (.p 13 (.p 14 (.p 15 (.q 16 (.p 17 (.p 18 (.p 19 (.p 20 (.p 21 .done)))))))))))))))))))))))] }
def sp_r01_Mul : Specs := [(99, s_r01_Trim)]
def vc_r01_Trim : dens s_r01_Trim.args → Prop := fun (x : List Int × Unit) => ∃ (I : Int × Unit → Prop), ∃ (μ : Int × Unit → Nat), I ((↑(List.length x.fst) : Int), ()) ∧ ∀ (p : Int × Unit), In64 p.fst ∧ True → I p → (decide ((0 : Int) < p.fst) = true → (0 : Int) ≤ IntKind.i64.wrap (p.fst - (1 : Int)) ∧ IntKind.i64.wrap (p.fst - (1 : Int)) < (↑(List.length x.fst) : Int)) ∧ (sel (decide ((0 : Int) < p.fst)) (decide (gx (0 : Int) x.fst (IntKind.i64.wrap (p.fst - (1 : Int))) = (0 : Int))) false = true → I (IntKind.i64.wrap (p.fst - (1 : Int)), ()) ∧ μ (IntKind.i64.wrap (p.fst - (1 : Int)), ()) < μ p) ∧ (sel (decide ((0 : Int) < p.fst)) (decide (gx (0 : Int) x.fst (IntKind.i64.wrap (p.fst - (1 : Int))) = (0 : Int))) false = false → ((0 : Int) ≤ (0 : Int) ∧ (0 : Int) ≤ p.fst ∧ p.fst ≤ (↑(List.length x.fst) : Int)) ∧ (((0 : Nat) + (List.drop (Int.toNat (0 : Int)) (List.take (Int.toNat p.fst) x.fst)).length) * (4 : Nat) ≤ (140737488355328 : Nat) ∧ (0 : Nat) + (List.drop (Int.toNat (0 : Int)) (List.take (Int.toNat p.fst) x.fst)).length ≤ 9223372036854775807) ∧ List.drop (Int.toNat (0 : Int)) (List.take (Int.toNat p.fst) x.fst) = nc (nv x.fst))
theorem vc_r01_Trim_eq (x : dens s_r01_Trim.args) : semF ⟨Tryz.prog, tys⟩ sp_r01_Trim an_r01_Trim s_r01_Trim Tryz.f99.results.toList (Tryz.f99.body.getD .skip) x = vc_r01_Trim x := by kernel_rfl
theorem m_r01_Trim (hsp : SpOk Tryz.prog sp_r01_Trim) (h : ∀ x, awf s_r01_Trim.args x → s_r01_Trim.pre x → vc_r01_Trim x) : Meets Tryz.prog 99 s_r01_Trim := meets_vc (cx := ⟨Tryz.prog, tys⟩) (sp := sp_r01_Trim) (an := an_r01_Trim) (s := s_r01_Trim) (fn := Tryz.f99) (c := Tryz.f99.body.getD .skip) Tryz.func99 (by kernel_rfl) (Nat.le_of_ble_eq_true (by kernel_rfl)) (by kernel_rfl) tys_ok hsp vc_r01_Trim_eq h
def vc_r01_Equal : dens s_r01_Equal.args → Prop := fun (x : List Int × List Int × Unit) => (decide ((↑(List.length x.fst) : Int) ≠ (↑(List.length x.snd.fst) : Int)) = true → false = decide (x.fst = x.snd.fst)) ∧ (decide ((↑(List.length x.fst) : Int) ≠ (↑(List.length x.snd.fst) : Int)) = false → ∃ (I : Int × Unit → Prop), ∃ (μ : Int × Unit → Nat), I ((0 : Int), ()) ∧ ∀ (p : Int × Unit), In64 p.fst ∧ True → I p → (decide (p.fst < (↑(List.length x.fst) : Int)) = true → ((0 : Int) ≤ p.fst ∧ p.fst < (↑(List.length x.fst) : Int)) ∧ ((0 : Int) ≤ p.fst ∧ p.fst < (↑(List.length x.snd.fst) : Int)) ∧ (decide (gx (0 : Int) x.fst p.fst ≠ gx (0 : Int) x.snd.fst p.fst) = true → false = decide (x.fst = x.snd.fst)) ∧ (decide (gx (0 : Int) x.fst p.fst ≠ gx (0 : Int) x.snd.fst p.fst) = false → I (IntKind.i64.wrap (p.fst + (1 : Int)), ()) ∧ μ (IntKind.i64.wrap (p.fst + (1 : Int)), ()) < μ p)) ∧ (decide (p.fst < (↑(List.length x.fst) : Int)) = false → true = decide (x.fst = x.snd.fst)))
theorem vc_r01_Equal_eq (x : dens s_r01_Equal.args) : semF ⟨Tryz.prog, tys⟩ sp_r01_Equal an_r01_Equal s_r01_Equal Tryz.f45.results.toList (Tryz.f45.body.getD .skip) x = vc_r01_Equal x := by kernel_rfl
theorem m_r01_Equal (hsp : SpOk Tryz.prog sp_r01_Equal) (h : ∀ x, awf s_r01_Equal.args x → s_r01_Equal.pre x → vc_r01_Equal x) : Meets Tryz.prog 45 s_r01_Equal := meets_vc (cx := ⟨Tryz.prog, tys⟩) (sp := sp_r01_Equal) (an := an_r01_Equal) (s := s_r01_Equal) (fn := Tryz.f45) (c := Tryz.f45.body.getD .skip) Tryz.func45 (by kernel_rfl) (Nat.le_of_ble_eq_true (by kernel_rfl)) (by kernel_rfl) tys_ok hsp vc_r01_Equal_eq h
def vc_r01_FromUint64 : dens s_r01_FromUint64.args → Prop := fun (x : Int × Unit) => (0 : (Ty.int IntKind.u64).den) ≤ (32 : Int) ∧ [IntKind.u32.wrap x.fst, IntKind.u32.wrap (Int.fdiv x.fst ((2 : Int) ^ Min.min (Int.toNat (32 : Int)) IntKind.u64.bits))].length ≤ (4000000000 : Nat) ∧ ∀ (r : List Int × Unit), WfU r.fst ∧ True → r.fst = nc (nv [IntKind.u32.wrap x.fst, IntKind.u32.wrap (Int.fdiv x.fst ((2 : Int) ^ Min.min (Int.toNat (32 : Int)) IntKind.u64.bits))]) → r.fst = nc x.fst.toNat
theorem vc_r01_FromUint64_eq (x : dens s_r01_FromUint64.args) : semF ⟨Tryz.prog, tys⟩ sp_r01_FromUint64 an_r01_FromUint64 s_r01_FromUint64 Tryz.f75.results.toList (Tryz.f75.body.getD .skip) x = vc_r01_FromUint64 x := by kernel_rfl
theorem m_r01_FromUint64 (hsp : SpOk Tryz.prog sp_r01_FromUint64) (h : ∀ x, awf s_r01_FromUint64.args x → s_r01_FromUint64.pre x → vc_r01_FromUint64 x) : Meets Tryz.prog 75 s_r01_FromUint64 := meets_vc (cx := ⟨Tryz.prog, tys⟩) (sp := sp_r01_FromUint64) (an := an_r01_FromUint64) (s := s_r01_FromUint64) (fn := Tryz.f75) (c := Tryz.f75.body.getD .skip) Tryz.func75 (by kernel_rfl) (Nat.le_of_ble_eq_true (by kernel_rfl)) (by kernel_rfl) tys_ok hsp vc_r01_FromUint64_eq h
def vc_r01_Add : dens s_r01_Add.args → Prop := fun (x : List Int × List Int × Unit) => ((0 : Int) ≤ IntKind.i64.wrap (Max.max (↑(List.length x.fst) : Int) (↑(List.length x.snd.fst) : Int) + (1 : Int)) ∧ IntKind.i64.wrap (Max.max (↑(List.length x.fst) : Int) (↑(List.length x.snd.fst) : Int) + (1 : Int)) ≤ IntKind.i64.wrap (Max.max (↑(List.length x.fst) : Int) (↑(List.length x.snd.fst) : Int) + (1 : Int)) ∧ (↑(4 : Nat) : Int) * IntKind.i64.wrap (Max.max (↑(List.length x.fst) : Int) (↑(List.length x.snd.fst) : Int) + (1 : Int)) ≤ (281474976710656 : Int) ∧ IntKind.i64.wrap (Max.max (↑(List.length x.fst) : Int) (↑(List.length x.snd.fst) : Int) + (1 : Int)) ≤ (9223372036854775807 : Int)) ∧ ∃ (I : Int × Int × List Int × Unit → Prop), ∃ (μ : Int × Int × List Int × Unit → Nat), I ((0 : Int), (0 : Int), List.replicate (IntKind.i64.wrap (Max.max (↑(List.length x.fst) : Int) (↑(List.length x.snd.fst) : Int) + (1 : Int))).toNat (0 : Int), ()) ∧ ∀ (p : Int × Int × List Int × Unit), InU64 p.fst ∧ In64 p.snd.fst ∧ WfU p.snd.snd.fst ∧ True → I p → (decide (p.snd.fst < (↑(List.length p.snd.snd.fst) : Int)) = true → ∃ (J : Int × Unit → Prop), ((decide (p.snd.fst < (↑(List.length x.fst) : Int)) = true → ((0 : Int) ≤ p.snd.fst ∧ p.snd.fst < (↑(List.length x.fst) : Int)) ∧ J (IntKind.u64.wrap (p.fst + IntKind.u64.wrap (gx (0 : Int) x.fst p.snd.fst)), ())) ∧ (decide (p.snd.fst < (↑(List.length x.fst) : Int)) = false → J (p.fst, ()))) ∧ ∀ (p_1 : Int × Unit), InU64 p_1.fst ∧ True → J p_1 → ∃ (J : Int × Unit → Prop), ((decide (p.snd.fst < (↑(List.length x.snd.fst) : Int)) = true → ((0 : Int) ≤ p.snd.fst ∧ p.snd.fst < (↑(List.length x.snd.fst) : Int)) ∧ J (IntKind.u64.wrap (p_1.fst + IntKind.u64.wrap (gx (0 : Int) x.snd.fst p.snd.fst)), ())) ∧ (decide (p.snd.fst < (↑(List.length x.snd.fst) : Int)) = false → J p_1)) ∧ ∀ (p_2 : Int × Unit), InU64 p_2.fst ∧ True → J p_2 → ((0 : Int) ≤ p.snd.fst ∧ p.snd.fst < (↑(List.length p.snd.snd.fst) : Int)) ∧ (0 : (Ty.int IntKind.u64).den) ≤ (32 : Int) ∧ I (Int.fdiv p_2.fst ((2 : Int) ^ Min.min (Int.toNat (32 : Int)) IntKind.u64.bits), IntKind.i64.wrap (p.snd.fst + (1 : Int)), List.set p.snd.snd.fst (Int.toNat p.snd.fst) (IntKind.u32.wrap p_2.fst), ()) ∧ μ (Int.fdiv p_2.fst ((2 : Int) ^ Min.min (Int.toNat (32 : Int)) IntKind.u64.bits), IntKind.i64.wrap (p.snd.fst + (1 : Int)), List.set p.snd.snd.fst (Int.toNat p.snd.fst) (IntKind.u32.wrap p_2.fst), ()) < μ p) ∧ (decide (p.snd.fst < (↑(List.length p.snd.snd.fst) : Int)) = false → List.length p.snd.snd.fst ≤ (4000000000 : Nat) ∧ ∀ (r : List Int × Unit), WfU r.fst ∧ True → r.fst = nc (nv p.snd.snd.fst) → r.fst = nc (nv x.fst + nv x.snd.fst))
theorem vc_r01_Add_eq (x : dens s_r01_Add.args) : semF ⟨Tryz.prog, tys⟩ sp_r01_Add an_r01_Add s_r01_Add Tryz.f76.results.toList (Tryz.f76.body.getD .skip) x = vc_r01_Add x := by kernel_rfl
theorem m_r01_Add (hsp : SpOk Tryz.prog sp_r01_Add) (h : ∀ x, awf s_r01_Add.args x → s_r01_Add.pre x → vc_r01_Add x) : Meets Tryz.prog 76 s_r01_Add := meets_vc (cx := ⟨Tryz.prog, tys⟩) (sp := sp_r01_Add) (an := an_r01_Add) (s := s_r01_Add) (fn := Tryz.f76) (c := Tryz.f76.body.getD .skip) Tryz.func76 (by kernel_rfl) (Nat.le_of_ble_eq_true (by kernel_rfl)) (by kernel_rfl) tys_ok hsp vc_r01_Add_eq h
def vc_r01_Sub : dens s_r01_Sub.args → Prop := fun (x : List Int × List Int × Unit) => (sh1 x.fst ∧ sh1 x.snd.fst) ∧ ∀ (r : Int × Unit), In64 r.fst ∧ True → r.fst = ncmp (nv x.fst) (nv x.snd.fst) → (decide (r.fst < (0 : Int)) = true → (nv x.fst < nv x.snd.fst → nilL Int = [] ∧ false = false) ∧ (nv x.snd.fst ≤ nv x.fst → nilL Int = nc (nv x.fst - nv x.snd.fst) ∧ false = true)) ∧ (decide (r.fst < (0 : Int)) = false → List.length x.fst ≤ (4000000000 : Nat) ∧ ∀ (r : List Int × Unit), WfU r.fst ∧ True → r.fst = nc (nv x.fst) → List.length x.snd.fst ≤ (4000000000 : Nat) ∧ ∀ (r_1 : List Int × Unit), WfU r_1.fst ∧ True → r_1.fst = nc (nv x.snd.fst) → ((0 : Int) ≤ (↑(List.length r.fst) : Int) ∧ (↑(List.length r.fst) : Int) ≤ (↑(List.length r.fst) : Int) ∧ (↑(4 : Nat) : Int) * (↑(List.length r.fst) : Int) ≤ (281474976710656 : Int) ∧ (↑(List.length r.fst) : Int) ≤ (9223372036854775807 : Int)) ∧ ∃ (I : Int × Int × List Int × Unit → Prop), ∃ (μ : Int × Int × List Int × Unit → Nat), I ((0 : Int), (0 : Int), List.replicate (↑(List.length r.fst) : Int).toNat (0 : Int), ()) ∧ ∀ (p : Int × Int × List Int × Unit), InU64 p.fst ∧ In64 p.snd.fst ∧ WfU p.snd.snd.fst ∧ True → I p → (decide (p.snd.fst < (↑(List.length r.fst) : Int)) = true → ∃ (J : Int × Unit → Prop), ((decide (p.snd.fst < (↑(List.length r_1.fst) : Int)) = true → ((0 : Int) ≤ p.snd.fst ∧ p.snd.fst < (↑(List.length r_1.fst) : Int)) ∧ J (IntKind.u64.wrap (p.fst + IntKind.u64.wrap (gx (0 : Int) r_1.fst p.snd.fst)), ())) ∧ (decide (p.snd.fst < (↑(List.length r_1.fst) : Int)) = false → J (p.fst, ()))) ∧ ∀ (p_1 : Int × Unit), InU64 p_1.fst ∧ True → J p_1 → ((0 : Int) ≤ p.snd.fst ∧ p.snd.fst < (↑(List.length r.fst) : Int)) ∧ ∃ (J : Int × Int × Unit → Prop), ((decide (IntKind.u64.wrap (gx (0 : Int) r.fst p.snd.fst) < p_1.fst) = true → J ((1 : Int), IntKind.u64.wrap (IntKind.u64.wrap (gx (0 : Int) r.fst p.snd.fst) + (4294967296 : Int)), ())) ∧ (decide (IntKind.u64.wrap (gx (0 : Int) r.fst p.snd.fst) < p_1.fst) = false → J ((0 : Int), IntKind.u64.wrap (gx (0 : Int) r.fst p.snd.fst), ()))) ∧ ∀ (p_2 : Int × Int × Unit), InU64 p_2.fst ∧ InU64 p_2.snd.fst ∧ True → J p_2 → ((0 : Int) ≤ p.snd.fst ∧ p.snd.fst < (↑(List.length p.snd.snd.fst) : Int)) ∧ I (p_2.fst, IntKind.i64.wrap (p.snd.fst + (1 : Int)), List.set p.snd.snd.fst (Int.toNat p.snd.fst) (IntKind.u32.wrap (IntKind.u64.wrap (p_2.snd.fst - p_1.fst))), ()) ∧ μ (p_2.fst, IntKind.i64.wrap (p.snd.fst + (1 : Int)), List.set p.snd.snd.fst (Int.toNat p.snd.fst) (IntKind.u32.wrap (IntKind.u64.wrap (p_2.snd.fst - p_1.fst))), ()) < μ p) ∧ (decide (p.snd.fst < (↑(List.length r.fst) : Int)) = false → List.length p.snd.snd.fst ≤ (4000000000 : Nat) ∧ ∀ (r : List Int × Unit), WfU r.fst ∧ True → r.fst = nc (nv p.snd.snd.fst) → (nv x.fst < nv x.snd.fst → r.fst = [] ∧ true = false) ∧ (nv x.snd.fst ≤ nv x.fst → r.fst = nc (nv x.fst - nv x.snd.fst) ∧ true = true)))
theorem vc_r01_Sub_eq (x : dens s_r01_Sub.args) : semF ⟨Tryz.prog, tys⟩ sp_r01_Sub an_r01_Sub s_r01_Sub Tryz.f77.results.toList (Tryz.f77.body.getD .skip) x = vc_r01_Sub x := by kernel_rfl
theorem m_r01_Sub (hsp : SpOk Tryz.prog sp_r01_Sub) (h : ∀ x, awf s_r01_Sub.args x → s_r01_Sub.pre x → vc_r01_Sub x) : Meets Tryz.prog 77 s_r01_Sub := meets_vc (cx := ⟨Tryz.prog, tys⟩) (sp := sp_r01_Sub) (an := an_r01_Sub) (s := s_r01_Sub) (fn := Tryz.f77) (c := Tryz.f77.body.getD .skip) Tryz.func77 (by kernel_rfl) (Nat.le_of_ble_eq_true (by kernel_rfl)) (by kernel_rfl) tys_ok hsp vc_r01_Sub_eq h
def vc_r01_Compare : dens s_r01_Compare.args → Prop := fun (x : List Int × List Int × Unit) => List.length x.fst ≤ (4000000000 : Nat) ∧ ∀ (r : List Int × Unit), WfU r.fst ∧ True → r.fst = nc (nv x.fst) → List.length x.snd.fst ≤ (4000000000 : Nat) ∧ ∀ (r_1 : List Int × Unit), WfU r_1.fst ∧ True → r_1.fst = nc (nv x.snd.fst) → (decide ((↑(List.length r.fst) : Int) ≠ (↑(List.length r_1.fst) : Int)) = true → (decide ((↑(List.length r.fst) : Int) < (↑(List.length r_1.fst) : Int)) = true → (-1 : Int) = ncmp (nv x.fst) (nv x.snd.fst)) ∧ (decide ((↑(List.length r.fst) : Int) < (↑(List.length r_1.fst) : Int)) = false → (1 : Int) = ncmp (nv x.fst) (nv x.snd.fst))) ∧ (decide ((↑(List.length r.fst) : Int) ≠ (↑(List.length r_1.fst) : Int)) = false → ∃ (I : Int × Unit → Prop), ∃ (μ : Int × Unit → Nat), I (IntKind.i64.wrap ((↑(List.length r.fst) : Int) - (1 : Int)), ()) ∧ ∀ (p : Int × Unit), In64 p.fst ∧ True → I p → (decide ((0 : Int) ≤ p.fst) = true → ((0 : Int) ≤ p.fst ∧ p.fst < (↑(List.length r.fst) : Int)) ∧ ((0 : Int) ≤ p.fst ∧ p.fst < (↑(List.length r_1.fst) : Int)) ∧ (decide (gx (0 : Int) r.fst p.fst < gx (0 : Int) r_1.fst p.fst) = true → (-1 : Int) = ncmp (nv x.fst) (nv x.snd.fst)) ∧ (decide (gx (0 : Int) r.fst p.fst < gx (0 : Int) r_1.fst p.fst) = false → ((0 : Int) ≤ p.fst ∧ p.fst < (↑(List.length r.fst) : Int)) ∧ ((0 : Int) ≤ p.fst ∧ p.fst < (↑(List.length r_1.fst) : Int)) ∧ (decide (gx (0 : Int) r_1.fst p.fst < gx (0 : Int) r.fst p.fst) = true → (1 : Int) = ncmp (nv x.fst) (nv x.snd.fst)) ∧ (decide (gx (0 : Int) r_1.fst p.fst < gx (0 : Int) r.fst p.fst) = false → I (IntKind.i64.wrap (p.fst - (1 : Int)), ()) ∧ μ (IntKind.i64.wrap (p.fst - (1 : Int)), ()) < μ p))) ∧ (decide ((0 : Int) ≤ p.fst) = false → (0 : Int) = ncmp (nv x.fst) (nv x.snd.fst)))
theorem vc_r01_Compare_eq (x : dens s_r01_Compare.args) : semF ⟨Tryz.prog, tys⟩ sp_r01_Compare an_r01_Compare s_r01_Compare Tryz.f100.results.toList (Tryz.f100.body.getD .skip) x = vc_r01_Compare x := by kernel_rfl
theorem m_r01_Compare (hsp : SpOk Tryz.prog sp_r01_Compare) (h : ∀ x, awf s_r01_Compare.args x → s_r01_Compare.pre x → vc_r01_Compare x) : Meets Tryz.prog 100 s_r01_Compare := meets_vc (cx := ⟨Tryz.prog, tys⟩) (sp := sp_r01_Compare) (an := an_r01_Compare) (s := s_r01_Compare) (fn := Tryz.f100) (c := Tryz.f100.body.getD .skip) Tryz.func100 (by kernel_rfl) (Nat.le_of_ble_eq_true (by kernel_rfl)) (by kernel_rfl) tys_ok hsp vc_r01_Compare_eq h
def vc_r01_Mul : dens s_r01_Mul.args → Prop := fun (x : List Int × List Int × Unit) => ((0 : Int) ≤ IntKind.i64.wrap ((↑(List.length x.fst) : Int) + (↑(List.length x.snd.fst) : Int)) ∧ IntKind.i64.wrap ((↑(List.length x.fst) : Int) + (↑(List.length x.snd.fst) : Int)) ≤ IntKind.i64.wrap ((↑(List.length x.fst) : Int) + (↑(List.length x.snd.fst) : Int)) ∧ (↑(4 : Nat) : Int) * IntKind.i64.wrap ((↑(List.length x.fst) : Int) + (↑(List.length x.snd.fst) : Int)) ≤ (281474976710656 : Int) ∧ IntKind.i64.wrap ((↑(List.length x.fst) : Int) + (↑(List.length x.snd.fst) : Int)) ≤ (9223372036854775807 : Int)) ∧ ∃ (I : Int × List Int × Unit → Prop), ∃ (μ : Int × List Int × Unit → Nat), I ((0 : Int), List.replicate (IntKind.i64.wrap ((↑(List.length x.fst) : Int) + (↑(List.length x.snd.fst) : Int))).toNat (0 : Int), ()) ∧ ∀ (p : Int × List Int × Unit), In64 p.fst ∧ WfU p.snd.fst ∧ True → I p → (decide (p.fst < (↑(List.length x.fst) : Int)) = true → ∃ (I_1 : Int × Int × List Int × Unit → Prop), ∃ (μ_1 : Int × Int × List Int × Unit → Nat), I_1 ((0 : Int), (0 : Int), p.snd.fst, ()) ∧ ∀ (p_1 : Int × Int × List Int × Unit), InU64 p_1.fst ∧ In64 p_1.snd.fst ∧ WfU p_1.snd.snd.fst ∧ True → I_1 p_1 → (decide (p_1.snd.fst < (↑(List.length x.snd.fst) : Int)) = true → ((0 : Int) ≤ IntKind.i64.wrap (p.fst + p_1.snd.fst) ∧ IntKind.i64.wrap (p.fst + p_1.snd.fst) < (↑(List.length p_1.snd.snd.fst) : Int)) ∧ ((0 : Int) ≤ p.fst ∧ p.fst < (↑(List.length x.fst) : Int)) ∧ ((0 : Int) ≤ p_1.snd.fst ∧ p_1.snd.fst < (↑(List.length x.snd.fst) : Int)) ∧ ((0 : Int) ≤ IntKind.i64.wrap (p.fst + p_1.snd.fst) ∧ IntKind.i64.wrap (p.fst + p_1.snd.fst) < (↑(List.length p_1.snd.snd.fst) : Int)) ∧ (0 : (Ty.int IntKind.u64).den) ≤ (32 : Int) ∧ I_1 ((IntKind.u64.wrap (p_1.fst + IntKind.u64.wrap (IntKind.u64.wrap (List.getD p_1.snd.snd.fst (IntKind.i64.wrap (p.fst + p_1.snd.fst)).toNat (0 : Int)) + IntKind.u64.wrap (IntKind.u64.wrap (gx (0 : Int) x.fst p.fst) * IntKind.u64.wrap (gx (0 : Int) x.snd.fst p_1.snd.fst))))).fdiv ((2 : Int) ^ Min.min (Int.toNat (32 : Int)) IntKind.u64.bits), IntKind.i64.wrap (p_1.snd.fst + (1 : Int)), List.set p_1.snd.snd.fst (IntKind.i64.wrap (p.fst + p_1.snd.fst)).toNat (IntKind.u32.wrap (IntKind.u64.wrap (p_1.fst + IntKind.u64.wrap (IntKind.u64.wrap (List.getD p_1.snd.snd.fst (IntKind.i64.wrap (p.fst + p_1.snd.fst)).toNat (0 : Int)) + IntKind.u64.wrap (IntKind.u64.wrap (gx (0 : Int) x.fst p.fst) * IntKind.u64.wrap (gx (0 : Int) x.snd.fst p_1.snd.fst)))))), ()) ∧ μ_1 ((IntKind.u64.wrap (p_1.fst + IntKind.u64.wrap (IntKind.u64.wrap (List.getD p_1.snd.snd.fst (IntKind.i64.wrap (p.fst + p_1.snd.fst)).toNat (0 : Int)) + IntKind.u64.wrap (IntKind.u64.wrap (gx (0 : Int) x.fst p.fst) * IntKind.u64.wrap (gx (0 : Int) x.snd.fst p_1.snd.fst))))).fdiv ((2 : Int) ^ Min.min (Int.toNat (32 : Int)) IntKind.u64.bits), IntKind.i64.wrap (p_1.snd.fst + (1 : Int)), List.set p_1.snd.snd.fst (IntKind.i64.wrap (p.fst + p_1.snd.fst)).toNat (IntKind.u32.wrap (IntKind.u64.wrap (p_1.fst + IntKind.u64.wrap (IntKind.u64.wrap (List.getD p_1.snd.snd.fst (IntKind.i64.wrap (p.fst + p_1.snd.fst)).toNat (0 : Int)) + IntKind.u64.wrap (IntKind.u64.wrap (gx (0 : Int) x.fst p.fst) * IntKind.u64.wrap (gx (0 : Int) x.snd.fst p_1.snd.fst)))))), ()) < μ_1 p_1) ∧ (decide (p_1.snd.fst < (↑(List.length x.snd.fst) : Int)) = false → ((0 : Int) ≤ IntKind.i64.wrap (p.fst + (↑(List.length x.snd.fst) : Int)) ∧ IntKind.i64.wrap (p.fst + (↑(List.length x.snd.fst) : Int)) < (↑(List.length p_1.snd.snd.fst) : Int)) ∧ I (IntKind.i64.wrap (p.fst + (1 : Int)), List.set p_1.snd.snd.fst (IntKind.i64.wrap (p.fst + (↑(List.length x.snd.fst) : Int))).toNat (IntKind.u32.wrap p_1.fst), ()) ∧ μ (IntKind.i64.wrap (p.fst + (1 : Int)), List.set p_1.snd.snd.fst (IntKind.i64.wrap (p.fst + (↑(List.length x.snd.fst) : Int))).toNat (IntKind.u32.wrap p_1.fst), ()) < μ p)) ∧ (decide (p.fst < (↑(List.length x.fst) : Int)) = false → List.length p.snd.fst ≤ (4000000000 : Nat) ∧ ∀ (r : List Int × Unit), WfU r.fst ∧ True → r.fst = nc (nv p.snd.fst) → r.fst = nc (nv x.fst * nv x.snd.fst))
theorem vc_r01_Mul_eq (x : dens s_r01_Mul.args) : semF ⟨Tryz.prog, tys⟩ sp_r01_Mul an_r01_Mul s_r01_Mul Tryz.f78.results.toList (Tryz.f78.body.getD .skip) x = vc_r01_Mul x := by kernel_rfl
theorem m_r01_Mul (hsp : SpOk Tryz.prog sp_r01_Mul) (h : ∀ x, awf s_r01_Mul.args x → s_r01_Mul.pre x → vc_r01_Mul x) : Meets Tryz.prog 78 s_r01_Mul := meets_vc (cx := ⟨Tryz.prog, tys⟩) (sp := sp_r01_Mul) (an := an_r01_Mul) (s := s_r01_Mul) (fn := Tryz.f78) (c := Tryz.f78.body.getD .skip) Tryz.func78 (by kernel_rfl) (Nat.le_of_ble_eq_true (by kernel_rfl)) (by kernel_rfl) tys_ok hsp vc_r01_Mul_eq h
end Go.Proofs.YtppgpdigopffbaaGreat
namespace Go.Proofs.YtppgpdigopffbaaGreat
open Go.Vc Go.Gw
theorem vc_r01_Trim_ok (x : dens s_r01_Trim.args) (hw : awf s_r01_Trim.args x) (hp : s_r01_Trim.pre x) : vc_r01_Trim x := by
  obtain ⟨l, _⟩ := x
  have hl : l.length ≤ 4000000000 := hp
  have hb : limbs l := limbs_of hw.1.2
  change List Int at l
  simp only [vc_r01_Trim]
  refine ⟨fun p => 0 ≤ p.1 ∧ p.1 ≤ (l.length : Int) ∧ ∀ i x, p.1.toNat ≤ i → l[i]? = some x → x = 0, fun p => p.1.toNat, ⟨Int.natCast_nonneg _, Int.le_refl _, fun i x hi hx => ?_⟩, ?_⟩
  · rw [List.getElem?_eq_none (by simpa using hi)] at hx; cases hx
  rintro ⟨n, _⟩ _ ⟨h0, h1, h2⟩
  change Int at n
  simp only at h0 h1 h2 ⊢
  refine ⟨fun h => ?_, fun h => ?_, fun h => ?_⟩
  · have h := of_decide_eq_true h
    rw [wr (by omega) (by omega)]
    exact ⟨by omega, by omega⟩
  · rw [sel_and] at h
    simp only [Bool.and_eq_true, decide_eq_true_eq] at h
    obtain ⟨h3, h4⟩ := h
    rw [wr (by omega) (by omega)] at h4 ⊢
    refine ⟨⟨by omega, by omega, fun i x hi hx => ?_⟩, by omega⟩
    by_cases he : i = (n - 1).toNat
    · subst he
      rw [gx_get (d := (0 : Int)) (by omega) (by omega)] at hx
      cases hx; exact h4
    · exact h2 i x (by omega) hx
  · refine ⟨⟨Int.le_refl _, h0, h1⟩, ?_⟩
    have e : (l.take n.toNat).drop (Int.toNat 0) = l.take n.toNat := rfl
    rw [e]
    have hlen : (l.take n.toNat).length ≤ l.length := by rw [List.length_take]; omega
    refine ⟨⟨by omega, by omega⟩, nc_take hb (by omega) h2 ?_⟩
    rw [sel_and] at h
    simp only [Bool.and_eq_false_iff, decide_eq_false_iff_not] at h
    rcases h with h | h
    · exact .inl (by omega)
    · by_cases hn : n = 0
      · exact .inl (by omega)
      · rw [wr (by omega) (by omega)] at h
        refine .inr ⟨gx 0 l (n - 1), ?_, h⟩
        have := gx_get (d := (0 : Int)) (l := l) (i := n - 1) (by omega) (by omega)
        rw [← this]; congr 1; omega
theorem vc_r01_Equal_ok (x : dens s_r01_Equal.args) (hw : awf s_r01_Equal.args x) (_ : s_r01_Equal.pre x) : vc_r01_Equal x := by
  obtain ⟨a, b, _⟩ := x
  have hl : a.length ≤ 9223372036854775807 := hw.1.1
  change List Int at a b
  simp only [vc_r01_Equal]
  refine ⟨fun h => ?_, fun h => ?_⟩
  · have h := of_decide_eq_true h
    exact (decide_eq_false fun e => h (by rw [e])).symm
  · have hlen : a.length = b.length := by have := of_decide_eq_false h; omega
    refine ⟨fun p => 0 ≤ p.1 ∧ p.1 ≤ (a.length : Int) ∧ a.take p.1.toNat = b.take p.1.toNat, fun p => ((a.length : Int) - p.1).toNat, ⟨Int.le_refl _, Int.natCast_nonneg _, by simp⟩, ?_⟩
    rintro ⟨i, _⟩ _ ⟨h0, h1, h2⟩
    change Int at i
    simp only at h0 h1 h2 ⊢
    refine ⟨fun h => ?_, fun h => ?_⟩
    · have h := of_decide_eq_true h
      refine ⟨⟨h0, h⟩, ⟨h0, by omega⟩, fun he => ?_, fun he => ?_⟩
      · have he := of_decide_eq_true he
        exact (decide_eq_false fun e => he (by rw [e])).symm
      · have he : gx 0 a i = gx 0 b i := by simpa using he
        rw [wr (by omega) (by omega)]
        refine ⟨⟨by omega, by omega, ?_⟩, by omega⟩
        rw [show (i + 1).toNat = i.toNat + 1 from by omega, List.take_add_one, List.take_add_one, gx_get (d := (0 : Int)) h0 h, gx_get (d := (0 : Int)) h0 (by omega), h2, he]
    · have h := of_decide_eq_false h
      rw [take_all (by omega), take_all (by omega)] at h2
      exact (decide_eq_true h2).symm
theorem vc_r01_FromUint64_ok (x : dens s_r01_FromUint64.args) (hw : awf s_r01_FromUint64.args x) (_ : s_r01_FromUint64.pre x) : vc_r01_FromUint64 x := by
  obtain ⟨v, _⟩ := x
  change Int at v
  have hv : IntKind.u64.min ≤ v ∧ v ≤ IntKind.u64.max := hw.1
  rw [u64_min, u64_max] at hv
  simp only [vc_r01_FromUint64]
  refine ⟨by decide, by simp, ?_⟩
  rintro ⟨r, _⟩ _ hr
  simp only at hr ⊢
  rw [hr]
  congr 1
  rw [show Min.min (Int.toNat 32) IntKind.u64.bits = 32 from rfl]
  simp only [nv, w32_mod]
  rw [Int.fdiv_eq_ediv_of_nonneg _ (by decide), show (2 : Int) ^ 32 = 4294967296 from rfl]
  omega
theorem shr32 (v : Int) (_ : 0 ≤ v) : Int.fdiv v (2 ^ Min.min (Int.toNat 32) IntKind.u64.bits) = v / 4294967296 := by
  rw [show Min.min (Int.toNat 32) IntKind.u64.bits = 32 from rfl, Int.fdiv_eq_ediv_of_nonneg _ (by decide)]; rfl
theorem vc_r01_Add_ok (x : dens s_r01_Add.args) (hw : awf s_r01_Add.args x) (hp : s_r01_Add.pre x) : vc_r01_Add x := by
  obtain ⟨a, b, _⟩ := x
  have ha : limbs a := limbs_of hw.1.2
  have hb : limbs b := limbs_of hw.2.1.2
  change List Int at a b
  obtain ⟨la, lb⟩ : a.length ≤ 1000000000 ∧ b.length ≤ 1000000000 := hp
  simp only [vc_r01_Add]
  have em : IntKind.i64.wrap (Max.max (a.length : Int) (b.length : Int) + 1) = ((max a.length b.length + 1 : Nat) : Int) := by
    rw [wr (by omega) (by omega)]; omega
  rw [em]
  have hml : max a.length b.length + 1 ≤ 1000000001 := by omega
  refine ⟨⟨by omega, Int.le_refl _, by simp; omega, by omega⟩, ?_⟩
  have hna : a.length ≤ max a.length b.length + 1 := by omega
  have hnb : b.length ≤ max a.length b.length + 1 := by omega
  have hlt2 := nv_sum_lt ha hb
  generalize max a.length b.length + 1 = n at hml hna hnb hlt2
  refine ⟨fun p => 0 ≤ p.2.1 ∧ p.2.1 ≤ (n : Int) ∧ 0 ≤ p.1 ∧ p.1 ≤ 1 ∧ p.2.2.1.length = n ∧ nv (p.2.2.1.take p.2.1.toNat) + 4294967296 ^ p.2.1.toNat * p.1.toNat = nv (a.take p.2.1.toNat) + nv (b.take p.2.1.toNat), fun p => ((n : Int) - p.2.1).toNat, ⟨Int.le_refl _, Int.natCast_nonneg _, Int.le_refl _, by show (0 : Int) ≤ 1; omega, by simp, by simp [nv]⟩, ?_⟩
  rintro ⟨c, i, out, _⟩ ⟨_, _, hwo, _⟩ ⟨h0, h1, h2, h3, h4, h5⟩
  change Int at c i
  change List Int at out
  simp only at h0 h1 h2 h3 h4 h5 ⊢
  have ho : limbs out := limbs_of hwo.2
  have da := dg_le ha i.toNat
  have db := dg_le hb i.toNat
  refine ⟨fun h => ?_, fun h => ?_⟩
  · have h := of_decide_eq_true h
    refine ⟨fun p => p.1 = c + (dg a i.toNat : Int), ⟨fun hi => ?_, fun hi => ?_⟩, ?_⟩
    · have hi := of_decide_eq_true hi
      refine ⟨⟨h0, hi⟩, ?_⟩
      show IntKind.u64.wrap _ = _
      rw [gx_dg ha h0 hi, w64 (a := (dg a i.toNat : Int)) (by omega) (by omega), w64 (by omega) (by omega)]
    · have hi := of_decide_eq_false hi
      show c = _
      rw [dg_out (by omega)]; omega
    rintro ⟨c1, _⟩ _ hc1
    simp only at hc1 ⊢
    refine ⟨fun p => p.1 = c1 + (dg b i.toNat : Int), ⟨fun hi => ?_, fun hi => ?_⟩, ?_⟩
    · have hi := of_decide_eq_true hi
      refine ⟨⟨h0, hi⟩, ?_⟩
      show IntKind.u64.wrap _ = _
      rw [gx_dg hb h0 hi, w64 (a := (dg b i.toNat : Int)) (by omega) (by omega), w64 (by omega) (by omega)]
    · have hi := of_decide_eq_false hi
      show c1 = _
      rw [dg_out (by omega)]; omega
    rintro ⟨c2, _⟩ _ hc2
    simp only at hc2 ⊢
    subst hc1 hc2
    refine ⟨⟨h0, h⟩, by decide, ?_⟩
    rw [shr32 _ (by omega), wr (by omega) (by omega), w32_mod]
    refine ⟨⟨by omega, by omega, by omega, by omega, by rw [List.length_set]; exact h4, ?_⟩, by omega⟩
    rw [show (i + 1).toNat = i.toNat + 1 from by omega, take_set_succ (by omega), nv_takeD a, nv_takeD b, Nat.pow_succ]
    exact nsum_step h5 (by omega)
  · have h := of_decide_eq_false h
    refine ⟨by omega, ?_⟩
    rintro ⟨r, _⟩ _ hr
    simp only at hr ⊢
    rw [hr]
    congr 1
    rw [show i.toNat = n from by omega, List.take_of_length_le (by omega), List.take_of_length_le hna, List.take_of_length_le hnb] at h5
    have hc : c.toNat = 0 := carry_zero (P := 4294967296 ^ n) (x := nv a + nv b) (by rw [← h5]; exact Nat.le_add_left ..) hlt2
    rw [hc, Nat.mul_zero, Nat.add_zero] at h5
    exact h5
theorem vc_r01_Compare_ok (x : dens s_r01_Compare.args) (hw : awf s_r01_Compare.args x) (hp : s_r01_Compare.pre x) : vc_r01_Compare x := by
  obtain ⟨a, b, _⟩ := x
  change List Int at a b
  obtain ⟨la, lb⟩ : a.length ≤ 1000000000 ∧ b.length ≤ 1000000000 := hp
  simp only [vc_r01_Compare]
  refine ⟨by omega, ?_⟩
  rintro ⟨r, _⟩ ⟨⟨hla, _⟩, _⟩ hr
  simp only at hr hla ⊢
  subst hr
  refine ⟨by omega, ?_⟩
  rintro ⟨s, _⟩ ⟨⟨hlb, _⟩, _⟩ hs
  simp only at hs hlb ⊢
  subst hs
  have ha := nc_limbs (nv a)
  have hb := nc_limbs (nv b)
  refine ⟨fun hne => ⟨fun h => ?_, fun h => ?_⟩, fun hne => ?_⟩
  · have h := of_decide_eq_true h
    exact (ncmp_lt (nc_len_lt (by omega))).symm
  · have h := of_decide_eq_false h
    have hne := of_decide_eq_true hne
    exact (ncmp_gt (nc_len_lt (by omega))).symm
  · have hlen : (nc (nv a)).length = (nc (nv b)).length := by have := of_decide_eq_false hne; omega
    have ea := nv_nc (nv a)
    have eb := nv_nc (nv b)
    generalize nc (nv a) = r at *
    generalize nc (nv b) = s at *
    rw [← ea, ← eb]
    refine ⟨fun p => -1 ≤ p.1 ∧ p.1 < (r.length : Int) ∧ r.drop (p.1 + 1).toNat = s.drop (p.1 + 1).toNat, fun p => (p.1 + 1).toNat, ?_, ?_⟩
    · rw [wr (by omega) (by omega)]
      refine ⟨by omega, by omega, ?_⟩
      rw [List.drop_of_length_le (by omega), List.drop_of_length_le (by omega)]
    rintro ⟨i, _⟩ _ ⟨h0, h1, h2⟩
    change Int at i
    simp only at h0 h1 h2 ⊢
    refine ⟨fun h => ?_, fun h => ?_⟩
    · have h := of_decide_eq_true h
      refine ⟨⟨h, h1⟩, ⟨h, by omega⟩, fun hlt => ?_, fun hlt => ⟨⟨h, h1⟩, ⟨h, by omega⟩, fun hgt => ?_, fun hgt => ?_⟩⟩
      · exact (ncmp_lt (nv_top ha hb hlen h h1 h2 (of_decide_eq_true hlt))).symm
      · exact (ncmp_gt (nv_top hb ha hlen.symm h (by omega) h2.symm (of_decide_eq_true hgt))).symm
      · have hlt := of_decide_eq_false hlt
        have hgt := of_decide_eq_false hgt
        rw [wr (by omega) (by omega)]
        refine ⟨⟨by omega, by omega, ?_⟩, by omega⟩
        rw [show i - 1 + 1 = i from by omega, nv_drop_cons h h1, nv_drop_cons h (by omega), h2, show gx 0 r i = gx 0 s i from by omega]
    · have h := of_decide_eq_false h
      rw [show (i + 1).toNat = 0 from by omega, List.drop_zero, List.drop_zero] at h2
      rw [h2, ncmp_self]
theorem vc_r01_Sub_ok (x : dens s_r01_Sub.args) (hw : awf s_r01_Sub.args x) (hp : s_r01_Sub.pre x) : vc_r01_Sub x := by
  obtain ⟨a, b, _⟩ := x
  change List Int at a b
  have hla : limbs a := limbs_of hw.1.2
  have hlb : limbs b := limbs_of hw.2.1.2
  obtain ⟨la, lb⟩ : a.length ≤ 1000000000 ∧ b.length ≤ 1000000000 := hp
  simp only [vc_r01_Sub]
  refine ⟨⟨la, lb⟩, ?_⟩
  rintro ⟨d, _⟩ _ hd
  simp only at hd ⊢
  subst hd
  refine ⟨fun h => ?_, fun h => ?_⟩
  · have h := of_decide_eq_true h
    refine ⟨fun _ => ⟨by trivial, by trivial⟩, fun hge => ?_⟩
    unfold ncmp at h
    rw [if_neg (by omega)] at h
    split at h <;> omega
  · have h := of_decide_eq_false h
    have hge : nv b ≤ nv a := by
      rcases Nat.lt_or_ge (nv a) (nv b) with h1 | h1
      · rw [ncmp_lt h1] at h; omega
      · exact h1
    refine ⟨by omega, ?_⟩
    rintro ⟨r, _⟩ _ hr
    simp only at hr ⊢
    refine ⟨by omega, ?_⟩
    rintro ⟨s, _⟩ _ hs
    simp only at hs ⊢
    have hra : limbs r := hr ▸ nc_limbs _
    have hsb : limbs s := hs ▸ nc_limbs _
    have hrv : nv r = nv a := by rw [hr, nv_nc]
    have hsv : nv s = nv b := by rw [hs, nv_nc]
    have hrl : r.length ≤ a.length := by rw [hr]; exact nc_len_le hla
    have hsr : s.length ≤ r.length := by rw [hr, hs]; exact nc_mono hge
    rw [← hrv, ← hsv] at hge ⊢
    clear hr hs hrv hsv
    refine ⟨⟨by omega, Int.le_refl _, by simp; omega, by omega⟩, ?_⟩
    refine ⟨fun p => 0 ≤ p.2.1 ∧ p.2.1 ≤ (r.length : Int) ∧ 0 ≤ p.1 ∧ p.1 ≤ 1 ∧ p.2.2.1.length = r.length ∧ nv (r.take p.2.1.toNat) + 4294967296 ^ p.2.1.toNat * p.1.toNat = nv (p.2.2.1.take p.2.1.toNat) + nv (s.take p.2.1.toNat), fun p => ((r.length : Int) - p.2.1).toNat, ⟨Int.le_refl _, Int.natCast_nonneg _, Int.le_refl _, by show (0 : Int) ≤ 1; omega, by simp, by simp [nv]⟩, ?_⟩
    rintro ⟨c, i, out, _⟩ ⟨_, _, hwo, _⟩ ⟨h0, h1, h2, h3, h4, h5⟩
    change Int at c i
    change List Int at out
    simp only at h0 h1 h2 h3 h4 h5 ⊢
    have ho : limbs out := limbs_of hwo.2
    have da := dg_le hra i.toNat
    have db := dg_le hsb i.toNat
    refine ⟨fun h => ?_, fun h => ?_⟩
    · have h := of_decide_eq_true h
      refine ⟨fun p => p.1 = c + (dg s i.toNat : Int), ⟨fun hi => ?_, fun hi => ?_⟩, ?_⟩
      · have hi := of_decide_eq_true hi
        refine ⟨⟨h0, hi⟩, ?_⟩
        show IntKind.u64.wrap _ = _
        rw [gx_dg hsb h0 hi, w64 (a := (dg s i.toNat : Int)) (by omega) (by omega), w64 (by omega) (by omega)]
      · have hi := of_decide_eq_false hi
        show c = _
        rw [dg_out (by omega)]; omega
      rintro ⟨c1, _⟩ _ hc1
      change Int at c1
      simp only at hc1 ⊢
      refine ⟨⟨h0, h⟩, ?_⟩
      rw [gx_dg hra h0 h, w64 (a := (dg r i.toNat : Int)) (by omega) (by omega)]
      refine ⟨fun p => 0 ≤ p.1 ∧ p.1 ≤ 1 ∧ p.2.1 = (dg r i.toNat : Int) + 4294967296 * p.1 ∧ c1 ≤ p.2.1 ∧ p.2.1 - c1 ≤ 4294967295, ⟨fun hi => ?_, fun hi => ?_⟩, ?_⟩
      · have hi := of_decide_eq_true hi
        show (0 : Int) ≤ 1 ∧ (1 : Int) ≤ 1 ∧ IntKind.u64.wrap _ = (dg r i.toNat : Int) + 4294967296 * 1 ∧ c1 ≤ IntKind.u64.wrap _ ∧ IntKind.u64.wrap _ - c1 ≤ _
        rw [w64 (by omega) (by omega)]
        omega
      · have hi := of_decide_eq_false hi
        show (0 : Int) ≤ 0 ∧ (0 : Int) ≤ 1 ∧ (dg r i.toNat : Int) = (dg r i.toNat : Int) + 4294967296 * 0 ∧ c1 ≤ (dg r i.toNat : Int) ∧ (dg r i.toNat : Int) - c1 ≤ _
        omega
      rintro ⟨c2, x2, _⟩ _ ⟨k1, k2, k3, k4, k5⟩
      change Int at c2 x2
      simp only at k1 k2 k3 k4 k5 ⊢
      refine ⟨⟨h0, by omega⟩, ?_⟩
      rw [wr (by omega) (by omega), w64 (a := x2 - c1) (by omega) (by omega), w32 (by omega) (by omega)]
      refine ⟨⟨by omega, by omega, by omega, by omega, by rw [List.length_set]; exact h4, ?_⟩, by omega⟩
      rw [show (i + 1).toNat = i.toNat + 1 from by omega, take_set_succ (by omega), nv_takeD r, nv_takeD s, Nat.pow_succ]
      exact ndiff_step h5 (by omega)
    · have h := of_decide_eq_false h
      refine ⟨by omega, ?_⟩
      rintro ⟨q, _⟩ _ hq
      simp only at hq ⊢
      refine ⟨fun hlt => by omega, fun _ => ⟨?_, by trivial⟩⟩
      rw [hq]
      congr 1
      rw [show i.toNat = r.length from by omega, List.take_of_length_le (Nat.le_refl _), List.take_of_length_le (by omega), List.take_of_length_le hsr] at h5
      have hol : nv out < 4294967296 ^ out.length := nv_lt ho
      rw [h4] at hol
      have hc : c.toNat = 0 := carry_zero (P := 4294967296 ^ r.length) (x := nv out) (by omega) hol
      rw [hc, Nat.mul_zero, Nat.add_zero] at h5
      omega
theorem vc_r01_Mul_ok (x : dens s_r01_Mul.args) (hw : awf s_r01_Mul.args x) (hp : s_r01_Mul.pre x) : vc_r01_Mul x := by
  obtain ⟨a, b, _⟩ := x
  have ha : limbs a := limbs_of hw.1.2
  have hb : limbs b := limbs_of hw.2.1.2
  change List Int at a b
  obtain ⟨la, lb⟩ : a.length ≤ 1000000000 ∧ b.length ≤ 1000000000 := hp
  simp only [vc_r01_Mul]
  have em : IntKind.i64.wrap ((a.length : Int) + (b.length : Int)) = ((a.length + b.length : Nat) : Int) := by
    rw [wr (by omega) (by omega)]; omega
  rw [em]
  refine ⟨⟨by omega, Int.le_refl _, by simp; omega, by omega⟩, ?_⟩
  refine ⟨fun p => 0 ≤ p.1 ∧ p.1 ≤ (a.length : Int) ∧ p.2.1.length = a.length + b.length ∧ nv p.2.1 = nv (a.take p.1.toNat) * nv b ∧ ∀ j, p.1.toNat + b.length ≤ j → dg p.2.1 j = 0, fun p => ((a.length : Int) - p.1).toNat, ⟨Int.le_refl _, Int.natCast_nonneg _, by rw [List.length_replicate, Int.toNat_natCast], by simp [nv, nv_zeros], fun j _ => dg_replicate _ _⟩, ?_⟩
  rintro ⟨i, out, _⟩ ⟨_, hwo, _⟩ ⟨h0, h1, h2, h3, h4⟩
  change Int at i
  change List Int at out
  simp only at h0 h1 h2 h3 h4 ⊢
  have ho : limbs out := limbs_of hwo.2
  refine ⟨fun h => ?_, fun h => ?_⟩
  · have h := of_decide_eq_true h
    have da := dg_le ha i.toNat
    refine ⟨fun p => 0 ≤ p.2.1 ∧ p.2.1 ≤ (b.length : Int) ∧ 0 ≤ p.1 ∧ p.1 ≤ 4294967295 ∧ p.2.2.1.length = a.length + b.length ∧ nv p.2.2.1 + 4294967296 ^ (i.toNat + p.2.1.toNat) * p.1.toNat = nv out + 4294967296 ^ i.toNat * (dg a i.toNat * nv (b.take p.2.1.toNat)) ∧ ∀ j, i.toNat + b.length ≤ j → dg p.2.2.1 j = 0, fun p => ((b.length : Int) - p.2.1).toNat, ⟨Int.le_refl _, Int.natCast_nonneg _, Int.le_refl _, by show (0 : Int) ≤ 4294967295; omega, h2, by simp [nv], h4⟩, ?_⟩
    rintro ⟨c, j, o, _⟩ ⟨_, _, hwo', _⟩ ⟨g0, g1, g2, g3, g4, g5, g6⟩
    change Int at c j
    change List Int at o
    simp only at g0 g1 g2 g3 g4 g5 g6 ⊢
    have hoo : limbs o := limbs_of hwo'.2
    refine ⟨fun hj => ?_, fun hj => ?_⟩
    · have hj := of_decide_eq_true hj
      have db := dg_le hb j.toNat
      rw [wr (a := i + j) (by omega) (by omega)]
      refine ⟨⟨by omega, by omega⟩, ⟨h0, h⟩, ⟨g0, hj⟩, ⟨by omega, by omega⟩, by decide, ?_⟩
      rw [gx_dg ha h0 h, gx_dg hb g0 hj, getD_dg hoo, show (i + j).toNat = i.toNat + j.toNat from by omega]
      have dk := dg_le hoo (i.toNat + j.toNat)
      have hm : dg a i.toNat * dg b j.toNat ≤ 4294967295 * 4294967295 := Nat.mul_le_mul da db
      have hme : (dg a i.toNat : Int) * (dg b j.toNat : Int) = ((dg a i.toNat * dg b j.toNat : Nat) : Int) := (Int.natCast_mul _ _).symm
      rw [w64 (a := (dg a i.toNat : Int)) (by omega) (by omega), w64 (a := (dg b j.toNat : Int)) (by omega) (by omega), w64 (a := (dg o (i.toNat + j.toNat) : Int)) (by omega) (by omega), hme]
      have g5' := g5
      generalize hMM : dg a i.toNat * dg b j.toNat = M at hm
      rw [w64 (a := (M : Int)) (by omega) (by omega), w64 (a := (dg o (i.toNat + j.toNat) : Int) + (M : Int)) (by omega) (by omega), w64 (by omega) (by omega), shr32 _ (by omega), wr (by omega) (by omega), w32_mod]
      refine ⟨⟨by omega, by omega, by omega, by omega, by rw [List.length_set]; exact g4, ?_, fun q hq => ?_⟩, by omega⟩
      · have hs := nv_set (l := o) (k := i.toNat + j.toNat) (v := (c + ((dg o (i.toNat + j.toNat) : Int) + (M : Int))) % 4294967296) (by omega)
        rw [show (j + 1).toNat = j.toNat + 1 from by omega, nv_takeD b, ← Nat.add_assoc i.toNat, Nat.pow_succ, Nat.mul_add (dg a i.toNat)]
        have e1 : dg a i.toNat * (4294967296 ^ j.toNat * dg b j.toNat) = 4294967296 ^ j.toNat * M := by rw [← hMM, Nat.mul_left_comm]
        rw [e1, Nat.mul_add (4294967296 ^ i.toNat), ← Nat.mul_assoc (4294967296 ^ i.toNat) (4294967296 ^ j.toNat), ← Nat.pow_add, ← Nat.add_assoc (nv out), ← g5]
        generalize 4294967296 ^ (i.toNat + j.toNat) = P at *
        have hd : ((c + ((dg o (i.toNat + j.toNat) : Int) + (M : Int))) % 4294967296).toNat + 4294967296 * ((c + ((dg o (i.toNat + j.toNat) : Int) + (M : Int))) / 4294967296).toNat = c.toNat + dg o (i.toNat + j.toNat) + M := by omega
        have hd2 := congrArg (P * ·) hd
        simp only [Nat.mul_add, ← Nat.mul_assoc] at hd2
        omega
      · rw [dg_set (by omega), if_neg (by omega)]; exact g6 q hq
    · have hj := of_decide_eq_false hj
      rw [wr (a := i + (b.length : Int)) (by omega) (by omega), wr (by omega) (by omega), w32 g2 g3]
      refine ⟨⟨by omega, by omega⟩, ⟨by omega, by omega, by rw [List.length_set]; exact g4, ?_, fun q hq => ?_⟩, by omega⟩
      · have hs := nv_set (l := o) (k := (i + (b.length : Int)).toNat) (v := c) (by omega)
        rw [g6 _ (by omega), Nat.mul_zero, Nat.add_zero] at hs
        rw [hs, show (i + (b.length : Int)).toNat = i.toNat + b.length from by omega]
        rw [show j.toNat = b.length from by omega, List.take_of_length_le (Nat.le_refl b.length)] at g5
        rw [g5, show (i + 1).toNat = i.toNat + 1 from by omega, nv_takeD, Nat.add_mul, h3, Nat.mul_assoc]
      · rw [dg_set (by omega), if_neg (by omega)]; exact g6 q (by omega)
  · have h := of_decide_eq_false h
    refine ⟨by omega, ?_⟩
    rintro ⟨r, _⟩ _ hr
    simp only at hr ⊢
    rw [hr, h3, List.take_of_length_le (by omega)]
end Go.Proofs.YtppgpdigopffbaaGreat
namespace Go.Proofs.YtppgpdigopffbaaGreat
open Go.Vc Go.Gw
def an_r02_Make : An := {}
def sp_r02_Make : Specs := [(99, s_r01_Trim)]
def an_r02_Norm : An := {}
def sp_r02_Norm : Specs := [(74, s_r02_Make)]
def an_r02_Equal : An := {}
def sp_r02_Equal : Specs := [(45, s_r01_Equal)]
def an_r02_FromInt : An := {}
def sp_r02_FromInt : Specs := [(74, s_r02_Make), (75, s_r01_FromUint64)]
def an_r02_Sign : An := {}
def sp_r02_Sign : Specs := [(70, s_r02_Norm)]
def an_r02_Neg : An := {}
def sp_r02_Neg : Specs := [(74, s_r02_Make)]
def an_r02_Add : An := { plan := [(2, [1, 3, 5], [8], true, (.p 0 (.q 1 (.p 2 (.q 3 (.p 4 (.q 5 (.e 6 (.e 7 (.e 8 .done))))))))))] }
def sp_r02_Add : Specs := [(74, s_r02_Make), (76, s_r01_Add), (77, s_r01_Sub)]
def an_r02_Mul : An := { plan := [(1, [1, 3, 6, 8], [11], true, (.p 0 (.q 1 (.p 2 (.q 3 (.p 4 (.p 5 (.q 6 (.p 7 (.q 8 (.e 9 (.e 10 (.e 11 .done)))))))))))))] }
def sp_r02_Mul : Specs := [(74, s_r02_Make), (78, s_r01_Mul)]
def vc_r02_Make : dens s_r02_Make.args → Prop := fun (x : Bool × List Int × Unit) => List.length x.snd.fst ≤ (4000000000 : Nat) ∧ ∀ (r : List Int × Unit), WfU r.fst ∧ True → r.fst = nc (nv x.snd.fst) → (sel x.fst (decide ((0 : Int) < (↑(List.length r.fst) : Int))) false, r.fst) = ic (iv (x.fst, x.snd.fst))
theorem vc_r02_Make_eq (x : dens s_r02_Make.args) : semF ⟨Tryz.prog, tys⟩ sp_r02_Make an_r02_Make s_r02_Make Tryz.f74.results.toList (Tryz.f74.body.getD .skip) x = vc_r02_Make x := by kernel_rfl
theorem m_r02_Make (hsp : SpOk Tryz.prog sp_r02_Make) (h : ∀ x, awf s_r02_Make.args x → s_r02_Make.pre x → vc_r02_Make x) : Meets Tryz.prog 74 s_r02_Make := meets_vc (cx := ⟨Tryz.prog, tys⟩) (sp := sp_r02_Make) (an := an_r02_Make) (s := s_r02_Make) (fn := Tryz.f74) (c := Tryz.f74.body.getD .skip) Tryz.func74 (by kernel_rfl) (Nat.le_of_ble_eq_true (by kernel_rfl)) (by kernel_rfl) tys_ok hsp vc_r02_Make_eq h
def vc_r02_Norm : dens s_r02_Norm.args → Prop := fun (x : (Bool × List Int) × Unit) => sh1 x.fst.snd ∧ ∀ (r : (Bool × List Int) × Unit), WfZ r.fst ∧ True → r.fst = ic (iv x.fst) → r.fst = ic (iv x.fst)
theorem vc_r02_Norm_eq (x : dens s_r02_Norm.args) : semF ⟨Tryz.prog, tys⟩ sp_r02_Norm an_r02_Norm s_r02_Norm Tryz.f70.results.toList (Tryz.f70.body.getD .skip) x = vc_r02_Norm x := by kernel_rfl
theorem m_r02_Norm (hsp : SpOk Tryz.prog sp_r02_Norm) (h : ∀ x, awf s_r02_Norm.args x → s_r02_Norm.pre x → vc_r02_Norm x) : Meets Tryz.prog 70 s_r02_Norm := meets_vc (cx := ⟨Tryz.prog, tys⟩) (sp := sp_r02_Norm) (an := an_r02_Norm) (s := s_r02_Norm) (fn := Tryz.f70) (c := Tryz.f70.body.getD .skip) Tryz.func70 (by kernel_rfl) (Nat.le_of_ble_eq_true (by kernel_rfl)) (by kernel_rfl) tys_ok hsp vc_r02_Norm_eq h
def vc_r02_Equal : dens s_r02_Equal.args → Prop := fun (x : (Bool × List Int) × (Bool × List Int) × Unit) => ((x.fst.fst == x.snd.fst.fst) = true → True) ∧ ∀ (r : Bool × Unit), ((x.fst.fst == x.snd.fst.fst) = true → (True ∧ True) ∧ r.fst = decide (x.fst.snd = x.snd.fst.snd)) → sel (x.fst.fst == x.snd.fst.fst) r.fst false = decide (x.fst = x.snd.fst)
theorem vc_r02_Equal_eq (x : dens s_r02_Equal.args) : semF ⟨Tryz.prog, tys⟩ sp_r02_Equal an_r02_Equal s_r02_Equal Tryz.f44.results.toList (Tryz.f44.body.getD .skip) x = vc_r02_Equal x := by kernel_rfl
theorem m_r02_Equal (hsp : SpOk Tryz.prog sp_r02_Equal) (h : ∀ x, awf s_r02_Equal.args x → s_r02_Equal.pre x → vc_r02_Equal x) : Meets Tryz.prog 44 s_r02_Equal := meets_vc (cx := ⟨Tryz.prog, tys⟩) (sp := sp_r02_Equal) (an := an_r02_Equal) (s := s_r02_Equal) (fn := Tryz.f44) (c := Tryz.f44.body.getD .skip) Tryz.func44 (by kernel_rfl) (Nat.le_of_ble_eq_true (by kernel_rfl)) (by kernel_rfl) tys_ok hsp vc_r02_Equal_eq h
def vc_r02_FromInt : dens s_r02_FromInt.args → Prop := fun (x : Int × Unit) => (decide (x.fst < (0 : Int)) = true → True ∧ ∀ (r : List Int × Unit), WfU r.fst ∧ True → r.fst = nc (IntKind.u64.wrap (IntKind.u64.wrap (IntKind.i64.wrap (-IntKind.i64.wrap (x.fst + (1 : Int)))) + (1 : Int))).toNat → sh1 r.fst ∧ ∀ (r_1 : (Bool × List Int) × Unit), WfZ r_1.fst ∧ True → r_1.fst = ic (iv (true, r.fst)) → r_1.fst = ic x.fst) ∧ (decide (x.fst < (0 : Int)) = false → True ∧ ∀ (r : List Int × Unit), WfU r.fst ∧ True → r.fst = nc (IntKind.u64.wrap x.fst).toNat → sh1 r.fst ∧ ∀ (r_1 : (Bool × List Int) × Unit), WfZ r_1.fst ∧ True → r_1.fst = ic (iv (false, r.fst)) → r_1.fst = ic x.fst)
theorem vc_r02_FromInt_eq (x : dens s_r02_FromInt.args) : semF ⟨Tryz.prog, tys⟩ sp_r02_FromInt an_r02_FromInt s_r02_FromInt Tryz.f47.results.toList (Tryz.f47.body.getD .skip) x = vc_r02_FromInt x := by kernel_rfl
theorem m_r02_FromInt (hsp : SpOk Tryz.prog sp_r02_FromInt) (h : ∀ x, awf s_r02_FromInt.args x → s_r02_FromInt.pre x → vc_r02_FromInt x) : Meets Tryz.prog 47 s_r02_FromInt := meets_vc (cx := ⟨Tryz.prog, tys⟩) (sp := sp_r02_FromInt) (an := an_r02_FromInt) (s := s_r02_FromInt) (fn := Tryz.f47) (c := Tryz.f47.body.getD .skip) Tryz.func47 (by kernel_rfl) (Nat.le_of_ble_eq_true (by kernel_rfl)) (by kernel_rfl) tys_ok hsp vc_r02_FromInt_eq h
def vc_r02_Sign : dens s_r02_Sign.args → Prop := fun (x : (Bool × List Int) × Unit) => sh1 x.fst.snd ∧ ∀ (r : (Bool × List Int) × Unit), WfZ r.fst ∧ True → r.fst = ic (iv x.fst) → (r.fst.fst = true → (-1 : Int) = (iv x.fst).sign) ∧ (r.fst.fst = false → (decide ((↑(List.length r.fst.snd) : Int) = (0 : Int)) = true → (0 : Int) = (iv x.fst).sign) ∧ (decide ((↑(List.length r.fst.snd) : Int) = (0 : Int)) = false → (1 : Int) = (iv x.fst).sign))
theorem vc_r02_Sign_eq (x : dens s_r02_Sign.args) : semF ⟨Tryz.prog, tys⟩ sp_r02_Sign an_r02_Sign s_r02_Sign Tryz.f53.results.toList (Tryz.f53.body.getD .skip) x = vc_r02_Sign x := by kernel_rfl
theorem m_r02_Sign (hsp : SpOk Tryz.prog sp_r02_Sign) (h : ∀ x, awf s_r02_Sign.args x → s_r02_Sign.pre x → vc_r02_Sign x) : Meets Tryz.prog 53 s_r02_Sign := meets_vc (cx := ⟨Tryz.prog, tys⟩) (sp := sp_r02_Sign) (an := an_r02_Sign) (s := s_r02_Sign) (fn := Tryz.f53) (c := Tryz.f53.body.getD .skip) Tryz.func53 (by kernel_rfl) (Nat.le_of_ble_eq_true (by kernel_rfl)) (by kernel_rfl) tys_ok hsp vc_r02_Sign_eq h
def vc_r02_Neg : dens s_r02_Neg.args → Prop := fun (x : (Bool × List Int) × Unit) => sh1 x.fst.snd ∧ ∀ (r : (Bool × List Int) × Unit), WfZ r.fst ∧ True → r.fst = ic (iv (!x.fst.fst, x.fst.snd)) → r.fst = ic (-iv x.fst)
theorem vc_r02_Neg_eq (x : dens s_r02_Neg.args) : semF ⟨Tryz.prog, tys⟩ sp_r02_Neg an_r02_Neg s_r02_Neg Tryz.f73.results.toList (Tryz.f73.body.getD .skip) x = vc_r02_Neg x := by kernel_rfl
theorem m_r02_Neg (hsp : SpOk Tryz.prog sp_r02_Neg) (h : ∀ x, awf s_r02_Neg.args x → s_r02_Neg.pre x → vc_r02_Neg x) : Meets Tryz.prog 73 s_r02_Neg := meets_vc (cx := ⟨Tryz.prog, tys⟩) (sp := sp_r02_Neg) (an := an_r02_Neg) (s := s_r02_Neg) (fn := Tryz.f73) (c := Tryz.f73.body.getD .skip) Tryz.func73 (by kernel_rfl) (Nat.le_of_ble_eq_true (by kernel_rfl)) (by kernel_rfl) tys_ok hsp vc_r02_Neg_eq h
def vc_r02_Add : dens s_r02_Add.args → Prop := fun (x : (Bool × List Int) × (Bool × List Int) × Unit) => ((x.fst.fst == x.snd.fst.fst) = true → (sh1 x.fst.snd ∧ sh1 x.snd.fst.snd) ∧ ∀ (r : List Int × Unit), WfU r.fst ∧ True → r.fst = nc (nv x.fst.snd + nv x.snd.fst.snd) → sh1 r.fst ∧ ∀ (r_1 : (Bool × List Int) × Unit), WfZ r_1.fst ∧ True → r_1.fst = ic (iv (x.fst.fst, r.fst)) → r_1.fst = ic (iv x.fst + iv x.snd.fst)) ∧ ((x.fst.fst == x.snd.fst.fst) = false → (sh1 x.fst.snd ∧ sh1 x.snd.fst.snd) ∧ ∀ (r : List Int × Bool × Unit), WfU r.fst ∧ True ∧ True → (nv x.fst.snd < nv x.snd.fst.snd → r.fst = [] ∧ r.snd.fst = false) ∧ (nv x.snd.fst.snd ≤ nv x.fst.snd → r.fst = nc (nv x.fst.snd - nv x.snd.fst.snd) ∧ r.snd.fst = true) → (r.snd.fst = true → sh1 r.fst ∧ ∀ (r_1 : (Bool × List Int) × Unit), WfZ r_1.fst ∧ True → r_1.fst = ic (iv (x.fst.fst, r.fst)) → r_1.fst = ic (iv x.fst + iv x.snd.fst)) ∧ (r.snd.fst = false → (sh1 x.snd.fst.snd ∧ sh1 x.fst.snd) ∧ ∀ (r : List Int × Bool × Unit), WfU r.fst ∧ True ∧ True → (nv x.snd.fst.snd < nv x.fst.snd → r.fst = [] ∧ r.snd.fst = false) ∧ (nv x.fst.snd ≤ nv x.snd.fst.snd → r.fst = nc (nv x.snd.fst.snd - nv x.fst.snd) ∧ r.snd.fst = true) → sh1 r.fst ∧ ∀ (r_1 : (Bool × List Int) × Unit), WfZ r_1.fst ∧ True → r_1.fst = ic (iv (x.snd.fst.fst, r.fst)) → r_1.fst = ic (iv x.fst + iv x.snd.fst)))
theorem vc_r02_Add_eq (x : dens s_r02_Add.args) : semF ⟨Tryz.prog, tys⟩ sp_r02_Add an_r02_Add s_r02_Add Tryz.f49.results.toList (Tryz.f49.body.getD .skip) x = vc_r02_Add x := by kernel_rfl
theorem m_r02_Add (hsp : SpOk Tryz.prog sp_r02_Add) (h : ∀ x, awf s_r02_Add.args x → s_r02_Add.pre x → vc_r02_Add x) : Meets Tryz.prog 49 s_r02_Add := meets_vc (cx := ⟨Tryz.prog, tys⟩) (sp := sp_r02_Add) (an := an_r02_Add) (s := s_r02_Add) (fn := Tryz.f49) (c := Tryz.f49.body.getD .skip) Tryz.func49 (by kernel_rfl) (Nat.le_of_ble_eq_true (by kernel_rfl)) (by kernel_rfl) tys_ok hsp vc_r02_Add_eq h
def vc_r02_Mul : dens s_r02_Mul.args → Prop := fun (x : (Bool × List Int) × (Bool × List Int) × Unit) => (sh1 x.fst.snd ∧ sh1 x.snd.fst.snd) ∧ ∀ (r : List Int × Unit), WfU r.fst ∧ True → r.fst = nc (nv x.fst.snd * nv x.snd.fst.snd) → sh1 r.fst ∧ ∀ (r_1 : (Bool × List Int) × Unit), WfZ r_1.fst ∧ True → r_1.fst = ic (iv (x.fst.fst != x.snd.fst.fst, r.fst)) → r_1.fst = ic (iv x.fst * iv x.snd.fst)
theorem vc_r02_Mul_eq (x : dens s_r02_Mul.args) : semF ⟨Tryz.prog, tys⟩ sp_r02_Mul an_r02_Mul s_r02_Mul Tryz.f50.results.toList (Tryz.f50.body.getD .skip) x = vc_r02_Mul x := by kernel_rfl
theorem m_r02_Mul (hsp : SpOk Tryz.prog sp_r02_Mul) (h : ∀ x, awf s_r02_Mul.args x → s_r02_Mul.pre x → vc_r02_Mul x) : Meets Tryz.prog 50 s_r02_Mul := meets_vc (cx := ⟨Tryz.prog, tys⟩) (sp := sp_r02_Mul) (an := an_r02_Mul) (s := s_r02_Mul) (fn := Tryz.f50) (c := Tryz.f50.body.getD .skip) Tryz.func50 (by kernel_rfl) (Nat.le_of_ble_eq_true (by kernel_rfl)) (by kernel_rfl) tys_ok hsp vc_r02_Mul_eq h
end Go.Proofs.YtppgpdigopffbaaGreat
namespace Go.Proofs.YtppgpdigopffbaaGreat
open Go.Vc Go.Gw
theorem vc_r02_Make_ok (x : dens s_r02_Make.args) (hw : awf s_r02_Make.args x) (hp : s_r02_Make.pre x) : vc_r02_Make x := by
  obtain ⟨b, l, _⟩ := x
  change Bool at b
  change List Int at l
  have hl : l.length ≤ 1000000000 := hp
  simp only [vc_r02_Make]
  refine ⟨by omega, ?_⟩
  rintro ⟨r, _⟩ _ hr
  simp only at hr ⊢
  rw [ic_iv, hr, sel_and]
  have e : decide ((0 : Int) < ((nc (nv l)).length : Int)) = decide (nv l ≠ 0) := by
    rw [decide_eq_decide]
    constructor
    · intro h h0; rw [h0, nc_zero] at h; simp at h
    · intro h
      have : (nc (nv l)).length ≠ 0 := fun h1 => h (nc_nil.1 (List.eq_nil_of_length_eq_zero h1))
      omega
  rw [e]
theorem vc_r02_Norm_ok (x : dens s_r02_Norm.args) (hw : awf s_r02_Norm.args x) (hp : s_r02_Norm.pre x) : vc_r02_Norm x := by
  simp only [vc_r02_Norm]
  exact ⟨hp, fun r _ h => h⟩
theorem vc_r02_Equal_ok (x : dens s_r02_Equal.args) (hw : awf s_r02_Equal.args x) (hp : s_r02_Equal.pre x) : vc_r02_Equal x := by
  obtain ⟨⟨a, l⟩, ⟨b, m⟩, _⟩ := x
  change Bool at a b
  change List Int at l m
  simp only [vc_r02_Equal]
  refine ⟨fun _ => trivial, ?_⟩
  rintro ⟨r, _⟩ hr
  simp only at hr ⊢
  by_cases h : a = b
  · subst h
    have := (hr (by simp)).2
    rw [this]
    simp [sel]
  · have : (a == b) = false := by simpa using h
    rw [this]
    simp [sel, h]
theorem vc_r02_FromInt_ok (x : dens s_r02_FromInt.args) (hw : awf s_r02_FromInt.args x) (_ : s_r02_FromInt.pre x) : vc_r02_FromInt x := by
  obtain ⟨v, _⟩ := x
  change Int at v
  have hv : IntKind.i64.min ≤ v ∧ v ≤ IntKind.i64.max := hw.1
  rw [i64_min, i64_max] at hv
  have hs : ∀ n : Nat, n ≤ 9223372036854775808 → sh1 (nc n) := fun n hn => by
    have : (nc n).length ≤ 2 := nc_len (by omega)
    unfold sh1; omega
  simp only [vc_r02_FromInt]
  refine ⟨fun h => ⟨trivial, ?_⟩, fun h => ⟨trivial, ?_⟩⟩
  · have h := of_decide_eq_true h
    rintro ⟨r, _⟩ _ hr
    simp only at hr ⊢
    have e : (IntKind.u64.wrap (IntKind.u64.wrap (IntKind.i64.wrap (-IntKind.i64.wrap (v + 1))) + 1)).toNat = v.natAbs := by
      rw [wr (a := v + 1) (by omega) (by omega), wr (by omega) (by omega), w64 (a := -(v + 1)) (by omega) (by omega), w64 (by omega) (by omega)]; omega
    rw [e] at hr
    subst hr
    refine ⟨hs _ (by omega), ?_⟩
    rintro ⟨s, _⟩ _ hs
    simp only at hs ⊢
    rw [hs, iv_neg, nv_nc]
    congr 1; omega
  · have h := of_decide_eq_false h
    rintro ⟨r, _⟩ _ hr
    simp only at hr ⊢
    have e : (IntKind.u64.wrap v).toNat = v.natAbs := by rw [w64_mod]; omega
    rw [e] at hr
    subst hr
    refine ⟨hs _ (by omega), ?_⟩
    rintro ⟨s, _⟩ _ hs
    simp only at hs ⊢
    rw [hs, iv_pos, nv_nc]
    congr 1; omega
theorem vc_r02_Sign_ok (x : dens s_r02_Sign.args) (hw : awf s_r02_Sign.args x) (hp : s_r02_Sign.pre x) : vc_r02_Sign x := by
  obtain ⟨a, _⟩ := x
  simp only [vc_r02_Sign]
  refine ⟨hp, ?_⟩
  rintro ⟨r, _⟩ _ hr
  simp only at hr ⊢
  subst hr
  generalize iv a = v
  refine ⟨fun h => ?_, fun h => ⟨fun h2 => ?_, fun h2 => ?_⟩⟩
  · have h : v < 0 := of_decide_eq_true h
    exact (Int.sign_eq_neg_one_of_neg h).symm
  · have h2 := of_decide_eq_true h2
    have : nc v.natAbs = [] := List.eq_nil_of_length_eq_zero (by show (ic v).2.length = 0; omega)
    rw [nc_nil] at this
    rw [show v = 0 from by omega]; rfl
  · have h : ¬ v < 0 := of_decide_eq_false h
    have h2 := of_decide_eq_false h2
    have : v ≠ 0 := fun h0 => h2 (by rw [h0, ic_zero]; rfl)
    exact (Int.sign_eq_one_of_pos (by omega)).symm
theorem vc_r02_Neg_ok (x : dens s_r02_Neg.args) (hw : awf s_r02_Neg.args x) (hp : s_r02_Neg.pre x) : vc_r02_Neg x := by
  obtain ⟨⟨b, l⟩, _⟩ := x
  simp only [vc_r02_Neg]
  refine ⟨hp, ?_⟩
  rintro ⟨r, _⟩ _ hr
  simp only at hr ⊢
  rw [hr, iv_not]
theorem vc_r02_Add_ok (x : dens s_r02_Add.args) (hw : awf s_r02_Add.args x) (hp : s_r02_Add.pre x) : vc_r02_Add x := by
  obtain ⟨⟨a, l⟩, ⟨b, m⟩, _⟩ := x
  have hl : limbs l := limbs_of hw.1.2.2
  have hm : limbs m := limbs_of hw.2.1.2.2
  change Bool at a b
  change List Int at l m
  obtain ⟨p1, p2⟩ : l.length ≤ 100000000 ∧ m.length ≤ 100000000 := hp
  have q1 : sh1 l := by unfold sh1; omega
  have q2 : sh1 m := by unfold sh1; omega
  have n1 := nc_len_le hl
  have n2 := nc_len_le hm
  have n3 := nc_add (nv l) (nv m)
  simp only [vc_r02_Add]
  refine ⟨fun h => ⟨⟨q1, q2⟩, ?_⟩, fun h => ⟨⟨q1, q2⟩, ?_⟩⟩
  · have h : a = b := by simpa using h
    subst h
    rintro ⟨r, _⟩ _ hr
    simp only at hr ⊢
    subst hr
    refine ⟨by unfold sh1; omega, ?_⟩
    rintro ⟨s, _⟩ _ hs
    simp only at hs ⊢
    rw [hs]
    congr 1
    cases a
    · simp only [iv_pos, nv_nc]; omega
    · simp only [iv_neg, nv_nc]; omega
  · have h : a ≠ b := by simpa using h
    rintro ⟨r, ok, _⟩ _ ⟨h1, h2⟩
    change Bool at ok
    simp only at h1 h2 ⊢
    refine ⟨fun hok => ?_, fun hok => ⟨⟨q2, q1⟩, ?_⟩⟩
    · have hge : nv m ≤ nv l := by
        rcases Nat.lt_or_ge (nv l) (nv m) with h3 | h3
        · rw [(h1 h3).2] at hok; cases hok
        · exact h3
      rw [(h2 hge).1]
      have := nc_mono (show nv l - nv m ≤ nv l by omega)
      refine ⟨by unfold sh1; omega, ?_⟩
      rintro ⟨s, _⟩ _ hs
      simp only at hs ⊢
      rw [hs]
      congr 1
      cases a <;> cases b <;> simp only [iv_neg, iv_pos, nv_nc] <;> first | omega | exact absurd rfl h
    · have hlt : nv l < nv m := by
        rcases Nat.lt_or_ge (nv l) (nv m) with h3 | h3
        · exact h3
        · rw [(h2 h3).2] at hok; cases hok
      rintro ⟨r2, ok2, _⟩ _ ⟨_, h4⟩
      simp only at h4 ⊢
      rw [(h4 (by omega)).1]
      have := nc_mono (show nv m - nv l ≤ nv m by omega)
      refine ⟨by unfold sh1; omega, ?_⟩
      rintro ⟨s, _⟩ _ hs
      simp only at hs ⊢
      rw [hs]
      congr 1
      cases a <;> cases b <;> simp only [iv_neg, iv_pos, nv_nc] <;> first | omega | exact absurd rfl h
theorem vc_r02_Mul_ok (x : dens s_r02_Mul.args) (hw : awf s_r02_Mul.args x) (hp : s_r02_Mul.pre x) : vc_r02_Mul x := by
  obtain ⟨⟨a, l⟩, ⟨b, m⟩, _⟩ := x
  have hl : limbs l := limbs_of hw.1.2.2
  have hm : limbs m := limbs_of hw.2.1.2.2
  change Bool at a b
  change List Int at l m
  obtain ⟨p1, p2⟩ : l.length ≤ 100000000 ∧ m.length ≤ 100000000 := hp
  have n1 := nc_len_le hl
  have n2 := nc_len_le hm
  have n3 := nc_mul (nv l) (nv m)
  simp only [vc_r02_Mul]
  refine ⟨⟨by unfold sh1; omega, by unfold sh1; omega⟩, ?_⟩
  rintro ⟨r, _⟩ _ hr
  simp only at hr ⊢
  subst hr
  refine ⟨by unfold sh1; omega, ?_⟩
  rintro ⟨s, _⟩ _ hs
  simp only at hs ⊢
  rw [hs]
  congr 1
  cases a <;> cases b <;> simp [iv_neg, iv_pos, nv_nc, Int.natCast_mul, Int.neg_mul, Int.mul_neg]
end Go.Proofs.YtppgpdigopffbaaGreat
namespace Go.Proofs.YtppgpdigopffbaaGreat
open Go.Vc Go.Gw
def an_r03_Make : An := { join := [(11, ⟨[4, 7, 10], [2], [], [(5, 42, [.val .bool, .val (.sl (.int .u32))]), (7, 42, [.val .bool, .val (.sl (.int .u32))])], []⟩)], plan := [(5, [0, 3], [5], true, (.q 0 (.p 2 (.q 3 (.e 1 (.p 4 (.e 5 .done))))))), (10, [0, 2], [4, 5], true, (.q 0 (.q 2 (.e 1 (.e 3 (.e 4 (.e 5 .done)))))))] }
def sp_r03_Make : Specs := [(21, s_r03_Zero), (45, s_r01_Equal), (53, s_r02_Sign), (70, s_r02_Norm), (71, s_r02_GCD), (72, s_r02_DivMod), (73, s_r02_Neg)]
def an_r03_Zero : An := {}
def sp_r03_Zero : Specs := []
def an_r03_Norm : An := {}
def sp_r03_Norm : Specs := [(46, s_r03_Make)]
def an_r03_Equal : An := {}
def sp_r03_Equal : Specs := [(44, s_r02_Equal), (45, s_r01_Equal)]
def an_r03_Canonical : An := { plan := [(1, [0, 1], [], true, (.q 0 (.q 1 (.e 2 (.e 3 (.p 4 .done))))))] }
def sp_r03_Canonical : Specs := [(16, s_r03_Equal), (48, s_r03_Norm)]
def an_r03_den : An := {}
def sp_r03_den : Specs := [(48, s_r03_Norm)]
def an_r03_FromInt : An := {}
def sp_r03_FromInt : Specs := [(46, s_r03_Make), (47, s_r02_FromInt)]
def an_r03_Sign : An := {}
def sp_r03_Sign : Specs := [(48, s_r03_Norm), (53, s_r02_Sign)]
def an_r03_Add : An := { plan := [(1, [0, 2], [6, 7], true, (.q 0 (.q 2 (.or 1 (.or 3 (.or 4 (.e 5 (.e 6 (.e 7 .done))) (.e 5 (.e 4 (.e 6 (.e 7 .done))))) (.or 4 (.or 3 (.e 5 (.e 6 (.e 7 .done))) (.e 5 (.e 3 (.e 6 (.e 7 .done))))) (.e 5 (.or 3 (.e 4 (.e 6 (.e 7 .done))) (.e 4 (.e 3 (.e 6 (.e 7 .done)))))))) (.or 4 (.or 1 (.or 3 (.e 5 (.e 6 (.e 7 .done))) (.e 5 (.e 3 (.e 6 (.e 7 .done))))) (.e 5 (.e 1 (.e 3 (.e 6 (.e 7 .done)))))) (.e 5 (.or 1 (.or 3 (.e 4 (.e 6 (.e 7 .done))) (.e 4 (.e 3 (.e 6 (.e 7 .done))))) (.e 4 (.e 1 (.e 3 (.e 6 (.e 7 .done)))))))))))), (2, [1, 2, 6, 7, 11, 13], [17], true, (.p 0 (.q 1 (.q 2 (.p 5 (.q 6 (.q 7 (.q 11 (.q 13 (.e 3 (.e 4 (.e 8 (.e 9 (.e 10 (.e 12 (.e 14 (.e 15 (.e 16 (.e 17 .done)))))))))))))))))))] }
def sp_r03_Add : Specs := [(46, s_r03_Make), (48, s_r03_Norm), (49, s_r02_Add), (50, s_r02_Mul), (51, s_r03_den)]
def vc_r03_Make : dens s_r03_Make.args → Prop := fun (x : (Bool × List Int) × (Bool × List Int) × Unit) => sh1 x.snd.fst.snd ∧ ∀ (r : Int × Unit), In64 r.fst ∧ True → r.fst = (iv x.snd.fst).sign → (decide (r.fst = (0 : Int)) = true → True ∧ ∀ (r : QQ × Unit), WfQ r.fst ∧ True → r.fst = rc (0 : Rat) → r.fst = rc (divI x.fst x.snd.fst)) ∧ (decide (r.fst = (0 : Int)) = false → sh1 x.snd.fst.snd ∧ ∀ (r : (Bool × List Int) × Unit), WfZ r.fst ∧ True → r.fst = ic (iv x.snd.fst) → ((!r.fst.fst) = true → True) ∧ ∀ (r_1 : Bool × Unit), ((!r.fst.fst) = true → (True ∧ True) ∧ r_1.fst = decide (r.fst.snd = [(1 : Int)])) → (sel (!r.fst.fst) r_1.fst false = true → sh1 x.fst.snd ∧ ∀ (r_2 : (Bool × List Int) × Unit), WfZ r_2.fst ∧ True → r_2.fst = ic (iv x.fst) → (r_2.fst, r.fst.snd) = rc (divI x.fst x.snd.fst)) ∧ (sel (!r.fst.fst) r_1.fst false = false → False ∧ ∀ (r : (Bool × List Int) × Unit), WfZ r.fst ∧ True → True → False ∧ ∀ (r : (Bool × List Int) × (Bool × List Int) × Bool × Unit), WfZ r.fst ∧ WfZ r.snd.fst ∧ True ∧ True → True → False ∧ ∀ (r_2 : (Bool × List Int) × (Bool × List Int) × Bool × Unit), WfZ r_2.fst ∧ WfZ r_2.snd.fst ∧ True ∧ True → True → ∃ (J : Bool × List Int × Bool × List Int × Unit → Prop), ((r_2.fst.fst = true → sh1 r.fst.snd ∧ ∀ (r_3 : (Bool × List Int) × Unit), WfZ r_3.fst ∧ True → r_3.fst = ic (-iv r.fst) → sh1 r_2.fst.snd ∧ ∀ (r : (Bool × List Int) × Unit), WfZ r.fst ∧ True → r.fst = ic (-iv r_2.fst) → J (r_3.fst.fst, r_3.fst.snd, r.fst.fst, r.fst.snd, ())) ∧ (r_2.fst.fst = false → J (r.fst.fst, r.fst.snd, r_2.fst.fst, r_2.fst.snd, ()))) ∧ ∀ (p : Bool × List Int × Bool × List Int × Unit), True ∧ WfU p.snd.fst ∧ True ∧ WfU p.snd.snd.snd.fst ∧ True → J p → ((p.fst, p.snd.fst), p.snd.snd.snd.fst) = rc (divI x.fst x.snd.fst)))
theorem vc_r03_Make_eq (x : dens s_r03_Make.args) : semF ⟨Tryz.prog, tys⟩ sp_r03_Make an_r03_Make s_r03_Make Tryz.f46.results.toList (Tryz.f46.body.getD .skip) x = vc_r03_Make x := by kernel_rfl
theorem m_r03_Make (hsp : SpOk Tryz.prog sp_r03_Make) (h : ∀ x, awf s_r03_Make.args x → s_r03_Make.pre x → vc_r03_Make x) : Meets Tryz.prog 46 s_r03_Make := meets_vc (cx := ⟨Tryz.prog, tys⟩) (sp := sp_r03_Make) (an := an_r03_Make) (s := s_r03_Make) (fn := Tryz.f46) (c := Tryz.f46.body.getD .skip) Tryz.func46 (by kernel_rfl) (Nat.le_of_ble_eq_true (by kernel_rfl)) (by kernel_rfl) tys_ok hsp vc_r03_Make_eq h
def vc_r03_Zero : dens s_r03_Zero.args → Prop := fun (x : Unit) => ((false, []), [(1 : Int)]) = rc (0 : Rat)
theorem vc_r03_Zero_eq (x : dens s_r03_Zero.args) : semF ⟨Tryz.prog, tys⟩ sp_r03_Zero an_r03_Zero s_r03_Zero Tryz.f21.results.toList (Tryz.f21.body.getD .skip) x = vc_r03_Zero x := by kernel_rfl
theorem m_r03_Zero (hsp : SpOk Tryz.prog sp_r03_Zero) (h : ∀ x, awf s_r03_Zero.args x → s_r03_Zero.pre x → vc_r03_Zero x) : Meets Tryz.prog 21 s_r03_Zero := meets_vc (cx := ⟨Tryz.prog, tys⟩) (sp := sp_r03_Zero) (an := an_r03_Zero) (s := s_r03_Zero) (fn := Tryz.f21) (c := Tryz.f21.body.getD .skip) Tryz.func21 (by kernel_rfl) (Nat.le_of_ble_eq_true (by kernel_rfl)) (by kernel_rfl) tys_ok hsp vc_r03_Zero_eq h
def vc_r03_Norm : dens s_r03_Norm.args → Prop := fun (x : QQ × Unit) => ((iv (false, x.fst.snd) = (0 : Int) ∨ iv (false, x.fst.snd) = (1 : Int)) ∧ sh2 x.fst.fst.snd ∧ sh2 x.fst.snd) ∧ ∀ (r : QQ × Unit), WfQ r.fst ∧ True → r.fst = rc (divI x.fst.fst (false, x.fst.snd)) → r.fst = rc (rv x.fst)
theorem vc_r03_Norm_eq (x : dens s_r03_Norm.args) : semF ⟨Tryz.prog, tys⟩ sp_r03_Norm an_r03_Norm s_r03_Norm Tryz.f48.results.toList (Tryz.f48.body.getD .skip) x = vc_r03_Norm x := by kernel_rfl
theorem m_r03_Norm (hsp : SpOk Tryz.prog sp_r03_Norm) (h : ∀ x, awf s_r03_Norm.args x → s_r03_Norm.pre x → vc_r03_Norm x) : Meets Tryz.prog 48 s_r03_Norm := meets_vc (cx := ⟨Tryz.prog, tys⟩) (sp := sp_r03_Norm) (an := an_r03_Norm) (s := s_r03_Norm) (fn := Tryz.f48) (c := Tryz.f48.body.getD .skip) Tryz.func48 (by kernel_rfl) (Nat.le_of_ble_eq_true (by kernel_rfl)) (by kernel_rfl) tys_ok hsp vc_r03_Norm_eq h
def vc_r03_Equal : dens s_r03_Equal.args → Prop := fun (x : QQ × QQ × Unit) => True ∧ ∀ (r : Bool × Unit), True ∧ True → r.fst = decide (x.fst.fst = x.snd.fst.fst) → (r.fst = true → True) ∧ ∀ (r_1 : Bool × Unit), (r.fst = true → (True ∧ True) ∧ r_1.fst = decide (x.fst.snd = x.snd.fst.snd)) → sel r.fst r_1.fst false = decide (x.fst = x.snd.fst)
theorem vc_r03_Equal_eq (x : dens s_r03_Equal.args) : semF ⟨Tryz.prog, tys⟩ sp_r03_Equal an_r03_Equal s_r03_Equal Tryz.f16.results.toList (Tryz.f16.body.getD .skip) x = vc_r03_Equal x := by kernel_rfl
theorem m_r03_Equal (hsp : SpOk Tryz.prog sp_r03_Equal) (h : ∀ x, awf s_r03_Equal.args x → s_r03_Equal.pre x → vc_r03_Equal x) : Meets Tryz.prog 16 s_r03_Equal := meets_vc (cx := ⟨Tryz.prog, tys⟩) (sp := sp_r03_Equal) (an := an_r03_Equal) (s := s_r03_Equal) (fn := Tryz.f16) (c := Tryz.f16.body.getD .skip) Tryz.func16 (by kernel_rfl) (Nat.le_of_ble_eq_true (by kernel_rfl)) (by kernel_rfl) tys_ok hsp vc_r03_Equal_eq h
def vc_r03_Canonical : dens s_r03_Canonical.args → Prop := fun (x : QQ × Unit) => whole x.fst ∧ ∀ (r : QQ × Unit), WfQ r.fst ∧ True → r.fst = rc (rv x.fst) → True ∧ ∀ (r_1 : Bool × Unit), True ∧ True → r_1.fst = decide (x.fst = r.fst) → r_1.fst = decide (x.fst = rc (rv x.fst))
theorem vc_r03_Canonical_eq (x : dens s_r03_Canonical.args) : semF ⟨Tryz.prog, tys⟩ sp_r03_Canonical an_r03_Canonical s_r03_Canonical Tryz.f61.results.toList (Tryz.f61.body.getD .skip) x = vc_r03_Canonical x := by kernel_rfl
theorem m_r03_Canonical (hsp : SpOk Tryz.prog sp_r03_Canonical) (h : ∀ x, awf s_r03_Canonical.args x → s_r03_Canonical.pre x → vc_r03_Canonical x) : Meets Tryz.prog 61 s_r03_Canonical := meets_vc (cx := ⟨Tryz.prog, tys⟩) (sp := sp_r03_Canonical) (an := an_r03_Canonical) (s := s_r03_Canonical) (fn := Tryz.f61) (c := Tryz.f61.body.getD .skip) Tryz.func61 (by kernel_rfl) (Nat.le_of_ble_eq_true (by kernel_rfl)) (by kernel_rfl) tys_ok hsp vc_r03_Canonical_eq h
def vc_r03_den : dens s_r03_den.args → Prop := fun (x : QQ × Unit) => whole x.fst ∧ ∀ (r : QQ × Unit), WfQ r.fst ∧ True → r.fst = rc (rv x.fst) → (false, r.fst.snd) = ic (↑(rv x.fst).den : Int)
theorem vc_r03_den_eq (x : dens s_r03_den.args) : semF ⟨Tryz.prog, tys⟩ sp_r03_den an_r03_den s_r03_den Tryz.f51.results.toList (Tryz.f51.body.getD .skip) x = vc_r03_den x := by kernel_rfl
theorem m_r03_den (hsp : SpOk Tryz.prog sp_r03_den) (h : ∀ x, awf s_r03_den.args x → s_r03_den.pre x → vc_r03_den x) : Meets Tryz.prog 51 s_r03_den := meets_vc (cx := ⟨Tryz.prog, tys⟩) (sp := sp_r03_den) (an := an_r03_den) (s := s_r03_den) (fn := Tryz.f51) (c := Tryz.f51.body.getD .skip) Tryz.func51 (by kernel_rfl) (Nat.le_of_ble_eq_true (by kernel_rfl)) (by kernel_rfl) tys_ok hsp vc_r03_den_eq h
def vc_r03_FromInt : dens s_r03_FromInt.args → Prop := fun (x : Int × Unit) => True ∧ ∀ (r : (Bool × List Int) × Unit), WfZ r.fst ∧ True → r.fst = ic x.fst → True ∧ ∀ (r_1 : (Bool × List Int) × Unit), WfZ r_1.fst ∧ True → r_1.fst = ic (1 : Int) → ((iv r_1.fst = (0 : Int) ∨ iv r_1.fst = (1 : Int)) ∧ sh2 r.fst.snd ∧ sh2 r_1.fst.snd) ∧ ∀ (r_2 : QQ × Unit), WfQ r_2.fst ∧ True → r_2.fst = rc (divI r.fst r_1.fst) → r_2.fst = ri x.fst
theorem vc_r03_FromInt_eq (x : dens s_r03_FromInt.args) : semF ⟨Tryz.prog, tys⟩ sp_r03_FromInt an_r03_FromInt s_r03_FromInt Tryz.f18.results.toList (Tryz.f18.body.getD .skip) x = vc_r03_FromInt x := by kernel_rfl
theorem m_r03_FromInt (hsp : SpOk Tryz.prog sp_r03_FromInt) (h : ∀ x, awf s_r03_FromInt.args x → s_r03_FromInt.pre x → vc_r03_FromInt x) : Meets Tryz.prog 18 s_r03_FromInt := meets_vc (cx := ⟨Tryz.prog, tys⟩) (sp := sp_r03_FromInt) (an := an_r03_FromInt) (s := s_r03_FromInt) (fn := Tryz.f18) (c := Tryz.f18.body.getD .skip) Tryz.func18 (by kernel_rfl) (Nat.le_of_ble_eq_true (by kernel_rfl)) (by kernel_rfl) tys_ok hsp vc_r03_FromInt_eq h
def vc_r03_Sign : dens s_r03_Sign.args → Prop := fun (x : QQ × Unit) => whole x.fst ∧ ∀ (r : QQ × Unit), WfQ r.fst ∧ True → r.fst = rc (rv x.fst) → sh1 r.fst.fst.snd ∧ ∀ (r_1 : Int × Unit), In64 r_1.fst ∧ True → r_1.fst = (iv r.fst.fst).sign → r_1.fst = (rv x.fst).num.sign
theorem vc_r03_Sign_eq (x : dens s_r03_Sign.args) : semF ⟨Tryz.prog, tys⟩ sp_r03_Sign an_r03_Sign s_r03_Sign Tryz.f22.results.toList (Tryz.f22.body.getD .skip) x = vc_r03_Sign x := by kernel_rfl
theorem m_r03_Sign (hsp : SpOk Tryz.prog sp_r03_Sign) (h : ∀ x, awf s_r03_Sign.args x → s_r03_Sign.pre x → vc_r03_Sign x) : Meets Tryz.prog 22 s_r03_Sign := meets_vc (cx := ⟨Tryz.prog, tys⟩) (sp := sp_r03_Sign) (an := an_r03_Sign) (s := s_r03_Sign) (fn := Tryz.f22) (c := Tryz.f22.body.getD .skip) Tryz.func22 (by kernel_rfl) (Nat.le_of_ble_eq_true (by kernel_rfl)) (by kernel_rfl) tys_ok hsp vc_r03_Sign_eq h
def vc_r03_Add : dens s_r03_Add.args → Prop := fun (x : QQ × QQ × Unit) => (whole x.fst ∧ ∀ (r : QQ × Unit), WfQ r.fst ∧ True → r.fst = rc (rv x.fst) → (whole x.snd.fst ∧ ∀ (r_1 : QQ × Unit), WfQ r_1.fst ∧ True → r_1.fst = rc (rv x.snd.fst) → (whole x.snd.fst ∧ ∀ (r_2 : (Bool × List Int) × Unit), WfZ r_2.fst ∧ True → r_2.fst = ic (↑(rv x.snd.fst).den : Int) → (sh2 r.fst.fst.snd ∧ sh2 r_2.fst.snd) ∧ ∀ (r_3 : (Bool × List Int) × Unit), WfZ r_3.fst ∧ True → r_3.fst = ic (iv r.fst.fst * iv r_2.fst) → whole x.fst ∧ ∀ (r : (Bool × List Int) × Unit), WfZ r.fst ∧ True → r.fst = ic (↑(rv x.fst).den : Int) → (sh2 r_1.fst.fst.snd ∧ sh2 r.fst.snd) ∧ ∀ (r_4 : (Bool × List Int) × Unit), WfZ r_4.fst ∧ True → r_4.fst = ic (iv r_1.fst.fst * iv r.fst) → (sh2 r_3.fst.snd ∧ sh2 r_4.fst.snd) ∧ ∀ (r : (Bool × List Int) × Unit), WfZ r.fst ∧ True → r.fst = ic (iv r_3.fst + iv r_4.fst) → whole x.fst ∧ ∀ (r_5 : (Bool × List Int) × Unit), WfZ r_5.fst ∧ True → r_5.fst = ic (↑(rv x.fst).den : Int) → whole x.snd.fst ∧ ∀ (r_6 : (Bool × List Int) × Unit), WfZ r_6.fst ∧ True → r_6.fst = ic (↑(rv x.snd.fst).den : Int) → (sh2 r_5.fst.snd ∧ sh2 r_6.fst.snd) ∧ ∀ (r_7 : (Bool × List Int) × Unit), WfZ r_7.fst ∧ True → r_7.fst = ic (iv r_5.fst * iv r_6.fst) → ((iv r_7.fst = (0 : Int) ∨ iv r_7.fst = (1 : Int)) ∧ sh2 r.fst.snd ∧ sh2 r_7.fst.snd) ∧ ∀ (r_8 : QQ × Unit), WfQ r_8.fst ∧ True → r_8.fst = rc (divI r.fst r_7.fst) → r_8.fst = rc (rv x.fst + rv x.snd.fst)) ∧ whole x.snd.fst ∧ ∀ (r_2 : (Bool × List Int) × Unit), WfZ r_2.fst ∧ True → r_2.fst = ic (↑(rv x.snd.fst).den : Int) → (sh2 r.fst.fst.snd ∧ sh2 r_2.fst.snd) ∧ ∀ (r_3 : (Bool × List Int) × Unit), WfZ r_3.fst ∧ True → r_3.fst = ic (iv r.fst.fst * iv r_2.fst) → whole x.fst ∧ ∀ (r : (Bool × List Int) × Unit), WfZ r.fst ∧ True → r.fst = ic (↑(rv x.fst).den : Int) → (sh2 r_1.fst.fst.snd ∧ sh2 r.fst.snd) ∧ ∀ (r_4 : (Bool × List Int) × Unit), WfZ r_4.fst ∧ True → r_4.fst = ic (iv r_1.fst.fst * iv r.fst) → (sh2 r_3.fst.snd ∧ sh2 r_4.fst.snd) ∧ ∀ (r : (Bool × List Int) × Unit), WfZ r.fst ∧ True → r.fst = ic (iv r_3.fst + iv r_4.fst) → whole x.fst ∧ ∀ (r_5 : (Bool × List Int) × Unit), WfZ r_5.fst ∧ True → r_5.fst = ic (↑(rv x.fst).den : Int) → whole x.snd.fst ∧ ∀ (r_6 : (Bool × List Int) × Unit), WfZ r_6.fst ∧ True → r_6.fst = ic (↑(rv x.snd.fst).den : Int) → (sh2 r_5.fst.snd ∧ sh2 r_6.fst.snd) ∧ ∀ (r_7 : (Bool × List Int) × Unit), WfZ r_7.fst ∧ True → r_7.fst = ic (iv r_5.fst * iv r_6.fst) → ((iv r_7.fst = (0 : Int) ∨ iv r_7.fst = (1 : Int)) ∧ sh2 r.fst.snd ∧ sh2 r_7.fst.snd) ∧ ∀ (r_8 : QQ × Unit), WfQ r_8.fst ∧ True → r_8.fst = rc (divI r.fst r_7.fst) → r_8.fst = rc (rv x.fst + rv x.snd.fst)) ∧ ((whole x.snd.fst ∧ ∀ (r_1 : QQ × Unit), WfQ r_1.fst ∧ True → r_1.fst = rc (rv x.snd.fst) → whole x.snd.fst ∧ ∀ (r_2 : (Bool × List Int) × Unit), WfZ r_2.fst ∧ True → r_2.fst = ic (↑(rv x.snd.fst).den : Int) → (sh2 r.fst.fst.snd ∧ sh2 r_2.fst.snd) ∧ ∀ (r_3 : (Bool × List Int) × Unit), WfZ r_3.fst ∧ True → r_3.fst = ic (iv r.fst.fst * iv r_2.fst) → whole x.fst ∧ ∀ (r : (Bool × List Int) × Unit), WfZ r.fst ∧ True → r.fst = ic (↑(rv x.fst).den : Int) → (sh2 r_1.fst.fst.snd ∧ sh2 r.fst.snd) ∧ ∀ (r_4 : (Bool × List Int) × Unit), WfZ r_4.fst ∧ True → r_4.fst = ic (iv r_1.fst.fst * iv r.fst) → (sh2 r_3.fst.snd ∧ sh2 r_4.fst.snd) ∧ ∀ (r : (Bool × List Int) × Unit), WfZ r.fst ∧ True → r.fst = ic (iv r_3.fst + iv r_4.fst) → whole x.fst ∧ ∀ (r_5 : (Bool × List Int) × Unit), WfZ r_5.fst ∧ True → r_5.fst = ic (↑(rv x.fst).den : Int) → whole x.snd.fst ∧ ∀ (r_6 : (Bool × List Int) × Unit), WfZ r_6.fst ∧ True → r_6.fst = ic (↑(rv x.snd.fst).den : Int) → (sh2 r_5.fst.snd ∧ sh2 r_6.fst.snd) ∧ ∀ (r_7 : (Bool × List Int) × Unit), WfZ r_7.fst ∧ True → r_7.fst = ic (iv r_5.fst * iv r_6.fst) → ((iv r_7.fst = (0 : Int) ∨ iv r_7.fst = (1 : Int)) ∧ sh2 r.fst.snd ∧ sh2 r_7.fst.snd) ∧ ∀ (r_8 : QQ × Unit), WfQ r_8.fst ∧ True → r_8.fst = rc (divI r.fst r_7.fst) → r_8.fst = rc (rv x.fst + rv x.snd.fst)) ∧ whole x.snd.fst ∧ ∀ (r_1 : QQ × Unit), WfQ r_1.fst ∧ True → r_1.fst = rc (rv x.snd.fst) → whole x.snd.fst ∧ ∀ (r_2 : (Bool × List Int) × Unit), WfZ r_2.fst ∧ True → r_2.fst = ic (↑(rv x.snd.fst).den : Int) → (sh2 r.fst.fst.snd ∧ sh2 r_2.fst.snd) ∧ ∀ (r_3 : (Bool × List Int) × Unit), WfZ r_3.fst ∧ True → r_3.fst = ic (iv r.fst.fst * iv r_2.fst) → whole x.fst ∧ ∀ (r : (Bool × List Int) × Unit), WfZ r.fst ∧ True → r.fst = ic (↑(rv x.fst).den : Int) → (sh2 r_1.fst.fst.snd ∧ sh2 r.fst.snd) ∧ ∀ (r_4 : (Bool × List Int) × Unit), WfZ r_4.fst ∧ True → r_4.fst = ic (iv r_1.fst.fst * iv r.fst) → (sh2 r_3.fst.snd ∧ sh2 r_4.fst.snd) ∧ ∀ (r : (Bool × List Int) × Unit), WfZ r.fst ∧ True → r.fst = ic (iv r_3.fst + iv r_4.fst) → whole x.fst ∧ ∀ (r_5 : (Bool × List Int) × Unit), WfZ r_5.fst ∧ True → r_5.fst = ic (↑(rv x.fst).den : Int) → whole x.snd.fst ∧ ∀ (r_6 : (Bool × List Int) × Unit), WfZ r_6.fst ∧ True → r_6.fst = ic (↑(rv x.snd.fst).den : Int) → (sh2 r_5.fst.snd ∧ sh2 r_6.fst.snd) ∧ ∀ (r_7 : (Bool × List Int) × Unit), WfZ r_7.fst ∧ True → r_7.fst = ic (iv r_5.fst * iv r_6.fst) → ((iv r_7.fst = (0 : Int) ∨ iv r_7.fst = (1 : Int)) ∧ sh2 r.fst.snd ∧ sh2 r_7.fst.snd) ∧ ∀ (r_8 : QQ × Unit), WfQ r_8.fst ∧ True → r_8.fst = rc (divI r.fst r_7.fst) → r_8.fst = rc (rv x.fst + rv x.snd.fst)) ∧ (whole x.snd.fst ∧ ∀ (r_1 : QQ × Unit), WfQ r_1.fst ∧ True → r_1.fst = rc (rv x.snd.fst) → whole x.snd.fst ∧ ∀ (r_2 : (Bool × List Int) × Unit), WfZ r_2.fst ∧ True → r_2.fst = ic (↑(rv x.snd.fst).den : Int) → (sh2 r.fst.fst.snd ∧ sh2 r_2.fst.snd) ∧ ∀ (r_3 : (Bool × List Int) × Unit), WfZ r_3.fst ∧ True → r_3.fst = ic (iv r.fst.fst * iv r_2.fst) → whole x.fst ∧ ∀ (r : (Bool × List Int) × Unit), WfZ r.fst ∧ True → r.fst = ic (↑(rv x.fst).den : Int) → (sh2 r_1.fst.fst.snd ∧ sh2 r.fst.snd) ∧ ∀ (r_4 : (Bool × List Int) × Unit), WfZ r_4.fst ∧ True → r_4.fst = ic (iv r_1.fst.fst * iv r.fst) → (sh2 r_3.fst.snd ∧ sh2 r_4.fst.snd) ∧ ∀ (r : (Bool × List Int) × Unit), WfZ r.fst ∧ True → r.fst = ic (iv r_3.fst + iv r_4.fst) → whole x.fst ∧ ∀ (r_5 : (Bool × List Int) × Unit), WfZ r_5.fst ∧ True → r_5.fst = ic (↑(rv x.fst).den : Int) → whole x.snd.fst ∧ ∀ (r_6 : (Bool × List Int) × Unit), WfZ r_6.fst ∧ True → r_6.fst = ic (↑(rv x.snd.fst).den : Int) → (sh2 r_5.fst.snd ∧ sh2 r_6.fst.snd) ∧ ∀ (r_7 : (Bool × List Int) × Unit), WfZ r_7.fst ∧ True → r_7.fst = ic (iv r_5.fst * iv r_6.fst) → ((iv r_7.fst = (0 : Int) ∨ iv r_7.fst = (1 : Int)) ∧ sh2 r.fst.snd ∧ sh2 r_7.fst.snd) ∧ ∀ (r_8 : QQ × Unit), WfQ r_8.fst ∧ True → r_8.fst = rc (divI r.fst r_7.fst) → r_8.fst = rc (rv x.fst + rv x.snd.fst)) ∧ whole x.snd.fst ∧ ∀ (r_1 : QQ × Unit), WfQ r_1.fst ∧ True → r_1.fst = rc (rv x.snd.fst) → whole x.snd.fst ∧ ∀ (r_2 : (Bool × List Int) × Unit), WfZ r_2.fst ∧ True → r_2.fst = ic (↑(rv x.snd.fst).den : Int) → (sh2 r.fst.fst.snd ∧ sh2 r_2.fst.snd) ∧ ∀ (r_3 : (Bool × List Int) × Unit), WfZ r_3.fst ∧ True → r_3.fst = ic (iv r.fst.fst * iv r_2.fst) → whole x.fst ∧ ∀ (r : (Bool × List Int) × Unit), WfZ r.fst ∧ True → r.fst = ic (↑(rv x.fst).den : Int) → (sh2 r_1.fst.fst.snd ∧ sh2 r.fst.snd) ∧ ∀ (r_4 : (Bool × List Int) × Unit), WfZ r_4.fst ∧ True → r_4.fst = ic (iv r_1.fst.fst * iv r.fst) → (sh2 r_3.fst.snd ∧ sh2 r_4.fst.snd) ∧ ∀ (r : (Bool × List Int) × Unit), WfZ r.fst ∧ True → r.fst = ic (iv r_3.fst + iv r_4.fst) → whole x.fst ∧ ∀ (r_5 : (Bool × List Int) × Unit), WfZ r_5.fst ∧ True → r_5.fst = ic (↑(rv x.fst).den : Int) → whole x.snd.fst ∧ ∀ (r_6 : (Bool × List Int) × Unit), WfZ r_6.fst ∧ True → r_6.fst = ic (↑(rv x.snd.fst).den : Int) → (sh2 r_5.fst.snd ∧ sh2 r_6.fst.snd) ∧ ∀ (r_7 : (Bool × List Int) × Unit), WfZ r_7.fst ∧ True → r_7.fst = ic (iv r_5.fst * iv r_6.fst) → ((iv r_7.fst = (0 : Int) ∨ iv r_7.fst = (1 : Int)) ∧ sh2 r.fst.snd ∧ sh2 r_7.fst.snd) ∧ ∀ (r_8 : QQ × Unit), WfQ r_8.fst ∧ True → r_8.fst = rc (divI r.fst r_7.fst) → r_8.fst = rc (rv x.fst + rv x.snd.fst)) ∧ ((whole x.fst ∧ ∀ (r : QQ × Unit), WfQ r.fst ∧ True → r.fst = rc (rv x.fst) → (whole x.snd.fst ∧ ∀ (r_1 : QQ × Unit), WfQ r_1.fst ∧ True → r_1.fst = rc (rv x.snd.fst) → whole x.snd.fst ∧ ∀ (r_2 : (Bool × List Int) × Unit), WfZ r_2.fst ∧ True → r_2.fst = ic (↑(rv x.snd.fst).den : Int) → (sh2 r.fst.fst.snd ∧ sh2 r_2.fst.snd) ∧ ∀ (r_3 : (Bool × List Int) × Unit), WfZ r_3.fst ∧ True → r_3.fst = ic (iv r.fst.fst * iv r_2.fst) → whole x.fst ∧ ∀ (r : (Bool × List Int) × Unit), WfZ r.fst ∧ True → r.fst = ic (↑(rv x.fst).den : Int) → (sh2 r_1.fst.fst.snd ∧ sh2 r.fst.snd) ∧ ∀ (r_4 : (Bool × List Int) × Unit), WfZ r_4.fst ∧ True → r_4.fst = ic (iv r_1.fst.fst * iv r.fst) → (sh2 r_3.fst.snd ∧ sh2 r_4.fst.snd) ∧ ∀ (r : (Bool × List Int) × Unit), WfZ r.fst ∧ True → r.fst = ic (iv r_3.fst + iv r_4.fst) → whole x.fst ∧ ∀ (r_5 : (Bool × List Int) × Unit), WfZ r_5.fst ∧ True → r_5.fst = ic (↑(rv x.fst).den : Int) → whole x.snd.fst ∧ ∀ (r_6 : (Bool × List Int) × Unit), WfZ r_6.fst ∧ True → r_6.fst = ic (↑(rv x.snd.fst).den : Int) → (sh2 r_5.fst.snd ∧ sh2 r_6.fst.snd) ∧ ∀ (r_7 : (Bool × List Int) × Unit), WfZ r_7.fst ∧ True → r_7.fst = ic (iv r_5.fst * iv r_6.fst) → ((iv r_7.fst = (0 : Int) ∨ iv r_7.fst = (1 : Int)) ∧ sh2 r.fst.snd ∧ sh2 r_7.fst.snd) ∧ ∀ (r_8 : QQ × Unit), WfQ r_8.fst ∧ True → r_8.fst = rc (divI r.fst r_7.fst) → r_8.fst = rc (rv x.fst + rv x.snd.fst)) ∧ whole x.snd.fst ∧ ∀ (r_1 : QQ × Unit), WfQ r_1.fst ∧ True → r_1.fst = rc (rv x.snd.fst) → whole x.snd.fst ∧ ∀ (r_2 : (Bool × List Int) × Unit), WfZ r_2.fst ∧ True → r_2.fst = ic (↑(rv x.snd.fst).den : Int) → (sh2 r.fst.fst.snd ∧ sh2 r_2.fst.snd) ∧ ∀ (r_3 : (Bool × List Int) × Unit), WfZ r_3.fst ∧ True → r_3.fst = ic (iv r.fst.fst * iv r_2.fst) → whole x.fst ∧ ∀ (r : (Bool × List Int) × Unit), WfZ r.fst ∧ True → r.fst = ic (↑(rv x.fst).den : Int) → (sh2 r_1.fst.fst.snd ∧ sh2 r.fst.snd) ∧ ∀ (r_4 : (Bool × List Int) × Unit), WfZ r_4.fst ∧ True → r_4.fst = ic (iv r_1.fst.fst * iv r.fst) → (sh2 r_3.fst.snd ∧ sh2 r_4.fst.snd) ∧ ∀ (r : (Bool × List Int) × Unit), WfZ r.fst ∧ True → r.fst = ic (iv r_3.fst + iv r_4.fst) → whole x.fst ∧ ∀ (r_5 : (Bool × List Int) × Unit), WfZ r_5.fst ∧ True → r_5.fst = ic (↑(rv x.fst).den : Int) → whole x.snd.fst ∧ ∀ (r_6 : (Bool × List Int) × Unit), WfZ r_6.fst ∧ True → r_6.fst = ic (↑(rv x.snd.fst).den : Int) → (sh2 r_5.fst.snd ∧ sh2 r_6.fst.snd) ∧ ∀ (r_7 : (Bool × List Int) × Unit), WfZ r_7.fst ∧ True → r_7.fst = ic (iv r_5.fst * iv r_6.fst) → ((iv r_7.fst = (0 : Int) ∨ iv r_7.fst = (1 : Int)) ∧ sh2 r.fst.snd ∧ sh2 r_7.fst.snd) ∧ ∀ (r_8 : QQ × Unit), WfQ r_8.fst ∧ True → r_8.fst = rc (divI r.fst r_7.fst) → r_8.fst = rc (rv x.fst + rv x.snd.fst)) ∧ whole x.fst ∧ ∀ (r : QQ × Unit), WfQ r.fst ∧ True → r.fst = rc (rv x.fst) → whole x.snd.fst ∧ ∀ (r_1 : QQ × Unit), WfQ r_1.fst ∧ True → r_1.fst = rc (rv x.snd.fst) → whole x.snd.fst ∧ ∀ (r_2 : (Bool × List Int) × Unit), WfZ r_2.fst ∧ True → r_2.fst = ic (↑(rv x.snd.fst).den : Int) → (sh2 r.fst.fst.snd ∧ sh2 r_2.fst.snd) ∧ ∀ (r_3 : (Bool × List Int) × Unit), WfZ r_3.fst ∧ True → r_3.fst = ic (iv r.fst.fst * iv r_2.fst) → whole x.fst ∧ ∀ (r : (Bool × List Int) × Unit), WfZ r.fst ∧ True → r.fst = ic (↑(rv x.fst).den : Int) → (sh2 r_1.fst.fst.snd ∧ sh2 r.fst.snd) ∧ ∀ (r_4 : (Bool × List Int) × Unit), WfZ r_4.fst ∧ True → r_4.fst = ic (iv r_1.fst.fst * iv r.fst) → (sh2 r_3.fst.snd ∧ sh2 r_4.fst.snd) ∧ ∀ (r : (Bool × List Int) × Unit), WfZ r.fst ∧ True → r.fst = ic (iv r_3.fst + iv r_4.fst) → whole x.fst ∧ ∀ (r_5 : (Bool × List Int) × Unit), WfZ r_5.fst ∧ True → r_5.fst = ic (↑(rv x.fst).den : Int) → whole x.snd.fst ∧ ∀ (r_6 : (Bool × List Int) × Unit), WfZ r_6.fst ∧ True → r_6.fst = ic (↑(rv x.snd.fst).den : Int) → (sh2 r_5.fst.snd ∧ sh2 r_6.fst.snd) ∧ ∀ (r_7 : (Bool × List Int) × Unit), WfZ r_7.fst ∧ True → r_7.fst = ic (iv r_5.fst * iv r_6.fst) → ((iv r_7.fst = (0 : Int) ∨ iv r_7.fst = (1 : Int)) ∧ sh2 r.fst.snd ∧ sh2 r_7.fst.snd) ∧ ∀ (r_8 : QQ × Unit), WfQ r_8.fst ∧ True → r_8.fst = rc (divI r.fst r_7.fst) → r_8.fst = rc (rv x.fst + rv x.snd.fst)) ∧ (whole x.fst ∧ ∀ (r : QQ × Unit), WfQ r.fst ∧ True → r.fst = rc (rv x.fst) → (whole x.snd.fst ∧ ∀ (r_1 : QQ × Unit), WfQ r_1.fst ∧ True → r_1.fst = rc (rv x.snd.fst) → whole x.snd.fst ∧ ∀ (r_2 : (Bool × List Int) × Unit), WfZ r_2.fst ∧ True → r_2.fst = ic (↑(rv x.snd.fst).den : Int) → (sh2 r.fst.fst.snd ∧ sh2 r_2.fst.snd) ∧ ∀ (r_3 : (Bool × List Int) × Unit), WfZ r_3.fst ∧ True → r_3.fst = ic (iv r.fst.fst * iv r_2.fst) → whole x.fst ∧ ∀ (r : (Bool × List Int) × Unit), WfZ r.fst ∧ True → r.fst = ic (↑(rv x.fst).den : Int) → (sh2 r_1.fst.fst.snd ∧ sh2 r.fst.snd) ∧ ∀ (r_4 : (Bool × List Int) × Unit), WfZ r_4.fst ∧ True → r_4.fst = ic (iv r_1.fst.fst * iv r.fst) → (sh2 r_3.fst.snd ∧ sh2 r_4.fst.snd) ∧ ∀ (r : (Bool × List Int) × Unit), WfZ r.fst ∧ True → r.fst = ic (iv r_3.fst + iv r_4.fst) → whole x.fst ∧ ∀ (r_5 : (Bool × List Int) × Unit), WfZ r_5.fst ∧ True → r_5.fst = ic (↑(rv x.fst).den : Int) → whole x.snd.fst ∧ ∀ (r_6 : (Bool × List Int) × Unit), WfZ r_6.fst ∧ True → r_6.fst = ic (↑(rv x.snd.fst).den : Int) → (sh2 r_5.fst.snd ∧ sh2 r_6.fst.snd) ∧ ∀ (r_7 : (Bool × List Int) × Unit), WfZ r_7.fst ∧ True → r_7.fst = ic (iv r_5.fst * iv r_6.fst) → ((iv r_7.fst = (0 : Int) ∨ iv r_7.fst = (1 : Int)) ∧ sh2 r.fst.snd ∧ sh2 r_7.fst.snd) ∧ ∀ (r_8 : QQ × Unit), WfQ r_8.fst ∧ True → r_8.fst = rc (divI r.fst r_7.fst) → r_8.fst = rc (rv x.fst + rv x.snd.fst)) ∧ whole x.snd.fst ∧ ∀ (r_1 : QQ × Unit), WfQ r_1.fst ∧ True → r_1.fst = rc (rv x.snd.fst) → whole x.snd.fst ∧ ∀ (r_2 : (Bool × List Int) × Unit), WfZ r_2.fst ∧ True → r_2.fst = ic (↑(rv x.snd.fst).den : Int) → (sh2 r.fst.fst.snd ∧ sh2 r_2.fst.snd) ∧ ∀ (r_3 : (Bool × List Int) × Unit), WfZ r_3.fst ∧ True → r_3.fst = ic (iv r.fst.fst * iv r_2.fst) → whole x.fst ∧ ∀ (r : (Bool × List Int) × Unit), WfZ r.fst ∧ True → r.fst = ic (↑(rv x.fst).den : Int) → (sh2 r_1.fst.fst.snd ∧ sh2 r.fst.snd) ∧ ∀ (r_4 : (Bool × List Int) × Unit), WfZ r_4.fst ∧ True → r_4.fst = ic (iv r_1.fst.fst * iv r.fst) → (sh2 r_3.fst.snd ∧ sh2 r_4.fst.snd) ∧ ∀ (r : (Bool × List Int) × Unit), WfZ r.fst ∧ True → r.fst = ic (iv r_3.fst + iv r_4.fst) → whole x.fst ∧ ∀ (r_5 : (Bool × List Int) × Unit), WfZ r_5.fst ∧ True → r_5.fst = ic (↑(rv x.fst).den : Int) → whole x.snd.fst ∧ ∀ (r_6 : (Bool × List Int) × Unit), WfZ r_6.fst ∧ True → r_6.fst = ic (↑(rv x.snd.fst).den : Int) → (sh2 r_5.fst.snd ∧ sh2 r_6.fst.snd) ∧ ∀ (r_7 : (Bool × List Int) × Unit), WfZ r_7.fst ∧ True → r_7.fst = ic (iv r_5.fst * iv r_6.fst) → ((iv r_7.fst = (0 : Int) ∨ iv r_7.fst = (1 : Int)) ∧ sh2 r.fst.snd ∧ sh2 r_7.fst.snd) ∧ ∀ (r_8 : QQ × Unit), WfQ r_8.fst ∧ True → r_8.fst = rc (divI r.fst r_7.fst) → r_8.fst = rc (rv x.fst + rv x.snd.fst)) ∧ whole x.fst ∧ ∀ (r : QQ × Unit), WfQ r.fst ∧ True → r.fst = rc (rv x.fst) → whole x.snd.fst ∧ ∀ (r_1 : QQ × Unit), WfQ r_1.fst ∧ True → r_1.fst = rc (rv x.snd.fst) → whole x.snd.fst ∧ ∀ (r_2 : (Bool × List Int) × Unit), WfZ r_2.fst ∧ True → r_2.fst = ic (↑(rv x.snd.fst).den : Int) → (sh2 r.fst.fst.snd ∧ sh2 r_2.fst.snd) ∧ ∀ (r_3 : (Bool × List Int) × Unit), WfZ r_3.fst ∧ True → r_3.fst = ic (iv r.fst.fst * iv r_2.fst) → whole x.fst ∧ ∀ (r : (Bool × List Int) × Unit), WfZ r.fst ∧ True → r.fst = ic (↑(rv x.fst).den : Int) → (sh2 r_1.fst.fst.snd ∧ sh2 r.fst.snd) ∧ ∀ (r_4 : (Bool × List Int) × Unit), WfZ r_4.fst ∧ True → r_4.fst = ic (iv r_1.fst.fst * iv r.fst) → (sh2 r_3.fst.snd ∧ sh2 r_4.fst.snd) ∧ ∀ (r : (Bool × List Int) × Unit), WfZ r.fst ∧ True → r.fst = ic (iv r_3.fst + iv r_4.fst) → whole x.fst ∧ ∀ (r_5 : (Bool × List Int) × Unit), WfZ r_5.fst ∧ True → r_5.fst = ic (↑(rv x.fst).den : Int) → whole x.snd.fst ∧ ∀ (r_6 : (Bool × List Int) × Unit), WfZ r_6.fst ∧ True → r_6.fst = ic (↑(rv x.snd.fst).den : Int) → (sh2 r_5.fst.snd ∧ sh2 r_6.fst.snd) ∧ ∀ (r_7 : (Bool × List Int) × Unit), WfZ r_7.fst ∧ True → r_7.fst = ic (iv r_5.fst * iv r_6.fst) → ((iv r_7.fst = (0 : Int) ∨ iv r_7.fst = (1 : Int)) ∧ sh2 r.fst.snd ∧ sh2 r_7.fst.snd) ∧ ∀ (r_8 : QQ × Unit), WfQ r_8.fst ∧ True → r_8.fst = rc (divI r.fst r_7.fst) → r_8.fst = rc (rv x.fst + rv x.snd.fst)
theorem vc_r03_Add_eq (x : dens s_r03_Add.args) : semF ⟨Tryz.prog, tys⟩ sp_r03_Add an_r03_Add s_r03_Add Tryz.f19.results.toList (Tryz.f19.body.getD .skip) x = vc_r03_Add x := by kernel_rfl
theorem m_r03_Add (hsp : SpOk Tryz.prog sp_r03_Add) (h : ∀ x, awf s_r03_Add.args x → s_r03_Add.pre x → vc_r03_Add x) : Meets Tryz.prog 19 s_r03_Add := meets_vc (cx := ⟨Tryz.prog, tys⟩) (sp := sp_r03_Add) (an := an_r03_Add) (s := s_r03_Add) (fn := Tryz.f19) (c := Tryz.f19.body.getD .skip) Tryz.func19 (by kernel_rfl) (Nat.le_of_ble_eq_true (by kernel_rfl)) (by kernel_rfl) tys_ok hsp vc_r03_Add_eq h
end Go.Proofs.YtppgpdigopffbaaGreat
