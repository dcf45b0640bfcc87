/- The walks of the automaton, part 6. -/
import Derived.Test.YtedfiemhfpcggaaW5
import Derived.Test.YtedfiemhfpcggaaData5
namespace Go.Proofs.Ytedfiemhfpcggaa
open Go.Gw Go.RowKit
set_option maxHeartbeats 4000000 in
set_option maxRecDepth 100000 in
theorem awake_ret (w : World) : Ret Try.prog 11 [] w (fun v w' => v = .bool true ∧ Ext w w') := by
  have hs_exU : soundB exU = true := by decide
  refine calls_of_go Try.func11 rfl (by show _ ≤ _; exact Nat.le_of_ble_eq_true rfl) (by kernel_rfl) _ (res1 rfl) ?_
  have hx : Ext w w := Ext.refl w
  refine go_seq ?_
  refine go_region ?_
  refine go_y (v := .bool false) (y_assign) rfl ?_
  refine go_ops_nil ?_
  refine go_seq ?_
  refine go_region ?_
  refine go_c (enters_func ty_en_30 rfl) (example_ret _) rfl ?_
  rintro _ w1 ⟨rfl, hx2⟩
  replace hx := hx.trans hx2
  refine go_alloc (.agg #[.string ⟨#[]⟩, .int .i64 0, .int .i64 0, .int .i64 0, .slice none 0 0, .int .i64 0, .int .i64 0, .int .i64 0, .int .i64 0, .int .i64 0, .int .i64 0, .int .i64 0, .int .i64 0, .int .i64 0, .int .i64 0, .int .i64 0, .int .i64 0, .int .i64 0, .slice none 0 0, .int .i64 0, .int .i64 0, .int .i64 0]) (#[.string ⟨#[]⟩, .int .i64 0, .int .i64 0, .int .i64 0, .slice none 0 0, .int .i64 0, .int .i64 0, .int .i64 0, .int .i64 0, .int .i64 0, .int .i64 0, .int .i64 0, .int .i64 0, .int .i64 0, .int .i64 0, .int .i64 0, .int .i64 0, .int .i64 0, .slice none 0 0, .int .i64 0, .int .i64 0, .int .i64 0]) ty_ze_25 rfl rfl ?_
  intro w3 b4 hx5 hn6 hb7
  replace hn6 := Nat.le_trans hx.size hn6
  replace hx := hx.trans hx5
  refine go_store exU.cells.toList exU.cells rfl rfl rfl ty_sz_25 rfl hb7 (by show _ ≤ _; exact Nat.le_of_ble_eq_true rfl) (by repeat (first | exact one_nil | refine one_cons (by first | rfl | assumption) ?_)) (by kernel_rfl) rfl ?_
  intro w8 hch9 hb7'
  replace hx := hx.chg hch9 hn6
  replace hb7 := hb7'
  refine go_ops_nil ?_
  refine go_seq ?_
  refine go_region ?_
  refine go_y (v := .agg exU.cells) (y_load_blk rfl hb7 ty_ag_25 rfl) rfl ?_
  refine go_c (enters_func ty_en_9 rfl) (caps_ret exU hs_exU _) rfl ?_
  rintro _ w10 ⟨rfl, hx11⟩
  replace hb7 := hb7.ext hx11
  replace hx := hx.trans hx11
  refine go_y (v := .tuple #[.int .i64 (capOff exU), .int .i64 (capOn exU)]) (y_move) rfl ?_
  refine go_y (v := .int .i64 (capOff exU)) (y_extract rfl rfl) rfl ?_
  refine go_y (v := .int .i64 (capOn exU)) (y_extract rfl rfl) rfl ?_
  refine go_y (v := .int .i64 (capOff exU)) (y_assign) rfl ?_
  refine go_y (v := .int .i64 (capOn exU)) (y_assign) rfl ?_
  refine go_ops_nil ?_
  refine go_seq ?_
  refine go_region ?_
  refine go_y (v := .agg exU.cells) (y_load_blk rfl hb7 ty_ag_25 rfl) rfl ?_
  refine go_y (v := .agg #[.int .i64 0, .int .i64 1]) (y_build (#[.int .i64 0, .int .i64 1]) ty_ze_27 ty_pl_27 (by kernel_rfl)) rfl ?_
  refine go_c (enters_func ty_en_21 rfl) (next_ret exU 0 1 (by omega) (by omega) _) rfl ?_
  rintro v12 w14 ⟨hs13, hx15⟩
  replace hb7 := hb7.ext hx15
  replace hx := hx.trans hx15
  have hnlv12 := nextF_len exU 0 1
  refine go_y (v := v12) (y_assign) rfl ?_
  refine go_ops_nil ?_
  refine go_seq ?_
  refine go_region ?_
  refine go_y (v := .agg exU.cells) (y_load_blk rfl hb7 ty_ag_25 rfl) rfl ?_
  refine go_lit [.int .i64 1, .int .i64 2, .int .i64 2, .int .i64 0] (#[.int .i64 1, .int .i64 2, .int .i64 2, .int .i64 0]) ty_sl_23 ty_ze_3 (by decide) (by decide) rfl (by intro x hx_; simp only [List.mem_cons, List.not_mem_nil, or_false] at hx_; rcases hx_ with rfl | rfl | rfl | rfl <;> rfl) rfl rfl rfl ?_
  intro w16 b17 hx18 hn19 hb20
  have hd21 : b4 ≠ b17 := by have := hb7.lt; omega
  replace hn19 := Nat.le_trans hx.size hn19
  replace hb7 := hb7.ext hx18
  replace hs13 := hs13.ext hx18
  replace hx := hx.trans hx18
  refine go_c (enters_func ty_en_26 rfl) (Ret.mono (walk_ret exU [] [1, 2, 2, 0] hs_exU (.slice (some ⟨b17, 0, none⟩) 4 4) _ (SlR.nil _ _ _) (by decide) (slr_lit (f := ic) [1, 2, 2, 0] hb20 rfl (fun _ => rfl) (by decide)) (by decide)) (fun v w' h => (⟨walk_ex1 h.1, h.2⟩ : (∃ vs, v = .tuple #[vs, .int .i64 4, .int .i64 0]) ∧ Ext _ w'))) rfl ?_
  rintro _ w23 ⟨⟨vs22, rfl⟩, hx24⟩
  replace hb7 := hb7.ext hx24
  replace hs13 := hs13.ext hx24
  replace hb20 := hb20.ext hx24
  replace hx := hx.trans hx24
  refine go_y (v := .tuple #[vs22, .int .i64 4, .int .i64 0]) (y_move) rfl ?_
  refine go_y (v := vs22) (y_extract rfl rfl) rfl ?_
  refine go_y (v := .int .i64 4) (y_extract rfl rfl) rfl ?_
  refine go_y (v := .int .i64 0) (y_extract rfl rfl) rfl ?_
  refine go_y (v := vs22) (y_assign) rfl ?_
  refine go_y (v := .int .i64 4) (y_assign) rfl ?_
  refine go_y (v := .int .i64 0) (y_assign) rfl ?_
  refine go_ops_nil ?_
  refine go_seq ?_
  refine go_region ?_
  refine go_y (v := .agg exU.cells) (y_load_blk rfl hb7 ty_ag_25 rfl) rfl ?_
  refine go_lit [.int .i64 2] (#[.int .i64 2]) ty_sl_23 ty_ze_3 (by decide) (by decide) rfl (by intro x hx_; simp only [List.mem_cons, List.not_mem_nil, or_false] at hx_; subst hx_; rfl) rfl rfl rfl ?_
  intro w25 b26 hx27 hn28 hb29
  have hd30 : b4 ≠ b26 := by have := hb7.lt; omega
  have hd31 : b17 ≠ b26 := by have := hb20.lt; omega
  replace hn28 := Nat.le_trans hx.size hn28
  replace hb7 := hb7.ext hx27
  replace hs13 := hs13.ext hx27
  replace hb20 := hb20.ext hx27
  replace hx := hx.trans hx27
  refine go_c (enters_func ty_en_26 rfl) (Ret.mono (walk_ret exU [] [2] hs_exU (.slice (some ⟨b26, 0, none⟩) 1 1) _ (SlR.nil _ _ _) (by decide) (slr_lit (f := ic) [2] hb29 rfl (fun _ => rfl) (by decide)) (by decide)) (fun v w' h => (⟨walk_ex2 h.1, h.2⟩ : v = .tuple #[.slice none 0 0, .int .i64 0, .int .i64 16] ∧ Ext _ w'))) rfl ?_
  rintro _ w33 ⟨rfl, hx34⟩
  replace hb7 := hb7.ext hx34
  replace hs13 := hs13.ext hx34
  replace hb20 := hb20.ext hx34
  replace hb29 := hb29.ext hx34
  replace hx := hx.trans hx34
  refine go_y (v := .tuple #[.slice none 0 0, .int .i64 0, .int .i64 16]) (y_move) rfl ?_
  refine go_y (v := .slice none 0 0) (y_extract rfl rfl) rfl ?_
  refine go_y (v := .int .i64 0) (y_extract rfl rfl) rfl ?_
  refine go_y (v := .int .i64 16) (y_extract rfl rfl) rfl ?_
  refine go_y (v := .slice none 0 0) (y_assign) rfl ?_
  refine go_y (v := .int .i64 0) (y_assign) rfl ?_
  refine go_y (v := .int .i64 16) (y_assign) rfl ?_
  refine go_ops_nil ?_
  refine go_seq ?_
  refine go_drawn mixed [7, 20, 25, 29] [] (.p 0 (.p 1 (.p 2 (.p 3 (.p 4 (.p 5 (.p 6 (.q 7 (.e 8 (.p 9 (.p 10 (.p 11 (.p 12 (.p 13 (.p 14 (.p 15 (.p 16 (.p 17 (.p 18 (.p 19 (.q 20 (.p 21 (.p 22 (.p 23 (.p 24 (.q 25 (.p 26 (.p 27 (.p 28 (.q 29 (.e 30 (.p 31 (.p 32 (.p 33 (.p 34 (.p 35 (.p 36 (.p 37 (.p 38 (.p 39 (.p 40 (.p 41 (.p 42 (.p 43 (.p 44 (.p 45 (.p 46 (.p 47 (.p 48 (.p 49 .done)))))))))))))))))))))))))))))))))))))))))))))))))) (by kernel_rfl) ?_
  intro w35 hx36
  replace hb7 := hb7.ext hx36
  replace hs13 := hs13.ext hx36
  replace hb20 := hb20.ext hx36
  replace hb29 := hb29.ext hx36
  replace hx := hx.trans hx36
  refine go_dp (v := .int .i64 (capOff exU)) rfl (fun w' => y_move) rfl ?_
  refine go_dp (v := .bool true) rfl (fun w' => y_dec_t (c := ((capOff exU) : Int) = 3) (y_eq rfl rfl) (by decide)) rfl ?_
  refine go_dp (v := .bool true) rfl (fun w' => y_move) rfl ?_
  refine go_dp (v := .int .i64 (capOn exU)) rfl (fun w' => y_move) (on_of (t := 36) rfl rfl) ?_
  refine go_dp (v := .bool true) rfl (fun w' => y_dec_t (c := ((capOn exU) : Int) = 2) (y_eq rfl rfl) (by decide)) (on_of (t := 36) rfl rfl) ?_
  refine go_dp (v := .bool true) rfl (fun w' => y_pick_t rfl) rfl ?_
  refine go_dp (v := .bool true) rfl (fun w' => y_move) rfl ?_
  refine go_dq (v := .agg exU.cells) rfl (fun w' hw' => y_load_blk rfl (hb7.ext hw') ty_ag_25 rfl) (on_of (t := 40) rfl rfl) ?_
  refine go_de rfl rfl ?_
  refine go_c (enters_func ty_en_17 rfl) (states_ret exU _) (on_of (t := 40) rfl rfl) ?_
  rintro v37 w39 ⟨hs38, hx40⟩
  refine go_ops_nil ?_
  refine go_chk hx40 ?_
  refine go_dp (v := .int .i64 ((statesF exU).length : Int)) rfl (fun w' => y_len_sl hs38 rfl ty_sl_35 _) (on_of (t := 40) rfl rfl) ?_
  refine go_dp (v := .bool true) rfl (fun w' => y_dec_t (c := (((statesF exU).length : Int) : Int) = 6) (y_eq rfl rfl) (by decide)) (on_of (t := 40) rfl rfl) ?_
  refine go_dp (v := .bool true) rfl (fun w' => y_pick_t rfl) rfl ?_
  refine go_dp (v := .bool true) rfl (fun w' => y_move) rfl ?_
  refine go_dp (v := v12) rfl (fun w' => y_move) (on_of (t := 46) rfl rfl) ?_
  refine go_dp (v := .int .i64 ((nextF exU 0 1).length : Int)) rfl (fun w' => y_len_sl hs13 rfl ty_sl_35 _) (on_of (t := 46) rfl rfl) ?_
  refine go_dp (v := .bool true) rfl (fun w' => y_dec_t (c := (((nextF exU 0 1).length : Int) : Int) = 2) (y_eq rfl rfl) (by decide)) (on_of (t := 46) rfl rfl) ?_
  refine go_dp (v := .bool true) rfl (fun w' => y_pick_t rfl) rfl ?_
  refine go_dp (v := .bool true) rfl (fun w' => y_move) rfl ?_
  refine go_dp (v := v12) rfl (fun w' => y_move) (on_of (t := 51) rfl rfl) ?_
  obtain ⟨bb43, oo44, cc45, hv46, hc47⟩ := hs13.at_ (show (nextF exU 0 1)[1]? = some ((1, 1) : St) from by decide)
  refine go_dp (v := .pointer (some ⟨bb43, oo44 + 1 * 2, none⟩)) rfl (fun w' => y_idxn 1 rfl hv46 rfl (by omega) ty_sl_35 (el_lt (show (nextF exU 0 1)[1]? = some ((1, 1) : St) from by decide))) (on_of (t := 51) rfl rfl) ?_
  refine go_dq (v := .agg #[.int .i64 (((1, 1) : St).1), .int .i64 (((1, 1) : St).2)]) rfl (fun w' hw' => y_load_el rfl (hc47.ext hw') ty_ag_27 rfl) (on_of (t := 51) rfl rfl) ?_
  refine go_dp (v := .agg #[.int .i64 1, .int .i64 1]) rfl (fun w' => y_build (#[.int .i64 1, .int .i64 1]) ty_ze_27 ty_pl_27 (by kernel_rfl)) (on_of (t := 51) rfl rfl) ?_
  refine go_dp (v := .bool true) rfl (fun w' => y_dec_t (c := (((1, 1) : St).1 = 1 ∧ ((1, 1) : St).2 = 1)) (y_eq2 rfl rfl ty_e2_27) (by decide)) (on_of (t := 51) rfl rfl) ?_
  refine go_dp (v := .bool true) rfl (fun w' => y_pick_t rfl) rfl ?_
  refine go_dp (v := .bool true) rfl (fun w' => y_move) rfl ?_
  refine go_dq (v := .agg exU.cells) rfl (fun w' hw' => y_load_blk rfl (hb7.ext hw') ty_ag_25 rfl) (on_of (t := 58) rfl rfl) ?_
  refine go_dp (v := .agg #[.int .i64 0, .int .i64 3]) rfl (fun w' => y_build (#[.int .i64 0, .int .i64 3]) ty_ze_27 ty_pl_27 (by kernel_rfl)) (on_of (t := 58) rfl rfl) ?_
  refine go_dp (v := v12) rfl (fun w' => y_move) (on_of (t := 58) rfl rfl) ?_
  obtain ⟨bb50, oo51, cc52, hv53, hc54⟩ := hs13.at_ (show (nextF exU 0 1)[1]? = some ((1, 1) : St) from by decide)
  refine go_dp (v := .pointer (some ⟨bb50, oo51 + 1 * 2, none⟩)) rfl (fun w' => y_idxn 1 rfl hv53 rfl (by omega) ty_sl_35 (el_lt (show (nextF exU 0 1)[1]? = some ((1, 1) : St) from by decide))) (on_of (t := 58) rfl rfl) ?_
  refine go_dq (v := .agg #[.int .i64 (((1, 1) : St).1), .int .i64 (((1, 1) : St).2)]) rfl (fun w' hw' => y_load_el rfl (hc54.ext hw') ty_ag_27 rfl) (on_of (t := 58) rfl rfl) ?_
  refine go_de rfl rfl ?_
  refine go_c (enters_func ty_en_23 rfl) (cost_ret exU 0 3 (((1, 1) : St).1) (((1, 1) : St).2) (by omega) (by omega) _) (on_of (t := 58) rfl rfl) ?_
  rintro _ w55 ⟨rfl, hx56⟩
  replace hs38 := hs38.ext hx56
  have hx56s := hx40.trans hx56
  refine go_ops_nil ?_
  refine go_chk hx56s ?_
  refine go_dp (v := .bool true) rfl (fun w' => y_dec_t (c := ((costF exU 0 3 (((1, 1) : St).1, ((1, 1) : St).2)) : Int) = 9) (y_eq rfl rfl) (by decide)) (on_of (t := 58) rfl rfl) ?_
  refine go_dp (v := .bool true) rfl (fun w' => y_pick_t rfl) rfl ?_
  refine go_dp (v := .bool true) rfl (fun w' => y_move) rfl ?_
  refine go_dp (v := .int .i64 4) rfl (fun w' => y_move) (on_of (t := 67) rfl rfl) ?_
  refine go_dp (v := .bool true) rfl (fun w' => y_dec_t (c := (4 : Int) = 4) (y_eq rfl rfl) (by decide)) (on_of (t := 67) rfl rfl) ?_
  refine go_dp (v := .bool true) rfl (fun w' => y_pick_t rfl) rfl ?_
  refine go_dp (v := .bool true) rfl (fun w' => y_move) rfl ?_
  refine go_dp (v := .int .i64 0) rfl (fun w' => y_move) (on_of (t := 71) rfl rfl) ?_
  refine go_dp (v := .bool true) rfl (fun w' => y_dec_t (c := (0 : Int) = 0) (y_eq rfl rfl) (by decide)) (on_of (t := 71) rfl rfl) ?_
  refine go_dp (v := .bool true) rfl (fun w' => y_pick_t rfl) rfl ?_
  refine go_dp (v := .bool true) rfl (fun w' => y_move) rfl ?_
  refine go_dp (v := .int .i64 0) rfl (fun w' => y_move) (on_of (t := 75) rfl rfl) ?_
  refine go_dp (v := .bool true) rfl (fun w' => y_dec_t (c := (0 : Int) = 0) (y_eq rfl rfl) (by decide)) (on_of (t := 75) rfl rfl) ?_
  refine go_dp (v := .bool true) rfl (fun w' => y_pick_t rfl) rfl ?_
  refine go_dp (v := .bool true) rfl (fun w' => y_move) rfl ?_
  refine go_dp (v := .int .i64 16) rfl (fun w' => y_move) (on_of (t := 79) rfl rfl) ?_
  refine go_dp (v := .bool true) rfl (fun w' => y_dec_t (c := (16 : Int) = 16) (y_eq rfl rfl) (by decide)) (on_of (t := 79) rfl rfl) ?_
  refine go_dp (v := .bool true) rfl (fun w' => y_pick_t rfl) rfl ?_
  refine go_dp (v := .bool true) rfl (fun w' => y_assign) rfl ?_
  refine go_dops_done ?_
  replace hb7 := hb7.ext hx56s
  replace hs13 := hs13.ext hx56s
  replace hb20 := hb20.ext hx56s
  replace hb29 := hb29.ext hx56s
  replace hc47 := hc47.ext hx56s
  replace hc54 := hc54.ext hx56s
  replace hx := hx.trans hx56s
  refine go_ret ?_
  exact ⟨rfl, hx⟩

set_option maxHeartbeats 4000000 in
set_option maxRecDepth 100000 in
theorem lnear_true (u : U) (aw : List Int) (hok : u.ok) (w : World) (hl : SlR w 1 ic u.away aw) (hlen : aw.length ≤ 40) : Ret Try.prog 8 [.agg u.cells, .bool true] w (fun v w' => (∃ (u2 : U) (aw2 : List Int), v = .agg u2.cells ∧ u2.ok ∧ SlR w' 1 ic u2.away aw2 ∧ aw2.length ≤ 40) ∧ Ext w w') := by
  refine calls_of_go Try.func8 rfl (by show _ ≤ _; exact Nat.le_of_ble_eq_true rfl) (by kernel_rfl) _ (resC rfl ty_ag_25) ?_
  have hx : Ext w w := Ext.refl w
  refine go_seq ?_
  refine go_region ?_
  refine go_box (.agg u.cells) u.cells rfl rfl rfl ?_
  intro w1 b2 hx3 hn4 hb5
  replace hn4 := Nat.le_trans hx.size hn4
  replace hx := hx.trans hx3
  refine go_alloc (.agg #[.string ⟨#[]⟩, .int .i64 0, .int .i64 0, .int .i64 0, .slice none 0 0, .int .i64 0, .int .i64 0, .int .i64 0, .int .i64 0, .int .i64 0, .int .i64 0, .int .i64 0, .int .i64 0, .int .i64 0, .int .i64 0, .int .i64 0, .int .i64 0, .int .i64 0, .slice none 0 0, .int .i64 0, .int .i64 0, .int .i64 0]) (#[.string ⟨#[]⟩, .int .i64 0, .int .i64 0, .int .i64 0, .slice none 0 0, .int .i64 0, .int .i64 0, .int .i64 0, .int .i64 0, .int .i64 0, .int .i64 0, .int .i64 0, .int .i64 0, .int .i64 0, .int .i64 0, .int .i64 0, .int .i64 0, .int .i64 0, .slice none 0 0, .int .i64 0, .int .i64 0, .int .i64 0]) ty_ze_25 rfl rfl ?_
  intro w6 b7 hx8 hn9 hb10
  have hd11 : b2 ≠ b7 := by have := hb5.lt; omega
  replace hn9 := Nat.le_trans hx.size hn9
  replace hb5 := hb5.ext hx8
  replace hx := hx.trans hx8
  refine go_ops_nil ?_
  refine go_seq ?_
  refine go_seq ?_
  refine go_region ?_
  refine go_y (v := .bool true) (y_move) rfl ?_
  refine go_ops_nil ?_
  refine go_cond_true rfl ?_
  refine go_seq ?_
  refine go_region ?_
  refine go_y (v := .agg u.cells) (y_load_blk rfl hb5 ty_ag_25 rfl) rfl ?_
  have hlt15 := hb5.lt
  have hlt16 := hb10.lt
  refine go_c (enters_func ty_en_25 rfl) (near_ret u aw hok _ (hl.ext hx) (by omega)) rfl ?_
  rintro _ w17 ⟨⟨av12, rfl, hsa13, hfr14⟩, hx18⟩
  replace hb5 := hb5.ext hx18
  replace hb10 := hb10.ext hx18
  replace hx := hx.trans hx18
  have hd19 : ∀ g, Value.ownBlock av12 = some g → g ≠ b2 := fun g hg => by have := hfr14 g hg; omega
  have hd20 : ∀ g, Value.ownBlock av12 = some g → g ≠ b7 := fun g hg => by have := hfr14 g hg; omega
  have hok2 := near_ok hok hsa13
  obtain ⟨ok1, ok2, ok3, ok4, ok5, ok6, ok7, ok8, ok9, ok10, ok11, ok12, ok13, ok14⟩ := hok2
  refine go_store (((nearU u av12).cells).toList) ((nearU u av12).cells) rfl rfl rfl ty_sz_25 rfl hb10 (by show _ ≤ _; exact Nat.le_of_ble_eq_true rfl) (by repeat (first | exact one_nil | refine one_cons (by first | rfl | assumption) ?_)) (by kernel_rfl) rfl ?_
  intro w21 hch22 hb10'
  replace hb5 := hb5.chg hch22 (hd11)
  replace hsa13 := hsa13.chg hch22 hd20
  replace hx := hx.chg hch22 hn9
  replace hb10 := hb10'
  refine go_ops_nil ?_
  refine go_ret ?_
  exact ⟨_, ((nearU u av12).cells).toList, rfl, rfl, hb10.cellsAt, ⟨nearU u av12, nearA aw, rfl, near_ok hok hsa13, hsa13, near_len aw⟩, hx⟩

set_option maxHeartbeats 4000000 in
set_option maxRecDepth 100000 in
theorem lnear_false (u : U) (aw : List Int) (hok : u.ok) (w : World) (hl : SlR w 1 ic u.away aw) (hlen : aw.length ≤ 40) : Ret Try.prog 8 [.agg u.cells, .bool false] w (fun v w' => (∃ (u2 : U) (aw2 : List Int), v = .agg u2.cells ∧ u2.ok ∧ SlR w' 1 ic u2.away aw2 ∧ aw2.length ≤ 40) ∧ Ext w w') := by
  have hok0 := hok
  obtain ⟨ok1, ok2, ok3, ok4, ok5, ok6, ok7, ok8, ok9, ok10, ok11, ok12, ok13, ok14⟩ := hok
  refine calls_of_go Try.func8 rfl (by show _ ≤ _; exact Nat.le_of_ble_eq_true rfl) (by kernel_rfl) _ (resC rfl ty_ag_25) ?_
  have hx : Ext w w := Ext.refl w
  refine go_seq ?_
  refine go_region ?_
  refine go_box (.agg u.cells) u.cells rfl rfl rfl ?_
  intro w1 b2 hx3 hn4 hb5
  replace hn4 := Nat.le_trans hx.size hn4
  replace hx := hx.trans hx3
  refine go_alloc (.agg #[.string ⟨#[]⟩, .int .i64 0, .int .i64 0, .int .i64 0, .slice none 0 0, .int .i64 0, .int .i64 0, .int .i64 0, .int .i64 0, .int .i64 0, .int .i64 0, .int .i64 0, .int .i64 0, .int .i64 0, .int .i64 0, .int .i64 0, .int .i64 0, .int .i64 0, .slice none 0 0, .int .i64 0, .int .i64 0, .int .i64 0]) (#[.string ⟨#[]⟩, .int .i64 0, .int .i64 0, .int .i64 0, .slice none 0 0, .int .i64 0, .int .i64 0, .int .i64 0, .int .i64 0, .int .i64 0, .int .i64 0, .int .i64 0, .int .i64 0, .int .i64 0, .int .i64 0, .int .i64 0, .int .i64 0, .int .i64 0, .slice none 0 0, .int .i64 0, .int .i64 0, .int .i64 0]) ty_ze_25 rfl rfl ?_
  intro w6 b7 hx8 hn9 hb10
  have hd11 : b2 ≠ b7 := by have := hb5.lt; omega
  replace hn9 := Nat.le_trans hx.size hn9
  replace hb5 := hb5.ext hx8
  replace hx := hx.trans hx8
  refine go_ops_nil ?_
  refine go_seq ?_
  refine go_seq ?_
  refine go_region ?_
  refine go_y (v := .bool false) (y_move) rfl ?_
  refine go_ops_nil ?_
  refine go_cond_false rfl ?_
  refine go_skip ?_
  refine go_seq ?_
  refine go_region ?_
  refine go_y (v := .agg u.cells) (y_load_blk rfl hb5 ty_ag_25 rfl) rfl ?_
  refine go_store u.cells.toList u.cells rfl rfl rfl ty_sz_25 rfl hb10 (by show _ ≤ _; exact Nat.le_of_ble_eq_true rfl) (by repeat (first | exact one_nil | refine one_cons (by first | rfl | assumption) ?_)) (by kernel_rfl) rfl ?_
  intro w12 hch13 hb10'
  replace hb5 := hb5.chg hch13 (hd11)
  replace hx := hx.chg hch13 hn9
  replace hb10 := hb10'
  refine go_ops_nil ?_
  refine go_ret ?_
  exact ⟨_, (u.cells).toList, rfl, rfl, hb10.cellsAt, ⟨u, aw, rfl, hok0, hl.ext hx, hlen⟩, hx⟩
end Go.Proofs.Ytedfiemhfpcggaa
