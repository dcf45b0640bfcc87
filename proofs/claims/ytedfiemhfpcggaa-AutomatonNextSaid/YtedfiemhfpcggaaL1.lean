/- The laws, walked. -/
import Derived.Test.YtedfiemhfpcggaaW6
namespace Go.Proofs.Ytedfiemhfpcggaa
open Go.Gw Go.RowKit
theorem lnear_ret (u : U) (aw : List Int) (close : Bool) (hok : u.ok) (w : World) (hl : SlR w 1 ic u.away aw) (hlen : aw.length ≤ 40) : Ret Try.prog 8 [.agg u.cells, .bool close] w (fun v w' => (∃ (u2 : U) (aw2 : List Int), v = .agg u2.cells ∧ u2.ok ∧ SlR w' 1 ic u2.away aw2 ∧ aw2.length ≤ 40) ∧ Ext w w') := by
  cases close
  · exact lnear_false u aw hok w hl hlen
  · exact lnear_true u aw hok w hl hlen

set_option maxHeartbeats 4000000 in
set_option maxRecDepth 100000 in
theorem states_law (u : U) (aw : List Int) (k h : Int) (close : Bool) (hok : u.ok) (hh1 : -9223372036854775808 ≤ h) (hh2 : h ≤ 9223372036854775807) (w : World) (hl : SlR w 1 ic u.away aw) : Ret Try.prog 3 [.agg u.cells, .agg #[.int .i64 k, .int .i64 h], .bool close] w (fun v w' => v = .bool true ∧ Ext w w') := by
  refine calls_of_go Try.func3 rfl (by show _ ≤ _; exact Nat.le_of_ble_eq_true rfl) (by kernel_rfl) _ (res1 rfl) ?_
  have hx : Ext w w := Ext.refl w
  refine go_seq ?_
  refine go_region ?_
  refine go_box (.agg u.cells) u.cells rfl rfl rfl ?_
  intro w1 b2 hx3 hn4 hb5
  replace hn4 := Nat.le_trans hx.size hn4
  replace hx := hx.trans hx3
  refine go_box (.agg #[.int .i64 k, .int .i64 h]) (#[.int .i64 k, .int .i64 h]) rfl rfl rfl ?_
  intro w6 b7 hx8 hn9 hb10
  have hd11 : b2 ≠ b7 := by have := hb5.lt; omega
  replace hn9 := Nat.le_trans hx.size hn9
  replace hb5 := hb5.ext hx8
  replace hx := hx.trans hx8
  refine go_y (v := .bool false) (y_assign) rfl ?_
  refine go_ops_nil ?_
  refine go_seq ?_
  refine go_seq ?_
  refine go_region ?_
  refine go_y (v := .pointer (some ⟨b2, 18, none⟩)) (y_fieldAddr rfl ty_fl_25_18) rfl ?_
  refine go_y (v := u.away) (y_load_fld rfl hb5 ty_sc_23 rfl) rfl ?_
  refine go_y (v := .int .i64 (aw.length : Int)) (y_len_sl hl rfl ty_sl_23 _) rfl ?_
  refine go_test (c := (40 : Int) < (aw.length : Int)) (y_gt rfl rfl) rfl (fun hc12 => ?_) (fun hc12 => ?_)
  · refine go_ops_nil ?_
    refine go_cond_true rfl ?_
    refine go_seq ?_
    refine go_region ?_
    refine go_y (v := .bool true) (y_assign) rfl ?_
    refine go_ops_nil ?_
    refine go_ret ?_
    exact ⟨rfl, hx⟩
  · refine go_ops_nil ?_
    refine go_cond_false rfl ?_
    refine go_skip ?_
    refine go_seq ?_
    refine go_region ?_
    refine go_y (v := .agg u.cells) (y_load_blk rfl hb5 ty_ag_25 rfl) rfl ?_
    refine go_y (v := .bool close) (y_move) rfl ?_
    refine go_c (enters_func ty_en_8 rfl) (lnear_ret u aw close hok _ (hl.ext hx) (by omega)) rfl ?_
    rintro _ w13 ⟨⟨u2, aw2, rfl, hok2, hl2, hlen2⟩, hx14⟩
    replace hb5 := hb5.ext hx14
    replace hb10 := hb10.ext hx14
    replace hx := hx.trans hx14
    obtain ⟨ok1, ok2, ok3, ok4, ok5, ok6, ok7, ok8, ok9, ok10, ok11, ok12, ok13, ok14⟩ := hok2
    cases hs_u2 : soundB u2
    · refine go_store u2.cells.toList u2.cells rfl rfl rfl ty_sz_25 rfl hb5 (by show _ ≤ _; exact Nat.le_of_ble_eq_true rfl) (by repeat (first | exact one_nil | refine one_cons (by first | rfl | assumption) ?_)) (by kernel_rfl) rfl ?_
      intro w15 hch16 hb5'
      replace hb10 := hb10.chg hch16 (Ne.symm hd11)
      replace hx := hx.chg hch16 hn4
      replace hb5 := hb5'
      refine go_ops_nil ?_
      refine go_seq ?_
      refine go_region ?_
      refine go_y (v := .agg u2.cells) (y_load_blk rfl hb5 ty_ag_25 rfl) rfl ?_
      refine go_c (enters_func ty_en_9 rfl) (caps_ret0 u2 hs_u2 _) rfl ?_
      rintro _ w17 ⟨rfl, hx18⟩
      replace hb5 := hb5.ext hx18
      replace hb10 := hb10.ext hx18
      replace hx := hx.trans hx18
      refine go_y (v := .tuple #[.int .i64 0, .int .i64 0]) (y_move) rfl ?_
      refine go_y (v := .int .i64 0) (y_extract rfl rfl) rfl ?_
      refine go_y (v := .int .i64 0) (y_extract rfl rfl) rfl ?_
      refine go_y (v := .int .i64 0) (y_assign) rfl ?_
      refine go_y (v := .int .i64 0) (y_assign) rfl ?_
      refine go_ops_nil ?_
      refine go_seq ?_
      refine go_region ?_
      refine go_y (v := .agg u2.cells) (y_load_blk rfl hb5 ty_ag_25 rfl) rfl ?_
      refine go_c (enters_func ty_en_10 rfl) (rcaps_ret0 u2 hs_u2 _) rfl ?_
      rintro _ w19 ⟨rfl, hx20⟩
      replace hb5 := hb5.ext hx20
      replace hb10 := hb10.ext hx20
      replace hx := hx.trans hx20
      refine go_y (v := .tuple #[.int .i64 0, .int .i64 0]) (y_move) rfl ?_
      refine go_y (v := .int .i64 0) (y_extract rfl rfl) rfl ?_
      refine go_y (v := .int .i64 0) (y_extract rfl rfl) rfl ?_
      refine go_y (v := .int .i64 0) (y_assign) rfl ?_
      refine go_y (v := .int .i64 0) (y_assign) rfl ?_
      refine go_ops_nil ?_
      refine go_seq ?_
      refine go_seq ?_
      refine go_drawn mixed [3, 5, 20, 22, 27, 29, 35, 36, 38, 39] [] (.e 0 (.p 1 (.p 2 (.q 3 (.q 5 (.e 4 (.e 6 (.p 7 (.p 8 (.p 9 (.p 10 (.p 11 (.p 12 (.p 13 (.p 14 (.p 15 (.p 16 (.p 17 (.p 18 (.p 19 (.q 20 (.q 22 (.e 21 (.e 23 (.p 24 (.p 25 (.p 26 (.q 27 (.q 29 (.e 28 (.e 30 (.e 31 (.p 32 (.p 33 (.p 34 (.q 35 (.q 36 (.q 38 (.q 39 (.e 37 (.e 40 (.p 41 (.p 42 .done))))))))))))))))))))))))))))))))))))))))))) (by kernel_rfl) ?_
      intro w21 hx22
      replace hb5 := hb5.ext hx22
      replace hb10 := hb10.ext hx22
      replace hx := hx.trans hx22
      refine go_de rfl rfl ?_
      refine go_c (enters_func ty_en_11 rfl) (awake_ret _) rfl ?_
      rintro _ w23 ⟨rfl, hx24⟩
      refine go_ops_nil ?_
      refine go_chk hx24 ?_
      refine go_dp (v := .bool false) rfl (fun w' => y_not_t rfl) rfl ?_
      refine go_dp (v := .bool false) rfl (fun w' => y_move) rfl ?_
      refine go_dq (v := .agg u2.cells) rfl (fun w' hw' => y_load_blk rfl (hb5.ext hw') ty_ag_25 rfl) (on_of (t := 32) rfl rfl) ?_
      refine go_dq (v := .agg u2.cells) rfl (fun w' hw' => y_load_blk rfl (hb5.ext hw') ty_ag_25 rfl) (on_of (t := 32) rfl rfl) ?_
      refine go_de rfl rfl ?_
      refine go_c (enters_func ty_en_12 rfl) (Ret.mono (sound_ret u2 _) (fun v w' h => (⟨h.1.trans (congrArg Value.bool hs_u2), h.2⟩ : v = .bool false ∧ Ext _ w'))) (on_of (t := 32) rfl rfl) ?_
      rintro _ w25 ⟨rfl, hx26⟩
      have hx26s := hx24.trans hx26
      refine go_ops_nil ?_
      refine go_chk hx26s ?_
      refine go_de rfl rfl ?_
      refine go_c (enters_func ty_en_13 rfl) (Ret.mono (rsound_ret u2 _) (fun v w' h => (⟨h.1.trans (congrArg Value.bool hs_u2), h.2⟩ : v = .bool false ∧ Ext _ w'))) (on_of (t := 32) rfl rfl) ?_
      rintro _ w27 ⟨rfl, hx28⟩
      have hx28s := hx26s.trans hx28
      refine go_ops_nil ?_
      refine go_chk hx28s ?_
      refine go_dp (v := .bool false) rfl (fun w' => y_neb (a := false) (b := false) rfl rfl ty_ub_4) (on_of (t := 32) rfl rfl) ?_
      refine go_dp (v := .bool false) rfl (fun w' => y_pick_f rfl) rfl ?_
      refine go_dp (v := .bool false) rfl (fun w' => y_move) rfl ?_
      refine go_dp (v := .int .i64 0) rfl (fun w' => y_move) (on_of (t := 39) rfl rfl) ?_
      refine go_dp (v := .int .i64 0) rfl (fun w' => y_move) (on_of (t := 39) rfl rfl) ?_
      refine go_dp (v := .bool false) rfl (fun w' => y_dec_f (c := (0 : Int) ≠ 0) (y_ne rfl rfl) (fun h => h rfl)) (on_of (t := 39) rfl rfl) ?_
      refine go_dp (v := .bool false) rfl (fun w' => y_pick_f rfl) rfl ?_
      refine go_dp (v := .bool false) rfl (fun w' => y_move) rfl ?_
      refine go_dp (v := .int .i64 0) rfl (fun w' => y_move) (on_of (t := 44) rfl rfl) ?_
      refine go_dp (v := .int .i64 0) rfl (fun w' => y_move) (on_of (t := 44) rfl rfl) ?_
      refine go_dp (v := .bool false) rfl (fun w' => y_dec_f (c := (0 : Int) ≠ 0) (y_ne rfl rfl) (fun h => h rfl)) (on_of (t := 44) rfl rfl) ?_
      refine go_dp (v := .bool false) rfl (fun w' => y_pick_f rfl) rfl ?_
      refine go_dp (v := .bool false) rfl (fun w' => y_move) rfl ?_
      refine go_dq (v := .agg u2.cells) rfl (fun w' hw' => y_load_blk rfl (hb5.ext hw') ty_ag_25 rfl) (on_of (t := 49) rfl rfl) ?_
      refine go_dq (v := .agg u2.cells) rfl (fun w' hw' => y_load_blk rfl (hb5.ext hw') ty_ag_25 rfl) (on_of (t := 49) rfl rfl) ?_
      refine go_de rfl rfl ?_
      refine go_c (enters_func ty_en_14 rfl) (initial_ret u2 _) (on_of (t := 49) rfl rfl) ?_
      rintro _ w29 ⟨rfl, hx30⟩
      have hx30s := hx28s.trans hx30
      refine go_ops_nil ?_
      refine go_chk hx30s ?_
      refine go_de rfl rfl ?_
      refine go_c (enters_func ty_en_15 rfl) (rinitial_ret u2 _) (on_of (t := 49) rfl rfl) ?_
      rintro _ w31 ⟨rfl, hx32⟩
      have hx32s := hx30s.trans hx32
      refine go_ops_nil ?_
      refine go_chk hx32s ?_
      refine go_dp (v := .bool false) rfl (fun w' => y_dec_f (c := ¬ ((initF u2).1 = (initF u2).1 ∧ (initF u2).2 = (initF u2).2)) (y_ne2 rfl rfl ty_e2_27) (fun h => h ⟨rfl, rfl⟩)) (on_of (t := 49) rfl rfl) ?_
      refine go_dp (v := .bool false) rfl (fun w' => y_pick_f rfl) rfl ?_
      refine go_dp (v := .bool false) rfl (fun w' => y_move) rfl ?_
      refine go_dq (v := .agg u2.cells) rfl (fun w' hw' => y_load_blk rfl (hb5.ext hw') ty_ag_25 rfl) (on_of (t := 56) rfl rfl) ?_
      refine go_dq (v := .agg u2.cells) rfl (fun w' hw' => y_load_blk rfl (hb5.ext hw') ty_ag_25 rfl) (on_of (t := 56) rfl rfl) ?_
      refine go_de rfl rfl ?_
      refine go_c (enters_func ty_en_17 rfl) (states_ret u2 _) (on_of (t := 56) rfl rfl) ?_
      rintro v33 w35 ⟨hs34, hx36⟩
      have hx36s := hx32s.trans hx36
      refine go_ops_nil ?_
      refine go_chk hx36s ?_
      refine go_de rfl rfl ?_
      refine go_c (enters_func ty_en_18 rfl) (rstates_ret u2 _) (on_of (t := 56) rfl rfl) ?_
      rintro v37 w39 ⟨hs38, hx40⟩
      replace hs34 := hs34.ext hx40
      have hx40s := hx36s.trans hx40
      refine go_ops_nil ?_
      refine go_chk hx40s ?_
      refine go_de rfl rfl ?_
      refine go_c (enters_func ty_en_16 rfl) (Ret.mono (same_ret _ _ (statesF u2) (statesF u2) _ hs34 hs38 (by have := statesF_len u2; omega) (by have := statesF_len u2; omega)) (fun v w' h => (⟨h.1.trans (congrArg Value.bool (decide_eq_true rfl)), h.2⟩ : v = .bool true ∧ Ext _ w'))) (on_of (t := 56) rfl rfl) ?_
      rintro _ w41 ⟨rfl, hx42⟩
      replace hs34 := hs34.ext hx42
      replace hs38 := hs38.ext hx42
      have hx42s := hx40s.trans hx42
      refine go_ops_nil ?_
      refine go_chk hx42s ?_
      refine go_dp (v := .bool false) rfl (fun w' => y_not_t rfl) (on_of (t := 56) rfl rfl) ?_
      refine go_dp (v := .bool false) rfl (fun w' => y_pick_f rfl) rfl ?_
      refine go_dp (v := .bool false) rfl (fun w' => y_move) rfl ?_
      refine go_dq (v := .agg u2.cells) rfl (fun w' hw' => y_load_blk rfl (hb5.ext hw') ty_ag_25 rfl) (on_of (t := 64) rfl rfl) ?_
      refine go_dq (v := .agg #[.int .i64 k, .int .i64 h]) rfl (fun w' hw' => y_load_blk rfl (hb10.ext hw') ty_ag_27 rfl) (on_of (t := 64) rfl rfl) ?_
      refine go_dq (v := .agg u2.cells) rfl (fun w' hw' => y_load_blk rfl (hb5.ext hw') ty_ag_25 rfl) (on_of (t := 64) rfl rfl) ?_
      refine go_dq (v := .agg #[.int .i64 k, .int .i64 h]) rfl (fun w' hw' => y_load_blk rfl (hb10.ext hw') ty_ag_27 rfl) (on_of (t := 64) rfl rfl) ?_
      refine go_de rfl rfl ?_
      refine go_c (enters_func ty_en_19 rfl) (position_ret u2 k h (by omega) (by omega) _) (on_of (t := 64) rfl rfl) ?_
      rintro _ w43 ⟨rfl, hx44⟩
      replace hs34 := hs34.ext hx44
      replace hs38 := hs38.ext hx44
      have hx44s := hx42s.trans hx44
      refine go_ops_nil ?_
      refine go_chk hx44s ?_
      refine go_de rfl rfl ?_
      refine go_c (enters_func ty_en_20 rfl) (rposition_ret u2 k h _) (on_of (t := 64) rfl rfl) ?_
      rintro _ w45 ⟨rfl, hx46⟩
      replace hs34 := hs34.ext hx46
      replace hs38 := hs38.ext hx46
      have hx46s := hx44s.trans hx46
      refine go_ops_nil ?_
      refine go_chk hx46s ?_
      refine go_dp (v := .bool false) rfl (fun w' => y_dec_f (c := ((posF u2 k h) : Int) ≠ (posF u2 k h)) (y_ne rfl rfl) (fun h => h rfl)) (on_of (t := 64) rfl rfl) ?_
      refine go_dp (v := .bool false) rfl (fun w' => y_pick_f rfl) rfl ?_
      refine go_dops_done ?_
      replace hb5 := hb5.ext hx46s
      replace hb10 := hb10.ext hx46s
      replace hx := hx.trans hx46s
      refine go_cond_false rfl ?_
      refine go_skip ?_
      refine go_seq ?_
      refine go_region ?_
      refine go_y (v := .agg u2.cells) (y_load_blk rfl hb5 ty_ag_25 rfl) rfl ?_
      refine go_c (enters_func ty_en_18 rfl) (rstates_ret u2 _) rfl ?_
      rintro v47 w49 ⟨hs48, hx50⟩
      replace hb5 := hb5.ext hx50
      replace hb10 := hb10.ext hx50
      replace hs34 := hs34.ext hx50
      replace hs38 := hs38.ext hx50
      replace hx := hx.trans hx50
      refine go_y (v := v47) (y_assign) rfl ?_
      refine go_ops_nil ?_
      refine go_seq ?_
      refine go_seq ?_
      refine go_region ?_
      refine go_y (v := .int .i64 0) (y_assign) rfl ?_
      refine go_ops_nil ?_
      refine go_block ?_
      have hsl := statesF_len u2
      refine go_loop (G := Nat) [6, 12, 75, 76, 77, 78, 79, 80, 81, 82, 83, 84, 85, 86, 87, 88] (fun g => [(12, .int .i64 (g : Int))]) (fun g w' => Ext w w' ∧ Blk w' b2 u2.cells 25 ∧ Blk w' b7 (#[.int .i64 k, .int .i64 h]) 27 ∧ SlR w' 2 stc v33 (statesF u2) ∧ SlR w' 2 stc v37 (statesF u2) ∧ SlR w' 2 stc v47 (statesF u2) ∧ g ≤ (statesF u2).length) (fun g => (statesF u2).length - g) 0 ⟨rfl, trivial⟩ ⟨hx, hb5, hb10, hs34, hs38, hs48, (by omega)⟩ ?_
      clear hx hb5 hb10 hs34 hs38 hs48
      intro g X52 w51 ⟨hx, hb5, hb10, hs34, hs38, hs48, hg⟩
      refine go_seq ?_
      refine go_seq ?_
      refine go_region ?_
      refine go_y (v := .int .i64 (g : Int)) (y_move) rfl ?_
      refine go_y (v := v47) (y_move) rfl ?_
      refine go_y (v := .int .i64 ((statesF u2).length : Int)) (y_len_sl hs48 rfl ty_sl_35 _) rfl ?_
      refine go_test (c := ((g : Int) : Int) < ((statesF u2).length : Int)) (y_lt rfl rfl) rfl (fun hc53 => ?_) (fun hc53 => ?_)
      · refine go_ops_nil ?_
        refine go_cond_true rfl ?_
        refine go_skip ?_
        refine go_seq ?_
        refine go_block ?_
        refine go_seq ?_
        refine go_drawn mixed [0, 4] [] (.q 0 (.p 1 (.p 2 (.p 3 (.q 4 (.p 6 (.e 5 (.p 7 .done)))))))) (by kernel_rfl) ?_
        intro w54 hx55
        replace hb5 := hb5.ext hx55
        replace hb10 := hb10.ext hx55
        replace hs34 := hs34.ext hx55
        replace hs38 := hs38.ext hx55
        replace hs48 := hs48.ext hx55
        replace hx := hx.trans hx55
        refine go_dq (v := .agg u2.cells) rfl (fun w' hw' => y_load_blk rfl (hb5.ext hw') ty_ag_25 rfl) rfl ?_
        refine go_dp (v := v47) rfl (fun w' => y_move) rfl ?_
        refine go_dp (v := .int .i64 (g : Int)) rfl (fun w' => y_move) rfl ?_
        obtain ⟨a56, ha57⟩ := el_some (l := statesF u2) (i := g) (by omega)
        obtain ⟨bb58, oo59, cc60, hv61, hc62⟩ := hs48.at_ ha57
        refine go_dp (v := .pointer (some ⟨bb58, oo59 + g * 2, none⟩)) rfl (fun w' => y_idxn g rfl hv61 rfl (by omega) ty_sl_35 (el_lt ha57)) rfl ?_
        refine go_dq (v := .agg #[.int .i64 a56.1, .int .i64 a56.2]) rfl (fun w' hw' => y_load_el rfl (hc62.ext hw') ty_ag_27 rfl) rfl ?_
        refine go_dp (v := .int .i64 (g : Int)) rfl (fun w' => y_move) rfl ?_
        refine go_de rfl rfl ?_
        have hbd63 := states_bd ha57
        refine go_c (enters_func ty_en_19 rfl) (position_ret u2 a56.1 a56.2 (by omega) (by omega) _) rfl ?_
        rintro _ w64 ⟨rfl, hx65⟩
        refine go_ops_nil ?_
        refine go_chk hx65 ?_
        refine go_dp (v := .bool false) rfl (fun w' => y_dec_f (c := ((posF u2 a56.1 a56.2) : Int) ≠ (g : Int)) (y_ne rfl rfl) (fun h => h (pos_at ha57))) rfl ?_
        refine go_dops_done ?_
        replace hb5 := hb5.ext hx65
        replace hb10 := hb10.ext hx65
        replace hs34 := hs34.ext hx65
        replace hs38 := hs38.ext hx65
        replace hs48 := hs48.ext hx65
        replace hc62 := hc62.ext hx65
        replace hx := hx.trans hx65
        refine go_cond_false rfl ?_
        refine go_skip ?_
        refine go_blk ?_
        refine go_region ?_
        refine go_y (v := .int .i64 (g : Int)) (y_move) rfl ?_
        refine go_y (v := .int .i64 ((g : Int) + 1)) (y_add rfl rfl (by unfold in64; omega)) rfl ?_
        refine go_y (v := .int .i64 ((g : Int) + 1)) (y_assign) rfl ?_
        refine go_ops_nil ?_
        refine go_upto ⟨g + 1, ?_, ⟨ie (by omega), trivial⟩, ⟨hx, hb5, hb10, hs34, hs38, hs48, (by have := el_lt ha57; omega)⟩, (by have := el_lt ha57; omega)⟩
        repeat (refine Agree.upd rfl ?_)
        exact Agree.updL rfl (Agree.havoc rfl (Agree.refl _ _))
      · refine go_ops_nil ?_
        refine go_cond_false rfl ?_
        refine go_exit rfl ?_
        refine go_seq ?_
        refine go_region ?_
        refine go_y (v := .bool true) (y_assign) rfl ?_
        refine go_ops_nil ?_
        refine go_ret ?_
        exact ⟨rfl, hx⟩
    · have hsd_u2 := sound_spec hs_u2
      have hcb_u2 := cap_bd hs_u2
      refine go_store u2.cells.toList u2.cells rfl rfl rfl ty_sz_25 rfl hb5 (by show _ ≤ _; exact Nat.le_of_ble_eq_true rfl) (by repeat (first | exact one_nil | refine one_cons (by first | rfl | assumption) ?_)) (by kernel_rfl) rfl ?_
      intro w15 hch16 hb5'
      replace hb10 := hb10.chg hch16 (Ne.symm hd11)
      replace hx := hx.chg hch16 hn4
      replace hb5 := hb5'
      refine go_ops_nil ?_
      refine go_seq ?_
      refine go_region ?_
      refine go_y (v := .agg u2.cells) (y_load_blk rfl hb5 ty_ag_25 rfl) rfl ?_
      refine go_c (enters_func ty_en_9 rfl) (caps_ret u2 hs_u2 _) rfl ?_
      rintro _ w17 ⟨rfl, hx18⟩
      replace hb5 := hb5.ext hx18
      replace hb10 := hb10.ext hx18
      replace hx := hx.trans hx18
      refine go_y (v := .tuple #[.int .i64 (capOff u2), .int .i64 (capOn u2)]) (y_move) rfl ?_
      refine go_y (v := .int .i64 (capOff u2)) (y_extract rfl rfl) rfl ?_
      refine go_y (v := .int .i64 (capOn u2)) (y_extract rfl rfl) rfl ?_
      refine go_y (v := .int .i64 (capOff u2)) (y_assign) rfl ?_
      refine go_y (v := .int .i64 (capOn u2)) (y_assign) rfl ?_
      refine go_ops_nil ?_
      refine go_seq ?_
      refine go_region ?_
      refine go_y (v := .agg u2.cells) (y_load_blk rfl hb5 ty_ag_25 rfl) rfl ?_
      refine go_c (enters_func ty_en_10 rfl) (rcaps_ret u2 hs_u2 _) rfl ?_
      rintro _ w19 ⟨rfl, hx20⟩
      replace hb5 := hb5.ext hx20
      replace hb10 := hb10.ext hx20
      replace hx := hx.trans hx20
      refine go_y (v := .tuple #[.int .i64 (capOff u2), .int .i64 (capOn u2)]) (y_move) rfl ?_
      refine go_y (v := .int .i64 (capOff u2)) (y_extract rfl rfl) rfl ?_
      refine go_y (v := .int .i64 (capOn u2)) (y_extract rfl rfl) rfl ?_
      refine go_y (v := .int .i64 (capOff u2)) (y_assign) rfl ?_
      refine go_y (v := .int .i64 (capOn u2)) (y_assign) rfl ?_
      refine go_ops_nil ?_
      refine go_seq ?_
      refine go_seq ?_
      refine go_drawn mixed [3, 5, 20, 22, 27, 29, 35, 36, 38, 39] [] (.e 0 (.p 1 (.p 2 (.q 3 (.q 5 (.e 4 (.e 6 (.p 7 (.p 8 (.p 9 (.p 10 (.p 11 (.p 12 (.p 13 (.p 14 (.p 15 (.p 16 (.p 17 (.p 18 (.p 19 (.q 20 (.q 22 (.e 21 (.e 23 (.p 24 (.p 25 (.p 26 (.q 27 (.q 29 (.e 28 (.e 30 (.e 31 (.p 32 (.p 33 (.p 34 (.q 35 (.q 36 (.q 38 (.q 39 (.e 37 (.e 40 (.p 41 (.p 42 .done))))))))))))))))))))))))))))))))))))))))))) (by kernel_rfl) ?_
      intro w21 hx22
      replace hb5 := hb5.ext hx22
      replace hb10 := hb10.ext hx22
      replace hx := hx.trans hx22
      refine go_de rfl rfl ?_
      refine go_c (enters_func ty_en_11 rfl) (awake_ret _) rfl ?_
      rintro _ w23 ⟨rfl, hx24⟩
      refine go_ops_nil ?_
      refine go_chk hx24 ?_
      refine go_dp (v := .bool false) rfl (fun w' => y_not_t rfl) rfl ?_
      refine go_dp (v := .bool false) rfl (fun w' => y_move) rfl ?_
      refine go_dq (v := .agg u2.cells) rfl (fun w' hw' => y_load_blk rfl (hb5.ext hw') ty_ag_25 rfl) (on_of (t := 32) rfl rfl) ?_
      refine go_dq (v := .agg u2.cells) rfl (fun w' hw' => y_load_blk rfl (hb5.ext hw') ty_ag_25 rfl) (on_of (t := 32) rfl rfl) ?_
      refine go_de rfl rfl ?_
      refine go_c (enters_func ty_en_12 rfl) (Ret.mono (sound_ret u2 _) (fun v w' h => (⟨h.1.trans (congrArg Value.bool hs_u2), h.2⟩ : v = .bool true ∧ Ext _ w'))) (on_of (t := 32) rfl rfl) ?_
      rintro _ w25 ⟨rfl, hx26⟩
      have hx26s := hx24.trans hx26
      refine go_ops_nil ?_
      refine go_chk hx26s ?_
      refine go_de rfl rfl ?_
      refine go_c (enters_func ty_en_13 rfl) (Ret.mono (rsound_ret u2 _) (fun v w' h => (⟨h.1.trans (congrArg Value.bool hs_u2), h.2⟩ : v = .bool true ∧ Ext _ w'))) (on_of (t := 32) rfl rfl) ?_
      rintro _ w27 ⟨rfl, hx28⟩
      have hx28s := hx26s.trans hx28
      refine go_ops_nil ?_
      refine go_chk hx28s ?_
      refine go_dp (v := .bool false) rfl (fun w' => y_neb (a := true) (b := true) rfl rfl ty_ub_4) (on_of (t := 32) rfl rfl) ?_
      refine go_dp (v := .bool false) rfl (fun w' => y_pick_f rfl) rfl ?_
      refine go_dp (v := .bool false) rfl (fun w' => y_move) rfl ?_
      refine go_dp (v := .int .i64 (capOff u2)) rfl (fun w' => y_move) (on_of (t := 39) rfl rfl) ?_
      refine go_dp (v := .int .i64 (capOff u2)) rfl (fun w' => y_move) (on_of (t := 39) rfl rfl) ?_
      refine go_dp (v := .bool false) rfl (fun w' => y_dec_f (c := ((capOff u2) : Int) ≠ (capOff u2)) (y_ne rfl rfl) (fun h => h rfl)) (on_of (t := 39) rfl rfl) ?_
      refine go_dp (v := .bool false) rfl (fun w' => y_pick_f rfl) rfl ?_
      refine go_dp (v := .bool false) rfl (fun w' => y_move) rfl ?_
      refine go_dp (v := .int .i64 (capOn u2)) rfl (fun w' => y_move) (on_of (t := 44) rfl rfl) ?_
      refine go_dp (v := .int .i64 (capOn u2)) rfl (fun w' => y_move) (on_of (t := 44) rfl rfl) ?_
      refine go_dp (v := .bool false) rfl (fun w' => y_dec_f (c := ((capOn u2) : Int) ≠ (capOn u2)) (y_ne rfl rfl) (fun h => h rfl)) (on_of (t := 44) rfl rfl) ?_
      refine go_dp (v := .bool false) rfl (fun w' => y_pick_f rfl) rfl ?_
      refine go_dp (v := .bool false) rfl (fun w' => y_move) rfl ?_
      refine go_dq (v := .agg u2.cells) rfl (fun w' hw' => y_load_blk rfl (hb5.ext hw') ty_ag_25 rfl) (on_of (t := 49) rfl rfl) ?_
      refine go_dq (v := .agg u2.cells) rfl (fun w' hw' => y_load_blk rfl (hb5.ext hw') ty_ag_25 rfl) (on_of (t := 49) rfl rfl) ?_
      refine go_de rfl rfl ?_
      refine go_c (enters_func ty_en_14 rfl) (initial_ret u2 _) (on_of (t := 49) rfl rfl) ?_
      rintro _ w29 ⟨rfl, hx30⟩
      have hx30s := hx28s.trans hx30
      refine go_ops_nil ?_
      refine go_chk hx30s ?_
      refine go_de rfl rfl ?_
      refine go_c (enters_func ty_en_15 rfl) (rinitial_ret u2 _) (on_of (t := 49) rfl rfl) ?_
      rintro _ w31 ⟨rfl, hx32⟩
      have hx32s := hx30s.trans hx32
      refine go_ops_nil ?_
      refine go_chk hx32s ?_
      refine go_dp (v := .bool false) rfl (fun w' => y_dec_f (c := ¬ ((initF u2).1 = (initF u2).1 ∧ (initF u2).2 = (initF u2).2)) (y_ne2 rfl rfl ty_e2_27) (fun h => h ⟨rfl, rfl⟩)) (on_of (t := 49) rfl rfl) ?_
      refine go_dp (v := .bool false) rfl (fun w' => y_pick_f rfl) rfl ?_
      refine go_dp (v := .bool false) rfl (fun w' => y_move) rfl ?_
      refine go_dq (v := .agg u2.cells) rfl (fun w' hw' => y_load_blk rfl (hb5.ext hw') ty_ag_25 rfl) (on_of (t := 56) rfl rfl) ?_
      refine go_dq (v := .agg u2.cells) rfl (fun w' hw' => y_load_blk rfl (hb5.ext hw') ty_ag_25 rfl) (on_of (t := 56) rfl rfl) ?_
      refine go_de rfl rfl ?_
      refine go_c (enters_func ty_en_17 rfl) (states_ret u2 _) (on_of (t := 56) rfl rfl) ?_
      rintro v33 w35 ⟨hs34, hx36⟩
      have hx36s := hx32s.trans hx36
      refine go_ops_nil ?_
      refine go_chk hx36s ?_
      refine go_de rfl rfl ?_
      refine go_c (enters_func ty_en_18 rfl) (rstates_ret u2 _) (on_of (t := 56) rfl rfl) ?_
      rintro v37 w39 ⟨hs38, hx40⟩
      replace hs34 := hs34.ext hx40
      have hx40s := hx36s.trans hx40
      refine go_ops_nil ?_
      refine go_chk hx40s ?_
      refine go_de rfl rfl ?_
      refine go_c (enters_func ty_en_16 rfl) (Ret.mono (same_ret _ _ (statesF u2) (statesF u2) _ hs34 hs38 (by have := statesF_len u2; omega) (by have := statesF_len u2; omega)) (fun v w' h => (⟨h.1.trans (congrArg Value.bool (decide_eq_true rfl)), h.2⟩ : v = .bool true ∧ Ext _ w'))) (on_of (t := 56) rfl rfl) ?_
      rintro _ w41 ⟨rfl, hx42⟩
      replace hs34 := hs34.ext hx42
      replace hs38 := hs38.ext hx42
      have hx42s := hx40s.trans hx42
      refine go_ops_nil ?_
      refine go_chk hx42s ?_
      refine go_dp (v := .bool false) rfl (fun w' => y_not_t rfl) (on_of (t := 56) rfl rfl) ?_
      refine go_dp (v := .bool false) rfl (fun w' => y_pick_f rfl) rfl ?_
      refine go_dp (v := .bool false) rfl (fun w' => y_move) rfl ?_
      refine go_dq (v := .agg u2.cells) rfl (fun w' hw' => y_load_blk rfl (hb5.ext hw') ty_ag_25 rfl) (on_of (t := 64) rfl rfl) ?_
      refine go_dq (v := .agg #[.int .i64 k, .int .i64 h]) rfl (fun w' hw' => y_load_blk rfl (hb10.ext hw') ty_ag_27 rfl) (on_of (t := 64) rfl rfl) ?_
      refine go_dq (v := .agg u2.cells) rfl (fun w' hw' => y_load_blk rfl (hb5.ext hw') ty_ag_25 rfl) (on_of (t := 64) rfl rfl) ?_
      refine go_dq (v := .agg #[.int .i64 k, .int .i64 h]) rfl (fun w' hw' => y_load_blk rfl (hb10.ext hw') ty_ag_27 rfl) (on_of (t := 64) rfl rfl) ?_
      refine go_de rfl rfl ?_
      refine go_c (enters_func ty_en_19 rfl) (position_ret u2 k h (by omega) (by omega) _) (on_of (t := 64) rfl rfl) ?_
      rintro _ w43 ⟨rfl, hx44⟩
      replace hs34 := hs34.ext hx44
      replace hs38 := hs38.ext hx44
      have hx44s := hx42s.trans hx44
      refine go_ops_nil ?_
      refine go_chk hx44s ?_
      refine go_de rfl rfl ?_
      refine go_c (enters_func ty_en_20 rfl) (rposition_ret u2 k h _) (on_of (t := 64) rfl rfl) ?_
      rintro _ w45 ⟨rfl, hx46⟩
      replace hs34 := hs34.ext hx46
      replace hs38 := hs38.ext hx46
      have hx46s := hx44s.trans hx46
      refine go_ops_nil ?_
      refine go_chk hx46s ?_
      refine go_dp (v := .bool false) rfl (fun w' => y_dec_f (c := ((posF u2 k h) : Int) ≠ (posF u2 k h)) (y_ne rfl rfl) (fun h => h rfl)) (on_of (t := 64) rfl rfl) ?_
      refine go_dp (v := .bool false) rfl (fun w' => y_pick_f rfl) rfl ?_
      refine go_dops_done ?_
      replace hb5 := hb5.ext hx46s
      replace hb10 := hb10.ext hx46s
      replace hx := hx.trans hx46s
      refine go_cond_false rfl ?_
      refine go_skip ?_
      refine go_seq ?_
      refine go_region ?_
      refine go_y (v := .agg u2.cells) (y_load_blk rfl hb5 ty_ag_25 rfl) rfl ?_
      refine go_c (enters_func ty_en_18 rfl) (rstates_ret u2 _) rfl ?_
      rintro v47 w49 ⟨hs48, hx50⟩
      replace hb5 := hb5.ext hx50
      replace hb10 := hb10.ext hx50
      replace hs34 := hs34.ext hx50
      replace hs38 := hs38.ext hx50
      replace hx := hx.trans hx50
      refine go_y (v := v47) (y_assign) rfl ?_
      refine go_ops_nil ?_
      refine go_seq ?_
      refine go_seq ?_
      refine go_region ?_
      refine go_y (v := .int .i64 0) (y_assign) rfl ?_
      refine go_ops_nil ?_
      refine go_block ?_
      have hsl := statesF_len u2
      refine go_loop (G := Nat) [6, 12, 75, 76, 77, 78, 79, 80, 81, 82, 83, 84, 85, 86, 87, 88] (fun g => [(12, .int .i64 (g : Int))]) (fun g w' => Ext w w' ∧ Blk w' b2 u2.cells 25 ∧ Blk w' b7 (#[.int .i64 k, .int .i64 h]) 27 ∧ SlR w' 2 stc v33 (statesF u2) ∧ SlR w' 2 stc v37 (statesF u2) ∧ SlR w' 2 stc v47 (statesF u2) ∧ g ≤ (statesF u2).length) (fun g => (statesF u2).length - g) 0 ⟨rfl, trivial⟩ ⟨hx, hb5, hb10, hs34, hs38, hs48, (by omega)⟩ ?_
      clear hx hb5 hb10 hs34 hs38 hs48
      intro g X52 w51 ⟨hx, hb5, hb10, hs34, hs38, hs48, hg⟩
      refine go_seq ?_
      refine go_seq ?_
      refine go_region ?_
      refine go_y (v := .int .i64 (g : Int)) (y_move) rfl ?_
      refine go_y (v := v47) (y_move) rfl ?_
      refine go_y (v := .int .i64 ((statesF u2).length : Int)) (y_len_sl hs48 rfl ty_sl_35 _) rfl ?_
      refine go_test (c := ((g : Int) : Int) < ((statesF u2).length : Int)) (y_lt rfl rfl) rfl (fun hc53 => ?_) (fun hc53 => ?_)
      · refine go_ops_nil ?_
        refine go_cond_true rfl ?_
        refine go_skip ?_
        refine go_seq ?_
        refine go_block ?_
        refine go_seq ?_
        refine go_drawn mixed [0, 4] [] (.q 0 (.p 1 (.p 2 (.p 3 (.q 4 (.p 6 (.e 5 (.p 7 .done)))))))) (by kernel_rfl) ?_
        intro w54 hx55
        replace hb5 := hb5.ext hx55
        replace hb10 := hb10.ext hx55
        replace hs34 := hs34.ext hx55
        replace hs38 := hs38.ext hx55
        replace hs48 := hs48.ext hx55
        replace hx := hx.trans hx55
        refine go_dq (v := .agg u2.cells) rfl (fun w' hw' => y_load_blk rfl (hb5.ext hw') ty_ag_25 rfl) rfl ?_
        refine go_dp (v := v47) rfl (fun w' => y_move) rfl ?_
        refine go_dp (v := .int .i64 (g : Int)) rfl (fun w' => y_move) rfl ?_
        obtain ⟨a56, ha57⟩ := el_some (l := statesF u2) (i := g) (by omega)
        obtain ⟨bb58, oo59, cc60, hv61, hc62⟩ := hs48.at_ ha57
        refine go_dp (v := .pointer (some ⟨bb58, oo59 + g * 2, none⟩)) rfl (fun w' => y_idxn g rfl hv61 rfl (by omega) ty_sl_35 (el_lt ha57)) rfl ?_
        refine go_dq (v := .agg #[.int .i64 a56.1, .int .i64 a56.2]) rfl (fun w' hw' => y_load_el rfl (hc62.ext hw') ty_ag_27 rfl) rfl ?_
        refine go_dp (v := .int .i64 (g : Int)) rfl (fun w' => y_move) rfl ?_
        refine go_de rfl rfl ?_
        have hbd63 := states_bd ha57
        refine go_c (enters_func ty_en_19 rfl) (position_ret u2 a56.1 a56.2 (by omega) (by omega) _) rfl ?_
        rintro _ w64 ⟨rfl, hx65⟩
        refine go_ops_nil ?_
        refine go_chk hx65 ?_
        refine go_dp (v := .bool false) rfl (fun w' => y_dec_f (c := ((posF u2 a56.1 a56.2) : Int) ≠ (g : Int)) (y_ne rfl rfl) (fun h => h (pos_at ha57))) rfl ?_
        refine go_dops_done ?_
        replace hb5 := hb5.ext hx65
        replace hb10 := hb10.ext hx65
        replace hs34 := hs34.ext hx65
        replace hs38 := hs38.ext hx65
        replace hs48 := hs48.ext hx65
        replace hc62 := hc62.ext hx65
        replace hx := hx.trans hx65
        refine go_cond_false rfl ?_
        refine go_skip ?_
        refine go_blk ?_
        refine go_region ?_
        refine go_y (v := .int .i64 (g : Int)) (y_move) rfl ?_
        refine go_y (v := .int .i64 ((g : Int) + 1)) (y_add rfl rfl (by unfold in64; omega)) rfl ?_
        refine go_y (v := .int .i64 ((g : Int) + 1)) (y_assign) rfl ?_
        refine go_ops_nil ?_
        refine go_upto ⟨g + 1, ?_, ⟨ie (by omega), trivial⟩, ⟨hx, hb5, hb10, hs34, hs38, hs48, (by have := el_lt ha57; omega)⟩, (by have := el_lt ha57; omega)⟩
        repeat (refine Agree.upd rfl ?_)
        exact Agree.updL rfl (Agree.havoc rfl (Agree.refl _ _))
      · refine go_ops_nil ?_
        refine go_cond_false rfl ?_
        refine go_exit rfl ?_
        refine go_seq ?_
        refine go_region ?_
        refine go_y (v := .bool true) (y_assign) rfl ?_
        refine go_ops_nil ?_
        refine go_ret ?_
        exact ⟨rfl, hx⟩
end Go.Proofs.Ytedfiemhfpcggaa
