/- The law AutomatonNext, walked. -/
import Derived.Test.YtedfiemhfpcggaaL1
namespace Go.Proofs.Ytedfiemhfpcggaa
open Go.Gw Go.RowKit
set_option maxHeartbeats 4000000 in
set_option maxRecDepth 100000 in
theorem next_law (u : U) (aw : List Int) (k h a b : Int) (close : Bool) (hok : u.ok) (hh1 : -9223372036854775808 ≤ h) (hh2 : h ≤ 9223372036854775807) (w : World) (hl : SlR w 1 ic u.away aw) : Ret Try.prog 4 [.agg u.cells, .agg #[.int .i64 k, .int .i64 h], .agg #[.int .i64 a, .int .i64 b], .bool close] w (fun v w' => v = .bool true ∧ Ext w w') := by
  refine calls_of_go Try.func4 rfl (by show _ ≤ _; exact Nat.le_of_ble_eq_true rfl) (by kernel_rfl) _ (res1 rfl) ?_
  have hx : Ext w w := Ext.refl w
  refine go_seq ?_
  refine go_region ?_
  refine go_box (.agg u.cells) u.cells rfl rfl rfl ?_
  intro w1 b2 hx3 hn4 hb5
  replace hn4 := Nat.le_trans hx.size hn4
  replace hx := hx.trans hx3
  refine go_box (.agg #[.int .i64 k, .int .i64 h]) (#[.int .i64 k, .int .i64 h]) rfl rfl rfl ?_
  intro w6 b7 hx8 hn9 hb10
  have hd11 : b2 ≠ b7 := by have := hb5.lt; omega
  replace hn9 := Nat.le_trans hx.size hn9
  replace hb5 := hb5.ext hx8
  replace hx := hx.trans hx8
  refine go_box (.agg #[.int .i64 a, .int .i64 b]) (#[.int .i64 a, .int .i64 b]) rfl rfl rfl ?_
  intro w12 b13 hx14 hn15 hb16
  have hd17 : b2 ≠ b13 := by have := hb5.lt; omega
  have hd18 : b7 ≠ b13 := by have := hb10.lt; omega
  replace hn15 := Nat.le_trans hx.size hn15
  replace hb5 := hb5.ext hx14
  replace hb10 := hb10.ext hx14
  replace hx := hx.trans hx14
  refine go_y (v := .bool false) (y_assign) rfl ?_
  refine go_ops_nil ?_
  refine go_seq ?_
  refine go_seq ?_
  refine go_region ?_
  refine go_y (v := .pointer (some ⟨b2, 18, none⟩)) (y_fieldAddr rfl ty_fl_25_18) rfl ?_
  refine go_y (v := u.away) (y_load_fld rfl hb5 ty_sc_23 rfl) rfl ?_
  refine go_y (v := .int .i64 (aw.length : Int)) (y_len_sl hl rfl ty_sl_23 _) rfl ?_
  refine go_test (c := (40 : Int) < (aw.length : Int)) (y_gt rfl rfl) rfl (fun hc19 => ?_) (fun hc19 => ?_)
  · refine go_ops_nil ?_
    refine go_cond_true rfl ?_
    refine go_seq ?_
    refine go_region ?_
    refine go_y (v := .bool true) (y_assign) rfl ?_
    refine go_ops_nil ?_
    refine go_ret ?_
    exact ⟨rfl, hx⟩
  · refine go_ops_nil ?_
    refine go_cond_false rfl ?_
    refine go_skip ?_
    refine go_seq ?_
    refine go_region ?_
    refine go_y (v := .agg u.cells) (y_load_blk rfl hb5 ty_ag_25 rfl) rfl ?_
    refine go_y (v := .bool close) (y_move) rfl ?_
    refine go_c (enters_func ty_en_8 rfl) (lnear_ret u aw close hok _ (hl.ext hx) (by omega)) rfl ?_
    rintro _ w20 ⟨⟨u2, aw2, rfl, hok2, hl2, hlen2⟩, hx21⟩
    replace hb5 := hb5.ext hx21
    replace hb10 := hb10.ext hx21
    replace hb16 := hb16.ext hx21
    replace hx := hx.trans hx21
    obtain ⟨ok1, ok2, ok3, ok4, ok5, ok6, ok7, ok8, ok9, ok10, ok11, ok12, ok13, ok14⟩ := hok2
    cases hs_u2 : soundB u2
    · refine go_store u2.cells.toList u2.cells rfl rfl rfl ty_sz_25 rfl hb5 (by show _ ≤ _; exact Nat.le_of_ble_eq_true rfl) (by repeat (first | exact one_nil | refine one_cons (by first | rfl | assumption) ?_)) (by kernel_rfl) rfl ?_
      intro w22 hch23 hb5'
      replace hb10 := hb10.chg hch23 (Ne.symm hd11)
      replace hb16 := hb16.chg hch23 (Ne.symm hd17)
      replace hx := hx.chg hch23 hn4
      replace hb5 := hb5'
      refine go_ops_nil ?_
      refine go_seq ?_
      refine go_seq ?_
      refine go_drawn mixed [3, 4, 6, 7, 13, 14, 15, 17, 18, 19] [] (.e 0 (.p 1 (.p 2 (.q 3 (.q 4 (.q 6 (.q 7 (.e 5 (.e 8 (.e 9 (.p 10 (.p 11 (.p 12 (.q 13 (.q 14 (.q 15 (.q 17 (.q 18 (.q 19 (.e 16 (.e 20 (.p 21 (.p 22 .done))))))))))))))))))))))) (by kernel_rfl) ?_
      intro w24 hx25
      replace hb5 := hb5.ext hx25
      replace hb10 := hb10.ext hx25
      replace hb16 := hb16.ext hx25
      replace hx := hx.trans hx25
      refine go_de rfl rfl ?_
      refine go_c (enters_func ty_en_11 rfl) (awake_ret _) rfl ?_
      rintro _ w26 ⟨rfl, hx27⟩
      refine go_ops_nil ?_
      refine go_chk hx27 ?_
      refine go_dp (v := .bool false) rfl (fun w' => y_not_t rfl) rfl ?_
      refine go_dp (v := .bool false) rfl (fun w' => y_move) rfl ?_
      refine go_dq (v := .agg u2.cells) rfl (fun w' hw' => y_load_blk rfl (hb5.ext hw') ty_ag_25 rfl) (on_of (t := 22) rfl rfl) ?_
      refine go_dq (v := .agg #[.int .i64 k, .int .i64 h]) rfl (fun w' hw' => y_load_blk rfl (hb10.ext hw') ty_ag_27 rfl) (on_of (t := 22) rfl rfl) ?_
      refine go_dq (v := .agg u2.cells) rfl (fun w' hw' => y_load_blk rfl (hb5.ext hw') ty_ag_25 rfl) (on_of (t := 22) rfl rfl) ?_
      refine go_dq (v := .agg #[.int .i64 k, .int .i64 h]) rfl (fun w' hw' => y_load_blk rfl (hb10.ext hw') ty_ag_27 rfl) (on_of (t := 22) rfl rfl) ?_
      refine go_de rfl rfl ?_
      refine go_c (enters_func ty_en_21 rfl) (next_ret u2 k h (by omega) (by omega) _) (on_of (t := 22) rfl rfl) ?_
      rintro v28 w30 ⟨hs29, hx31⟩
      have hx31s := hx27.trans hx31
      have hnlv28 := nextF_len u2 k h
      refine go_ops_nil ?_
      refine go_chk hx31s ?_
      refine go_de rfl rfl ?_
      refine go_c (enters_func ty_en_22 rfl) (rnext_ret u2 k h _) (on_of (t := 22) rfl rfl) ?_
      rintro v32 w34 ⟨hs33, hx35⟩
      replace hs29 := hs29.ext hx35
      have hx35s := hx31s.trans hx35
      have hnlv32 := nextF_len u2 k h
      refine go_ops_nil ?_
      refine go_chk hx35s ?_
      refine go_de rfl rfl ?_
      refine go_c (enters_func ty_en_16 rfl) (Ret.mono (same_ret _ _ (nextF u2 k h) (nextF u2 k h) _ hs29 hs33 (by have := nextF_len u2 k h; omega) (by have := nextF_len u2 k h; omega)) (fun v w' h => (⟨h.1.trans (congrArg Value.bool (decide_eq_true rfl)), h.2⟩ : v = .bool true ∧ Ext _ w'))) (on_of (t := 22) rfl rfl) ?_
      rintro _ w36 ⟨rfl, hx37⟩
      replace hs29 := hs29.ext hx37
      replace hs33 := hs33.ext hx37
      have hx37s := hx35s.trans hx37
      refine go_ops_nil ?_
      refine go_chk hx37s ?_
      refine go_dp (v := .bool false) rfl (fun w' => y_not_t rfl) (on_of (t := 22) rfl rfl) ?_
      refine go_dp (v := .bool false) rfl (fun w' => y_pick_f rfl) rfl ?_
      refine go_dp (v := .bool false) rfl (fun w' => y_move) rfl ?_
      refine go_dq (v := .agg u2.cells) rfl (fun w' hw' => y_load_blk rfl (hb5.ext hw') ty_ag_25 rfl) (on_of (t := 32) rfl rfl) ?_
      refine go_dq (v := .agg #[.int .i64 k, .int .i64 h]) rfl (fun w' hw' => y_load_blk rfl (hb10.ext hw') ty_ag_27 rfl) (on_of (t := 32) rfl rfl) ?_
      refine go_dq (v := .agg #[.int .i64 a, .int .i64 b]) rfl (fun w' hw' => y_load_blk rfl (hb16.ext hw') ty_ag_27 rfl) (on_of (t := 32) rfl rfl) ?_
      refine go_dq (v := .agg u2.cells) rfl (fun w' hw' => y_load_blk rfl (hb5.ext hw') ty_ag_25 rfl) (on_of (t := 32) rfl rfl) ?_
      refine go_dq (v := .agg #[.int .i64 k, .int .i64 h]) rfl (fun w' hw' => y_load_blk rfl (hb10.ext hw') ty_ag_27 rfl) (on_of (t := 32) rfl rfl) ?_
      refine go_dq (v := .agg #[.int .i64 a, .int .i64 b]) rfl (fun w' hw' => y_load_blk rfl (hb16.ext hw') ty_ag_27 rfl) (on_of (t := 32) rfl rfl) ?_
      refine go_de rfl rfl ?_
      refine go_c (enters_func ty_en_23 rfl) (cost_ret u2 k h a b (by omega) (by omega) _) (on_of (t := 32) rfl rfl) ?_
      rintro _ w38 ⟨rfl, hx39⟩
      replace hs29 := hs29.ext hx39
      replace hs33 := hs33.ext hx39
      have hx39s := hx37s.trans hx39
      refine go_ops_nil ?_
      refine go_chk hx39s ?_
      refine go_de rfl rfl ?_
      refine go_c (enters_func ty_en_24 rfl) (rcost_ret u2 k h a b _) (on_of (t := 32) rfl rfl) ?_
      rintro _ w40 ⟨rfl, hx41⟩
      replace hs29 := hs29.ext hx41
      replace hs33 := hs33.ext hx41
      have hx41s := hx39s.trans hx41
      refine go_ops_nil ?_
      refine go_chk hx41s ?_
      refine go_dp (v := .bool false) rfl (fun w' => y_dec_f (c := ((costF u2 k h (a, b)) : Int) ≠ (costF u2 k h (a, b))) (y_ne rfl rfl) (fun h => h rfl)) (on_of (t := 32) rfl rfl) ?_
      refine go_dp (v := .bool false) rfl (fun w' => y_pick_f rfl) rfl ?_
      refine go_dops_done ?_
      replace hb5 := hb5.ext hx41s
      replace hb10 := hb10.ext hx41s
      replace hb16 := hb16.ext hx41s
      replace hx := hx.trans hx41s
      refine go_cond_false rfl ?_
      refine go_skip ?_
      refine go_seq ?_
      refine go_region ?_
      refine go_y (v := .agg u2.cells) (y_load_blk rfl hb5 ty_ag_25 rfl) rfl ?_
      refine go_c (enters_func ty_en_18 rfl) (rstates_ret u2 _) rfl ?_
      rintro v42 w44 ⟨hs43, hx45⟩
      replace hb5 := hb5.ext hx45
      replace hb10 := hb10.ext hx45
      replace hb16 := hb16.ext hx45
      replace hs29 := hs29.ext hx45
      replace hs33 := hs33.ext hx45
      replace hx := hx.trans hx45
      refine go_y (v := v42) (y_assign) rfl ?_
      refine go_ops_nil ?_
      refine go_seq ?_
      refine go_seq ?_
      refine go_region ?_
      refine go_y (v := .int .i64 0) (y_assign) rfl ?_
      refine go_ops_nil ?_
      refine go_block ?_
      have hsl := statesF_len u2
      refine go_loop (G := Nat) [8, 10, 11, 12, 45, 46, 47, 48, 49, 50, 51, 52, 53, 54, 55, 56, 57, 58, 59, 60, 61, 62, 63, 64, 65, 66, 67, 68, 69, 70, 71, 72, 73, 74, 75, 76, 77, 78, 79, 80, 81, 82, 83, 84, 85, 86, 87, 88, 89, 90, 91, 92, 93, 94, 95, 96, 97, 98, 99, 100, 101, 102, 103, 104, 105, 106, 107, 108, 109] (fun g => [(10, .int .i64 (g : Int))]) (fun g w' => Ext w w' ∧ Blk w' b2 u2.cells 25 ∧ Blk w' b7 (#[.int .i64 k, .int .i64 h]) 27 ∧ Blk w' b13 (#[.int .i64 a, .int .i64 b]) 27 ∧ SlR w' 2 stc v28 (nextF u2 k h) ∧ SlR w' 2 stc v32 (nextF u2 k h) ∧ SlR w' 2 stc v42 (statesF u2) ∧ g ≤ (statesF u2).length) (fun g => (statesF u2).length - g) 0 ⟨rfl, trivial⟩ ⟨hx, hb5, hb10, hb16, hs29, hs33, hs43, (by omega)⟩ ?_
      clear hx hb5 hb10 hb16 hs29 hs33 hs43
      intro g X47 w46 ⟨hx, hb5, hb10, hb16, hs29, hs33, hs43, hg⟩
      refine go_seq ?_
      refine go_seq ?_
      refine go_region ?_
      refine go_y (v := .int .i64 (g : Int)) (y_move) rfl ?_
      refine go_y (v := v42) (y_move) rfl ?_
      refine go_y (v := .int .i64 ((statesF u2).length : Int)) (y_len_sl hs43 rfl ty_sl_35 _) rfl ?_
      refine go_test (c := ((g : Int) : Int) < ((statesF u2).length : Int)) (y_lt rfl rfl) rfl (fun hc48 => ?_) (fun hc48 => ?_)
      · refine go_ops_nil ?_
        refine go_cond_true rfl ?_
        refine go_skip ?_
        refine go_seq ?_
        refine go_block ?_
        refine go_seq ?_
        refine go_drawn mixed [0, 4] [] (.q 0 (.p 1 (.p 2 (.p 3 (.q 4 (.e 5 (.p 6 .done))))))) (by kernel_rfl) ?_
        intro w49 hx50
        replace hb5 := hb5.ext hx50
        replace hb10 := hb10.ext hx50
        replace hb16 := hb16.ext hx50
        replace hs29 := hs29.ext hx50
        replace hs33 := hs33.ext hx50
        replace hs43 := hs43.ext hx50
        replace hx := hx.trans hx50
        refine go_dq (v := .agg u2.cells) rfl (fun w' hw' => y_load_blk rfl (hb5.ext hw') ty_ag_25 rfl) rfl ?_
        refine go_dp (v := v42) rfl (fun w' => y_move) rfl ?_
        refine go_dp (v := .int .i64 (g : Int)) rfl (fun w' => y_move) rfl ?_
        obtain ⟨a51, ha52⟩ := el_some (l := statesF u2) (i := g) (by omega)
        have hbd58 := states_bd ha52
        obtain ⟨bb53, oo54, cc55, hv56, hc57⟩ := hs43.at_ ha52
        refine go_dp (v := .pointer (some ⟨bb53, oo54 + g * 2, none⟩)) rfl (fun w' => y_idxn g rfl hv56 rfl (by omega) ty_sl_35 (el_lt ha52)) rfl ?_
        refine go_dq (v := .agg #[.int .i64 a51.1, .int .i64 a51.2]) rfl (fun w' hw' => y_load_el rfl (hc57.ext hw') ty_ag_27 rfl) rfl ?_
        refine go_de rfl rfl ?_
        refine go_c (enters_func ty_en_22 rfl) (rnext_ret u2 a51.1 a51.2 _) rfl ?_
        rintro v59 w61 ⟨hs60, hx62⟩
        have hnlv59 := nextF_len u2 a51.1 a51.2
        refine go_ops_nil ?_
        refine go_chk hx62 ?_
        refine go_dp (v := v59) rfl (fun w' => y_assign) rfl ?_
        refine go_dops_done ?_
        replace hb5 := hb5.ext hx62
        replace hb10 := hb10.ext hx62
        replace hb16 := hb16.ext hx62
        replace hs29 := hs29.ext hx62
        replace hs33 := hs33.ext hx62
        replace hs43 := hs43.ext hx62
        replace hc57 := hc57.ext hx62
        replace hx := hx.trans hx62
        refine go_seq ?_
        refine go_seq ?_
        refine go_drawn mixed [0, 4, 10, 14, 15, 17, 21, 22] [] (.q 0 (.p 1 (.p 2 (.p 3 (.q 4 (.p 6 (.e 5 (.e 7 (.p 8 (.p 9 (.q 10 (.p 11 (.p 12 (.p 13 (.q 14 (.q 15 (.q 17 (.p 18 (.p 19 (.p 20 (.q 21 (.q 22 (.e 16 (.e 23 (.p 24 (.p 25 .done)))))))))))))))))))))))))) (by kernel_rfl) ?_
        intro w63 hx64
        replace hb5 := hb5.ext hx64
        replace hb10 := hb10.ext hx64
        replace hb16 := hb16.ext hx64
        replace hs29 := hs29.ext hx64
        replace hs33 := hs33.ext hx64
        replace hs43 := hs43.ext hx64
        replace hs60 := hs60.ext hx64
        replace hx := hx.trans hx64
        refine go_dq (v := .agg u2.cells) rfl (fun w' hw' => y_load_blk rfl (hb5.ext hw') ty_ag_25 rfl) rfl ?_
        refine go_dp (v := v42) rfl (fun w' => y_move) rfl ?_
        refine go_dp (v := .int .i64 (g : Int)) rfl (fun w' => y_move) rfl ?_
        obtain ⟨bb67, oo68, cc69, hv70, hc71⟩ := hs43.at_ ha52
        refine go_dp (v := .pointer (some ⟨bb67, oo68 + g * 2, none⟩)) rfl (fun w' => y_idxn g rfl hv70 rfl (by omega) ty_sl_35 (el_lt ha52)) rfl ?_
        refine go_dq (v := .agg #[.int .i64 a51.1, .int .i64 a51.2]) rfl (fun w' hw' => y_load_el rfl (hc71.ext hw') ty_ag_27 rfl) rfl ?_
        refine go_dp (v := v59) rfl (fun w' => y_move) rfl ?_
        refine go_de rfl rfl ?_
        refine go_c (enters_func ty_en_21 rfl) (next_ret u2 a51.1 a51.2 (by omega) (by omega) _) rfl ?_
        rintro v72 w74 ⟨hs73, hx75⟩
        have hnlv72 := nextF_len u2 a51.1 a51.2
        refine go_ops_nil ?_
        refine go_chk hx75 ?_
        refine go_de rfl rfl ?_
        refine go_c (enters_func ty_en_16 rfl) (Ret.mono (same_ret _ _ (nextF u2 a51.1 a51.2) (nextF u2 a51.1 a51.2) _ hs73 (hs60.ext hx75) (by have := nextF_len u2 a51.1 a51.2; omega) (by have := nextF_len u2 a51.1 a51.2; omega)) (fun v w' h => (⟨h.1.trans (congrArg Value.bool (decide_eq_true rfl)), h.2⟩ : v = .bool true ∧ Ext _ w'))) rfl ?_
        rintro _ w76 ⟨rfl, hx77⟩
        replace hs73 := hs73.ext hx77
        have hx77s := hx75.trans hx77
        refine go_ops_nil ?_
        refine go_chk hx77s ?_
        refine go_dp (v := .bool false) rfl (fun w' => y_not_t rfl) rfl ?_
        refine go_dp (v := .bool false) rfl (fun w' => y_move) rfl ?_
        refine go_dq (v := .agg u2.cells) rfl (fun w' hw' => y_load_blk rfl (hb5.ext hw') ty_ag_25 rfl) (on_of (t := 66) rfl rfl) ?_
        refine go_dp (v := v42) rfl (fun w' => y_move) (on_of (t := 66) rfl rfl) ?_
        refine go_dp (v := .int .i64 (g : Int)) rfl (fun w' => y_move) (on_of (t := 66) rfl rfl) ?_
        obtain ⟨bb80, oo81, cc82, hv83, hc84⟩ := hs43.at_ ha52
        refine go_dp (v := .pointer (some ⟨bb80, oo81 + g * 2, none⟩)) rfl (fun w' => y_idxn g rfl hv83 rfl (by omega) ty_sl_35 (el_lt ha52)) (on_of (t := 66) rfl rfl) ?_
        refine go_dq (v := .agg #[.int .i64 a51.1, .int .i64 a51.2]) rfl (fun w' hw' => y_load_el rfl (hc84.ext hw') ty_ag_27 rfl) (on_of (t := 66) rfl rfl) ?_
        refine go_dq (v := .agg #[.int .i64 a, .int .i64 b]) rfl (fun w' hw' => y_load_blk rfl (hb16.ext hw') ty_ag_27 rfl) (on_of (t := 66) rfl rfl) ?_
        refine go_dq (v := .agg u2.cells) rfl (fun w' hw' => y_load_blk rfl (hb5.ext hw') ty_ag_25 rfl) (on_of (t := 66) rfl rfl) ?_
        refine go_dp (v := v42) rfl (fun w' => y_move) (on_of (t := 66) rfl rfl) ?_
        refine go_dp (v := .int .i64 (g : Int)) rfl (fun w' => y_move) (on_of (t := 66) rfl rfl) ?_
        obtain ⟨bb87, oo88, cc89, hv90, hc91⟩ := hs43.at_ ha52
        refine go_dp (v := .pointer (some ⟨bb87, oo88 + g * 2, none⟩)) rfl (fun w' => y_idxn g rfl hv90 rfl (by omega) ty_sl_35 (el_lt ha52)) (on_of (t := 66) rfl rfl) ?_
        refine go_dq (v := .agg #[.int .i64 a51.1, .int .i64 a51.2]) rfl (fun w' hw' => y_load_el rfl (hc91.ext hw') ty_ag_27 rfl) (on_of (t := 66) rfl rfl) ?_
        refine go_dq (v := .agg #[.int .i64 a, .int .i64 b]) rfl (fun w' hw' => y_load_blk rfl (hb16.ext hw') ty_ag_27 rfl) (on_of (t := 66) rfl rfl) ?_
        refine go_de rfl rfl ?_
        refine go_c (enters_func ty_en_23 rfl) (cost_ret u2 a51.1 a51.2 a b (by omega) (by omega) _) (on_of (t := 66) rfl rfl) ?_
        rintro _ w92 ⟨rfl, hx93⟩
        replace hs73 := hs73.ext hx93
        have hx93s := hx77s.trans hx93
        refine go_ops_nil ?_
        refine go_chk hx93s ?_
        refine go_de rfl rfl ?_
        refine go_c (enters_func ty_en_24 rfl) (rcost_ret u2 a51.1 a51.2 a b _) (on_of (t := 66) rfl rfl) ?_
        rintro _ w94 ⟨rfl, hx95⟩
        replace hs73 := hs73.ext hx95
        have hx95s := hx93s.trans hx95
        refine go_ops_nil ?_
        refine go_chk hx95s ?_
        refine go_dp (v := .bool false) rfl (fun w' => y_dec_f (c := ((costF u2 a51.1 a51.2 (a, b)) : Int) ≠ (costF u2 a51.1 a51.2 (a, b))) (y_ne rfl rfl) (fun h => h rfl)) (on_of (t := 66) rfl rfl) ?_
        refine go_dp (v := .bool false) rfl (fun w' => y_pick_f rfl) rfl ?_
        refine go_dops_done ?_
        replace hb5 := hb5.ext hx95s
        replace hb10 := hb10.ext hx95s
        replace hb16 := hb16.ext hx95s
        replace hs29 := hs29.ext hx95s
        replace hs33 := hs33.ext hx95s
        replace hs43 := hs43.ext hx95s
        replace hs60 := hs60.ext hx95s
        replace hc71 := hc71.ext hx95s
        replace hc84 := hc84.ext hx95s
        replace hc91 := hc91.ext hx95s
        replace hx := hx.trans hx95s
        refine go_cond_false rfl ?_
        refine go_skip ?_
        refine go_seq ?_
        refine go_region ?_
        refine go_y (v := .int .i64 0) (y_assign) rfl ?_
        refine go_ops_nil ?_
        refine go_block ?_
        have hnl2 := nextF_len u2 a51.1 a51.2
        refine go_loop (G := Nat) [8, 12, 83, 84, 85, 86, 87, 88, 89, 90, 91, 92, 93, 94, 95, 96, 97, 98, 99, 100, 101, 102, 103, 104, 105, 106, 107, 108, 109] (fun j => [(12, .int .i64 (j : Int))]) (fun j w' => Ext w w' ∧ Blk w' b2 u2.cells 25 ∧ Blk w' b7 (#[.int .i64 k, .int .i64 h]) 27 ∧ Blk w' b13 (#[.int .i64 a, .int .i64 b]) 27 ∧ SlR w' 2 stc v28 (nextF u2 k h) ∧ SlR w' 2 stc v32 (nextF u2 k h) ∧ SlR w' 2 stc v42 (statesF u2) ∧ SlR w' 2 stc v59 (nextF u2 a51.1 a51.2) ∧ SlR w' 2 stc v72 (nextF u2 a51.1 a51.2) ∧ j ≤ (nextF u2 a51.1 a51.2).length) (fun j => (nextF u2 a51.1 a51.2).length - j) 0 ⟨rfl, trivial⟩ ⟨hx, hb5, hb10, hb16, hs29, hs33, hs43, hs60, hs73, (by omega)⟩ ?_
        clear hx hb5 hb10 hb16 hs29 hs33 hs43 hs60 hs73
        intro j X97 w96 ⟨hx, hb5, hb10, hb16, hs29, hs33, hs43, hs60, hs73, hj⟩
        refine go_seq ?_
        refine go_seq ?_
        refine go_region ?_
        refine go_y (v := .int .i64 (j : Int)) (y_move) rfl ?_
        refine go_y (v := v59) (y_move) rfl ?_
        refine go_y (v := .int .i64 ((nextF u2 a51.1 a51.2).length : Int)) (y_len_sl hs60 rfl ty_sl_35 _) rfl ?_
        refine go_test (c := ((j : Int) : Int) < ((nextF u2 a51.1 a51.2).length : Int)) (y_lt rfl rfl) rfl (fun hc98 => ?_) (fun hc98 => ?_)
        · refine go_ops_nil ?_
          refine go_cond_true rfl ?_
          refine go_skip ?_
          refine go_seq ?_
          refine go_block ?_
          refine go_seq ?_
          refine go_drawn mixed [0, 4, 8, 10, 14, 18] [] (.q 0 (.p 1 (.p 2 (.p 3 (.q 4 (.p 5 (.p 6 (.p 7 (.q 8 (.q 10 (.p 11 (.p 12 (.p 13 (.q 14 (.p 15 (.p 16 (.p 17 (.q 18 (.e 9 (.e 19 (.p 20 .done))))))))))))))))))))) (by kernel_rfl) ?_
          intro w99 hx100
          replace hb5 := hb5.ext hx100
          replace hb10 := hb10.ext hx100
          replace hb16 := hb16.ext hx100
          replace hs29 := hs29.ext hx100
          replace hs33 := hs33.ext hx100
          replace hs43 := hs43.ext hx100
          replace hs60 := hs60.ext hx100
          replace hs73 := hs73.ext hx100
          replace hx := hx.trans hx100
          refine go_dq (v := .agg u2.cells) rfl (fun w' hw' => y_load_blk rfl (hb5.ext hw') ty_ag_25 rfl) rfl ?_
          refine go_dp (v := v42) rfl (fun w' => y_move) rfl ?_
          refine go_dp (v := .int .i64 (g : Int)) rfl (fun w' => y_move) rfl ?_
          obtain ⟨bb103, oo104, cc105, hv106, hc107⟩ := hs43.at_ ha52
          refine go_dp (v := .pointer (some ⟨bb103, oo104 + g * 2, none⟩)) rfl (fun w' => y_idxn g rfl hv106 rfl (by omega) ty_sl_35 (el_lt ha52)) rfl ?_
          refine go_dq (v := .agg #[.int .i64 a51.1, .int .i64 a51.2]) rfl (fun w' hw' => y_load_el rfl (hc107.ext hw') ty_ag_27 rfl) rfl ?_
          refine go_dp (v := v59) rfl (fun w' => y_move) rfl ?_
          refine go_dp (v := .int .i64 (j : Int)) rfl (fun w' => y_move) rfl ?_
          obtain ⟨a108, ha109⟩ := el_some (l := nextF u2 a51.1 a51.2) (i := j) (by omega)
          obtain ⟨bb110, oo111, cc112, hv113, hc114⟩ := hs60.at_ ha109
          refine go_dp (v := .pointer (some ⟨bb110, oo111 + j * 2, none⟩)) rfl (fun w' => y_idxn j rfl hv113 rfl (by omega) ty_sl_35 (el_lt ha109)) rfl ?_
          refine go_dq (v := .agg #[.int .i64 a108.1, .int .i64 a108.2]) rfl (fun w' hw' => y_load_el rfl (hc114.ext hw') ty_ag_27 rfl) rfl ?_
          refine go_dq (v := .agg u2.cells) rfl (fun w' hw' => y_load_blk rfl (hb5.ext hw') ty_ag_25 rfl) rfl ?_
          refine go_dp (v := v42) rfl (fun w' => y_move) rfl ?_
          refine go_dp (v := .int .i64 (g : Int)) rfl (fun w' => y_move) rfl ?_
          obtain ⟨bb117, oo118, cc119, hv120, hc121⟩ := hs43.at_ ha52
          refine go_dp (v := .pointer (some ⟨bb117, oo118 + g * 2, none⟩)) rfl (fun w' => y_idxn g rfl hv120 rfl (by omega) ty_sl_35 (el_lt ha52)) rfl ?_
          refine go_dq (v := .agg #[.int .i64 a51.1, .int .i64 a51.2]) rfl (fun w' hw' => y_load_el rfl (hc121.ext hw') ty_ag_27 rfl) rfl ?_
          refine go_dp (v := v59) rfl (fun w' => y_move) rfl ?_
          refine go_dp (v := .int .i64 (j : Int)) rfl (fun w' => y_move) rfl ?_
          obtain ⟨bb124, oo125, cc126, hv127, hc128⟩ := hs60.at_ ha109
          refine go_dp (v := .pointer (some ⟨bb124, oo125 + j * 2, none⟩)) rfl (fun w' => y_idxn j rfl hv127 rfl (by omega) ty_sl_35 (el_lt ha109)) rfl ?_
          refine go_dq (v := .agg #[.int .i64 a108.1, .int .i64 a108.2]) rfl (fun w' hw' => y_load_el rfl (hc128.ext hw') ty_ag_27 rfl) rfl ?_
          refine go_de rfl rfl ?_
          refine go_c (enters_func ty_en_23 rfl) (cost_ret u2 a51.1 a51.2 a108.1 a108.2 (by omega) (by omega) _) rfl ?_
          rintro _ w129 ⟨rfl, hx130⟩
          refine go_ops_nil ?_
          refine go_chk hx130 ?_
          refine go_de rfl rfl ?_
          refine go_c (enters_func ty_en_24 rfl) (rcost_ret u2 a51.1 a51.2 a108.1 a108.2 _) rfl ?_
          rintro _ w131 ⟨rfl, hx132⟩
          have hx132s := hx130.trans hx132
          refine go_ops_nil ?_
          refine go_chk hx132s ?_
          refine go_dp (v := .bool false) rfl (fun w' => y_dec_f (c := ((costF u2 a51.1 a51.2 (a108.1, a108.2)) : Int) ≠ (costF u2 a51.1 a51.2 (a108.1, a108.2))) (y_ne rfl rfl) (fun h => h rfl)) rfl ?_
          refine go_dops_done ?_
          replace hb5 := hb5.ext hx132s
          replace hb10 := hb10.ext hx132s
          replace hb16 := hb16.ext hx132s
          replace hs29 := hs29.ext hx132s
          replace hs33 := hs33.ext hx132s
          replace hs43 := hs43.ext hx132s
          replace hs60 := hs60.ext hx132s
          replace hs73 := hs73.ext hx132s
          replace hc107 := hc107.ext hx132s
          replace hc114 := hc114.ext hx132s
          replace hc121 := hc121.ext hx132s
          replace hc128 := hc128.ext hx132s
          replace hx := hx.trans hx132s
          refine go_cond_false rfl ?_
          refine go_skip ?_
          refine go_blk ?_
          refine go_region ?_
          refine go_y (v := .int .i64 (j : Int)) (y_move) rfl ?_
          refine go_y (v := .int .i64 ((j : Int) + 1)) (y_add rfl rfl (by unfold in64; omega)) rfl ?_
          refine go_y (v := .int .i64 ((j : Int) + 1)) (y_assign) rfl ?_
          refine go_ops_nil ?_
          refine go_upto ⟨j + 1, ?_, ⟨ie (by omega), trivial⟩, ⟨hx, hb5, hb10, hb16, hs29, hs33, hs43, hs60, hs73, (by omega)⟩, (by omega)⟩
          repeat (refine Agree.upd rfl ?_)
          exact Agree.updL rfl (Agree.havoc rfl (Agree.refl _ _))
        · refine go_ops_nil ?_
          refine go_cond_false rfl ?_
          refine go_exit rfl ?_
          refine go_blk ?_
          refine go_region ?_
          refine go_y (v := .int .i64 (g : Int)) (y_move) rfl ?_
          refine go_y (v := .int .i64 ((g : Int) + 1)) (y_add rfl rfl (by unfold in64; omega)) rfl ?_
          refine go_y (v := .int .i64 ((g : Int) + 1)) (y_assign) rfl ?_
          refine go_ops_nil ?_
          refine go_upto ⟨g + 1, ?_, ⟨ie (by omega), trivial⟩, ⟨hx, hb5, hb10, hb16, hs29, hs33, hs43, (by omega)⟩, (by omega)⟩
          repeat (refine Agree.upd rfl ?_)
          refine Agree.updL rfl (Agree.havoc rfl ?_)
          repeat (refine Agree.upd rfl ?_)
          exact Agree.updL rfl (Agree.havoc rfl (Agree.refl _ _))
      · refine go_ops_nil ?_
        refine go_cond_false rfl ?_
        refine go_exit rfl ?_
        refine go_seq ?_
        refine go_region ?_
        refine go_y (v := .bool true) (y_assign) rfl ?_
        refine go_ops_nil ?_
        refine go_ret ?_
        exact ⟨rfl, hx⟩
    · have hsd_u2 := sound_spec hs_u2
      have hcb_u2 := cap_bd hs_u2
      refine go_store u2.cells.toList u2.cells rfl rfl rfl ty_sz_25 rfl hb5 (by show _ ≤ _; exact Nat.le_of_ble_eq_true rfl) (by repeat (first | exact one_nil | refine one_cons (by first | rfl | assumption) ?_)) (by kernel_rfl) rfl ?_
      intro w22 hch23 hb5'
      replace hb10 := hb10.chg hch23 (Ne.symm hd11)
      replace hb16 := hb16.chg hch23 (Ne.symm hd17)
      replace hx := hx.chg hch23 hn4
      replace hb5 := hb5'
      refine go_ops_nil ?_
      refine go_seq ?_
      refine go_seq ?_
      refine go_drawn mixed [3, 4, 6, 7, 13, 14, 15, 17, 18, 19] [] (.e 0 (.p 1 (.p 2 (.q 3 (.q 4 (.q 6 (.q 7 (.e 5 (.e 8 (.e 9 (.p 10 (.p 11 (.p 12 (.q 13 (.q 14 (.q 15 (.q 17 (.q 18 (.q 19 (.e 16 (.e 20 (.p 21 (.p 22 .done))))))))))))))))))))))) (by kernel_rfl) ?_
      intro w24 hx25
      replace hb5 := hb5.ext hx25
      replace hb10 := hb10.ext hx25
      replace hb16 := hb16.ext hx25
      replace hx := hx.trans hx25
      refine go_de rfl rfl ?_
      refine go_c (enters_func ty_en_11 rfl) (awake_ret _) rfl ?_
      rintro _ w26 ⟨rfl, hx27⟩
      refine go_ops_nil ?_
      refine go_chk hx27 ?_
      refine go_dp (v := .bool false) rfl (fun w' => y_not_t rfl) rfl ?_
      refine go_dp (v := .bool false) rfl (fun w' => y_move) rfl ?_
      refine go_dq (v := .agg u2.cells) rfl (fun w' hw' => y_load_blk rfl (hb5.ext hw') ty_ag_25 rfl) (on_of (t := 22) rfl rfl) ?_
      refine go_dq (v := .agg #[.int .i64 k, .int .i64 h]) rfl (fun w' hw' => y_load_blk rfl (hb10.ext hw') ty_ag_27 rfl) (on_of (t := 22) rfl rfl) ?_
      refine go_dq (v := .agg u2.cells) rfl (fun w' hw' => y_load_blk rfl (hb5.ext hw') ty_ag_25 rfl) (on_of (t := 22) rfl rfl) ?_
      refine go_dq (v := .agg #[.int .i64 k, .int .i64 h]) rfl (fun w' hw' => y_load_blk rfl (hb10.ext hw') ty_ag_27 rfl) (on_of (t := 22) rfl rfl) ?_
      refine go_de rfl rfl ?_
      refine go_c (enters_func ty_en_21 rfl) (next_ret u2 k h (by omega) (by omega) _) (on_of (t := 22) rfl rfl) ?_
      rintro v28 w30 ⟨hs29, hx31⟩
      have hx31s := hx27.trans hx31
      have hnlv28 := nextF_len u2 k h
      refine go_ops_nil ?_
      refine go_chk hx31s ?_
      refine go_de rfl rfl ?_
      refine go_c (enters_func ty_en_22 rfl) (rnext_ret u2 k h _) (on_of (t := 22) rfl rfl) ?_
      rintro v32 w34 ⟨hs33, hx35⟩
      replace hs29 := hs29.ext hx35
      have hx35s := hx31s.trans hx35
      have hnlv32 := nextF_len u2 k h
      refine go_ops_nil ?_
      refine go_chk hx35s ?_
      refine go_de rfl rfl ?_
      refine go_c (enters_func ty_en_16 rfl) (Ret.mono (same_ret _ _ (nextF u2 k h) (nextF u2 k h) _ hs29 hs33 (by have := nextF_len u2 k h; omega) (by have := nextF_len u2 k h; omega)) (fun v w' h => (⟨h.1.trans (congrArg Value.bool (decide_eq_true rfl)), h.2⟩ : v = .bool true ∧ Ext _ w'))) (on_of (t := 22) rfl rfl) ?_
      rintro _ w36 ⟨rfl, hx37⟩
      replace hs29 := hs29.ext hx37
      replace hs33 := hs33.ext hx37
      have hx37s := hx35s.trans hx37
      refine go_ops_nil ?_
      refine go_chk hx37s ?_
      refine go_dp (v := .bool false) rfl (fun w' => y_not_t rfl) (on_of (t := 22) rfl rfl) ?_
      refine go_dp (v := .bool false) rfl (fun w' => y_pick_f rfl) rfl ?_
      refine go_dp (v := .bool false) rfl (fun w' => y_move) rfl ?_
      refine go_dq (v := .agg u2.cells) rfl (fun w' hw' => y_load_blk rfl (hb5.ext hw') ty_ag_25 rfl) (on_of (t := 32) rfl rfl) ?_
      refine go_dq (v := .agg #[.int .i64 k, .int .i64 h]) rfl (fun w' hw' => y_load_blk rfl (hb10.ext hw') ty_ag_27 rfl) (on_of (t := 32) rfl rfl) ?_
      refine go_dq (v := .agg #[.int .i64 a, .int .i64 b]) rfl (fun w' hw' => y_load_blk rfl (hb16.ext hw') ty_ag_27 rfl) (on_of (t := 32) rfl rfl) ?_
      refine go_dq (v := .agg u2.cells) rfl (fun w' hw' => y_load_blk rfl (hb5.ext hw') ty_ag_25 rfl) (on_of (t := 32) rfl rfl) ?_
      refine go_dq (v := .agg #[.int .i64 k, .int .i64 h]) rfl (fun w' hw' => y_load_blk rfl (hb10.ext hw') ty_ag_27 rfl) (on_of (t := 32) rfl rfl) ?_
      refine go_dq (v := .agg #[.int .i64 a, .int .i64 b]) rfl (fun w' hw' => y_load_blk rfl (hb16.ext hw') ty_ag_27 rfl) (on_of (t := 32) rfl rfl) ?_
      refine go_de rfl rfl ?_
      refine go_c (enters_func ty_en_23 rfl) (cost_ret u2 k h a b (by omega) (by omega) _) (on_of (t := 32) rfl rfl) ?_
      rintro _ w38 ⟨rfl, hx39⟩
      replace hs29 := hs29.ext hx39
      replace hs33 := hs33.ext hx39
      have hx39s := hx37s.trans hx39
      refine go_ops_nil ?_
      refine go_chk hx39s ?_
      refine go_de rfl rfl ?_
      refine go_c (enters_func ty_en_24 rfl) (rcost_ret u2 k h a b _) (on_of (t := 32) rfl rfl) ?_
      rintro _ w40 ⟨rfl, hx41⟩
      replace hs29 := hs29.ext hx41
      replace hs33 := hs33.ext hx41
      have hx41s := hx39s.trans hx41
      refine go_ops_nil ?_
      refine go_chk hx41s ?_
      refine go_dp (v := .bool false) rfl (fun w' => y_dec_f (c := ((costF u2 k h (a, b)) : Int) ≠ (costF u2 k h (a, b))) (y_ne rfl rfl) (fun h => h rfl)) (on_of (t := 32) rfl rfl) ?_
      refine go_dp (v := .bool false) rfl (fun w' => y_pick_f rfl) rfl ?_
      refine go_dops_done ?_
      replace hb5 := hb5.ext hx41s
      replace hb10 := hb10.ext hx41s
      replace hb16 := hb16.ext hx41s
      replace hx := hx.trans hx41s
      refine go_cond_false rfl ?_
      refine go_skip ?_
      refine go_seq ?_
      refine go_region ?_
      refine go_y (v := .agg u2.cells) (y_load_blk rfl hb5 ty_ag_25 rfl) rfl ?_
      refine go_c (enters_func ty_en_18 rfl) (rstates_ret u2 _) rfl ?_
      rintro v42 w44 ⟨hs43, hx45⟩
      replace hb5 := hb5.ext hx45
      replace hb10 := hb10.ext hx45
      replace hb16 := hb16.ext hx45
      replace hs29 := hs29.ext hx45
      replace hs33 := hs33.ext hx45
      replace hx := hx.trans hx45
      refine go_y (v := v42) (y_assign) rfl ?_
      refine go_ops_nil ?_
      refine go_seq ?_
      refine go_seq ?_
      refine go_region ?_
      refine go_y (v := .int .i64 0) (y_assign) rfl ?_
      refine go_ops_nil ?_
      refine go_block ?_
      have hsl := statesF_len u2
      refine go_loop (G := Nat) [8, 10, 11, 12, 45, 46, 47, 48, 49, 50, 51, 52, 53, 54, 55, 56, 57, 58, 59, 60, 61, 62, 63, 64, 65, 66, 67, 68, 69, 70, 71, 72, 73, 74, 75, 76, 77, 78, 79, 80, 81, 82, 83, 84, 85, 86, 87, 88, 89, 90, 91, 92, 93, 94, 95, 96, 97, 98, 99, 100, 101, 102, 103, 104, 105, 106, 107, 108, 109] (fun g => [(10, .int .i64 (g : Int))]) (fun g w' => Ext w w' ∧ Blk w' b2 u2.cells 25 ∧ Blk w' b7 (#[.int .i64 k, .int .i64 h]) 27 ∧ Blk w' b13 (#[.int .i64 a, .int .i64 b]) 27 ∧ SlR w' 2 stc v28 (nextF u2 k h) ∧ SlR w' 2 stc v32 (nextF u2 k h) ∧ SlR w' 2 stc v42 (statesF u2) ∧ g ≤ (statesF u2).length) (fun g => (statesF u2).length - g) 0 ⟨rfl, trivial⟩ ⟨hx, hb5, hb10, hb16, hs29, hs33, hs43, (by omega)⟩ ?_
      clear hx hb5 hb10 hb16 hs29 hs33 hs43
      intro g X47 w46 ⟨hx, hb5, hb10, hb16, hs29, hs33, hs43, hg⟩
      refine go_seq ?_
      refine go_seq ?_
      refine go_region ?_
      refine go_y (v := .int .i64 (g : Int)) (y_move) rfl ?_
      refine go_y (v := v42) (y_move) rfl ?_
      refine go_y (v := .int .i64 ((statesF u2).length : Int)) (y_len_sl hs43 rfl ty_sl_35 _) rfl ?_
      refine go_test (c := ((g : Int) : Int) < ((statesF u2).length : Int)) (y_lt rfl rfl) rfl (fun hc48 => ?_) (fun hc48 => ?_)
      · refine go_ops_nil ?_
        refine go_cond_true rfl ?_
        refine go_skip ?_
        refine go_seq ?_
        refine go_block ?_
        refine go_seq ?_
        refine go_drawn mixed [0, 4] [] (.q 0 (.p 1 (.p 2 (.p 3 (.q 4 (.e 5 (.p 6 .done))))))) (by kernel_rfl) ?_
        intro w49 hx50
        replace hb5 := hb5.ext hx50
        replace hb10 := hb10.ext hx50
        replace hb16 := hb16.ext hx50
        replace hs29 := hs29.ext hx50
        replace hs33 := hs33.ext hx50
        replace hs43 := hs43.ext hx50
        replace hx := hx.trans hx50
        refine go_dq (v := .agg u2.cells) rfl (fun w' hw' => y_load_blk rfl (hb5.ext hw') ty_ag_25 rfl) rfl ?_
        refine go_dp (v := v42) rfl (fun w' => y_move) rfl ?_
        refine go_dp (v := .int .i64 (g : Int)) rfl (fun w' => y_move) rfl ?_
        obtain ⟨a51, ha52⟩ := el_some (l := statesF u2) (i := g) (by omega)
        have hbd58 := states_bd ha52
        obtain ⟨bb53, oo54, cc55, hv56, hc57⟩ := hs43.at_ ha52
        refine go_dp (v := .pointer (some ⟨bb53, oo54 + g * 2, none⟩)) rfl (fun w' => y_idxn g rfl hv56 rfl (by omega) ty_sl_35 (el_lt ha52)) rfl ?_
        refine go_dq (v := .agg #[.int .i64 a51.1, .int .i64 a51.2]) rfl (fun w' hw' => y_load_el rfl (hc57.ext hw') ty_ag_27 rfl) rfl ?_
        refine go_de rfl rfl ?_
        refine go_c (enters_func ty_en_22 rfl) (rnext_ret u2 a51.1 a51.2 _) rfl ?_
        rintro v59 w61 ⟨hs60, hx62⟩
        have hnlv59 := nextF_len u2 a51.1 a51.2
        refine go_ops_nil ?_
        refine go_chk hx62 ?_
        refine go_dp (v := v59) rfl (fun w' => y_assign) rfl ?_
        refine go_dops_done ?_
        replace hb5 := hb5.ext hx62
        replace hb10 := hb10.ext hx62
        replace hb16 := hb16.ext hx62
        replace hs29 := hs29.ext hx62
        replace hs33 := hs33.ext hx62
        replace hs43 := hs43.ext hx62
        replace hc57 := hc57.ext hx62
        replace hx := hx.trans hx62
        refine go_seq ?_
        refine go_seq ?_
        refine go_drawn mixed [0, 4, 10, 14, 15, 17, 21, 22] [] (.q 0 (.p 1 (.p 2 (.p 3 (.q 4 (.p 6 (.e 5 (.e 7 (.p 8 (.p 9 (.q 10 (.p 11 (.p 12 (.p 13 (.q 14 (.q 15 (.q 17 (.p 18 (.p 19 (.p 20 (.q 21 (.q 22 (.e 16 (.e 23 (.p 24 (.p 25 .done)))))))))))))))))))))))))) (by kernel_rfl) ?_
        intro w63 hx64
        replace hb5 := hb5.ext hx64
        replace hb10 := hb10.ext hx64
        replace hb16 := hb16.ext hx64
        replace hs29 := hs29.ext hx64
        replace hs33 := hs33.ext hx64
        replace hs43 := hs43.ext hx64
        replace hs60 := hs60.ext hx64
        replace hx := hx.trans hx64
        refine go_dq (v := .agg u2.cells) rfl (fun w' hw' => y_load_blk rfl (hb5.ext hw') ty_ag_25 rfl) rfl ?_
        refine go_dp (v := v42) rfl (fun w' => y_move) rfl ?_
        refine go_dp (v := .int .i64 (g : Int)) rfl (fun w' => y_move) rfl ?_
        obtain ⟨bb67, oo68, cc69, hv70, hc71⟩ := hs43.at_ ha52
        refine go_dp (v := .pointer (some ⟨bb67, oo68 + g * 2, none⟩)) rfl (fun w' => y_idxn g rfl hv70 rfl (by omega) ty_sl_35 (el_lt ha52)) rfl ?_
        refine go_dq (v := .agg #[.int .i64 a51.1, .int .i64 a51.2]) rfl (fun w' hw' => y_load_el rfl (hc71.ext hw') ty_ag_27 rfl) rfl ?_
        refine go_dp (v := v59) rfl (fun w' => y_move) rfl ?_
        refine go_de rfl rfl ?_
        refine go_c (enters_func ty_en_21 rfl) (next_ret u2 a51.1 a51.2 (by omega) (by omega) _) rfl ?_
        rintro v72 w74 ⟨hs73, hx75⟩
        have hnlv72 := nextF_len u2 a51.1 a51.2
        refine go_ops_nil ?_
        refine go_chk hx75 ?_
        refine go_de rfl rfl ?_
        refine go_c (enters_func ty_en_16 rfl) (Ret.mono (same_ret _ _ (nextF u2 a51.1 a51.2) (nextF u2 a51.1 a51.2) _ hs73 (hs60.ext hx75) (by have := nextF_len u2 a51.1 a51.2; omega) (by have := nextF_len u2 a51.1 a51.2; omega)) (fun v w' h => (⟨h.1.trans (congrArg Value.bool (decide_eq_true rfl)), h.2⟩ : v = .bool true ∧ Ext _ w'))) rfl ?_
        rintro _ w76 ⟨rfl, hx77⟩
        replace hs73 := hs73.ext hx77
        have hx77s := hx75.trans hx77
        refine go_ops_nil ?_
        refine go_chk hx77s ?_
        refine go_dp (v := .bool false) rfl (fun w' => y_not_t rfl) rfl ?_
        refine go_dp (v := .bool false) rfl (fun w' => y_move) rfl ?_
        refine go_dq (v := .agg u2.cells) rfl (fun w' hw' => y_load_blk rfl (hb5.ext hw') ty_ag_25 rfl) (on_of (t := 66) rfl rfl) ?_
        refine go_dp (v := v42) rfl (fun w' => y_move) (on_of (t := 66) rfl rfl) ?_
        refine go_dp (v := .int .i64 (g : Int)) rfl (fun w' => y_move) (on_of (t := 66) rfl rfl) ?_
        obtain ⟨bb80, oo81, cc82, hv83, hc84⟩ := hs43.at_ ha52
        refine go_dp (v := .pointer (some ⟨bb80, oo81 + g * 2, none⟩)) rfl (fun w' => y_idxn g rfl hv83 rfl (by omega) ty_sl_35 (el_lt ha52)) (on_of (t := 66) rfl rfl) ?_
        refine go_dq (v := .agg #[.int .i64 a51.1, .int .i64 a51.2]) rfl (fun w' hw' => y_load_el rfl (hc84.ext hw') ty_ag_27 rfl) (on_of (t := 66) rfl rfl) ?_
        refine go_dq (v := .agg #[.int .i64 a, .int .i64 b]) rfl (fun w' hw' => y_load_blk rfl (hb16.ext hw') ty_ag_27 rfl) (on_of (t := 66) rfl rfl) ?_
        refine go_dq (v := .agg u2.cells) rfl (fun w' hw' => y_load_blk rfl (hb5.ext hw') ty_ag_25 rfl) (on_of (t := 66) rfl rfl) ?_
        refine go_dp (v := v42) rfl (fun w' => y_move) (on_of (t := 66) rfl rfl) ?_
        refine go_dp (v := .int .i64 (g : Int)) rfl (fun w' => y_move) (on_of (t := 66) rfl rfl) ?_
        obtain ⟨bb87, oo88, cc89, hv90, hc91⟩ := hs43.at_ ha52
        refine go_dp (v := .pointer (some ⟨bb87, oo88 + g * 2, none⟩)) rfl (fun w' => y_idxn g rfl hv90 rfl (by omega) ty_sl_35 (el_lt ha52)) (on_of (t := 66) rfl rfl) ?_
        refine go_dq (v := .agg #[.int .i64 a51.1, .int .i64 a51.2]) rfl (fun w' hw' => y_load_el rfl (hc91.ext hw') ty_ag_27 rfl) (on_of (t := 66) rfl rfl) ?_
        refine go_dq (v := .agg #[.int .i64 a, .int .i64 b]) rfl (fun w' hw' => y_load_blk rfl (hb16.ext hw') ty_ag_27 rfl) (on_of (t := 66) rfl rfl) ?_
        refine go_de rfl rfl ?_
        refine go_c (enters_func ty_en_23 rfl) (cost_ret u2 a51.1 a51.2 a b (by omega) (by omega) _) (on_of (t := 66) rfl rfl) ?_
        rintro _ w92 ⟨rfl, hx93⟩
        replace hs73 := hs73.ext hx93
        have hx93s := hx77s.trans hx93
        refine go_ops_nil ?_
        refine go_chk hx93s ?_
        refine go_de rfl rfl ?_
        refine go_c (enters_func ty_en_24 rfl) (rcost_ret u2 a51.1 a51.2 a b _) (on_of (t := 66) rfl rfl) ?_
        rintro _ w94 ⟨rfl, hx95⟩
        replace hs73 := hs73.ext hx95
        have hx95s := hx93s.trans hx95
        refine go_ops_nil ?_
        refine go_chk hx95s ?_
        refine go_dp (v := .bool false) rfl (fun w' => y_dec_f (c := ((costF u2 a51.1 a51.2 (a, b)) : Int) ≠ (costF u2 a51.1 a51.2 (a, b))) (y_ne rfl rfl) (fun h => h rfl)) (on_of (t := 66) rfl rfl) ?_
        refine go_dp (v := .bool false) rfl (fun w' => y_pick_f rfl) rfl ?_
        refine go_dops_done ?_
        replace hb5 := hb5.ext hx95s
        replace hb10 := hb10.ext hx95s
        replace hb16 := hb16.ext hx95s
        replace hs29 := hs29.ext hx95s
        replace hs33 := hs33.ext hx95s
        replace hs43 := hs43.ext hx95s
        replace hs60 := hs60.ext hx95s
        replace hc71 := hc71.ext hx95s
        replace hc84 := hc84.ext hx95s
        replace hc91 := hc91.ext hx95s
        replace hx := hx.trans hx95s
        refine go_cond_false rfl ?_
        refine go_skip ?_
        refine go_seq ?_
        refine go_region ?_
        refine go_y (v := .int .i64 0) (y_assign) rfl ?_
        refine go_ops_nil ?_
        refine go_block ?_
        have hnl2 := nextF_len u2 a51.1 a51.2
        refine go_loop (G := Nat) [8, 12, 83, 84, 85, 86, 87, 88, 89, 90, 91, 92, 93, 94, 95, 96, 97, 98, 99, 100, 101, 102, 103, 104, 105, 106, 107, 108, 109] (fun j => [(12, .int .i64 (j : Int))]) (fun j w' => Ext w w' ∧ Blk w' b2 u2.cells 25 ∧ Blk w' b7 (#[.int .i64 k, .int .i64 h]) 27 ∧ Blk w' b13 (#[.int .i64 a, .int .i64 b]) 27 ∧ SlR w' 2 stc v28 (nextF u2 k h) ∧ SlR w' 2 stc v32 (nextF u2 k h) ∧ SlR w' 2 stc v42 (statesF u2) ∧ SlR w' 2 stc v59 (nextF u2 a51.1 a51.2) ∧ SlR w' 2 stc v72 (nextF u2 a51.1 a51.2) ∧ j ≤ (nextF u2 a51.1 a51.2).length) (fun j => (nextF u2 a51.1 a51.2).length - j) 0 ⟨rfl, trivial⟩ ⟨hx, hb5, hb10, hb16, hs29, hs33, hs43, hs60, hs73, (by omega)⟩ ?_
        clear hx hb5 hb10 hb16 hs29 hs33 hs43 hs60 hs73
        intro j X97 w96 ⟨hx, hb5, hb10, hb16, hs29, hs33, hs43, hs60, hs73, hj⟩
        refine go_seq ?_
        refine go_seq ?_
        refine go_region ?_
        refine go_y (v := .int .i64 (j : Int)) (y_move) rfl ?_
        refine go_y (v := v59) (y_move) rfl ?_
        refine go_y (v := .int .i64 ((nextF u2 a51.1 a51.2).length : Int)) (y_len_sl hs60 rfl ty_sl_35 _) rfl ?_
        refine go_test (c := ((j : Int) : Int) < ((nextF u2 a51.1 a51.2).length : Int)) (y_lt rfl rfl) rfl (fun hc98 => ?_) (fun hc98 => ?_)
        · refine go_ops_nil ?_
          refine go_cond_true rfl ?_
          refine go_skip ?_
          refine go_seq ?_
          refine go_block ?_
          refine go_seq ?_
          refine go_drawn mixed [0, 4, 8, 10, 14, 18] [] (.q 0 (.p 1 (.p 2 (.p 3 (.q 4 (.p 5 (.p 6 (.p 7 (.q 8 (.q 10 (.p 11 (.p 12 (.p 13 (.q 14 (.p 15 (.p 16 (.p 17 (.q 18 (.e 9 (.e 19 (.p 20 .done))))))))))))))))))))) (by kernel_rfl) ?_
          intro w99 hx100
          replace hb5 := hb5.ext hx100
          replace hb10 := hb10.ext hx100
          replace hb16 := hb16.ext hx100
          replace hs29 := hs29.ext hx100
          replace hs33 := hs33.ext hx100
          replace hs43 := hs43.ext hx100
          replace hs60 := hs60.ext hx100
          replace hs73 := hs73.ext hx100
          replace hx := hx.trans hx100
          refine go_dq (v := .agg u2.cells) rfl (fun w' hw' => y_load_blk rfl (hb5.ext hw') ty_ag_25 rfl) rfl ?_
          refine go_dp (v := v42) rfl (fun w' => y_move) rfl ?_
          refine go_dp (v := .int .i64 (g : Int)) rfl (fun w' => y_move) rfl ?_
          obtain ⟨bb103, oo104, cc105, hv106, hc107⟩ := hs43.at_ ha52
          refine go_dp (v := .pointer (some ⟨bb103, oo104 + g * 2, none⟩)) rfl (fun w' => y_idxn g rfl hv106 rfl (by omega) ty_sl_35 (el_lt ha52)) rfl ?_
          refine go_dq (v := .agg #[.int .i64 a51.1, .int .i64 a51.2]) rfl (fun w' hw' => y_load_el rfl (hc107.ext hw') ty_ag_27 rfl) rfl ?_
          refine go_dp (v := v59) rfl (fun w' => y_move) rfl ?_
          refine go_dp (v := .int .i64 (j : Int)) rfl (fun w' => y_move) rfl ?_
          obtain ⟨a108, ha109⟩ := el_some (l := nextF u2 a51.1 a51.2) (i := j) (by omega)
          obtain ⟨bb110, oo111, cc112, hv113, hc114⟩ := hs60.at_ ha109
          refine go_dp (v := .pointer (some ⟨bb110, oo111 + j * 2, none⟩)) rfl (fun w' => y_idxn j rfl hv113 rfl (by omega) ty_sl_35 (el_lt ha109)) rfl ?_
          refine go_dq (v := .agg #[.int .i64 a108.1, .int .i64 a108.2]) rfl (fun w' hw' => y_load_el rfl (hc114.ext hw') ty_ag_27 rfl) rfl ?_
          refine go_dq (v := .agg u2.cells) rfl (fun w' hw' => y_load_blk rfl (hb5.ext hw') ty_ag_25 rfl) rfl ?_
          refine go_dp (v := v42) rfl (fun w' => y_move) rfl ?_
          refine go_dp (v := .int .i64 (g : Int)) rfl (fun w' => y_move) rfl ?_
          obtain ⟨bb117, oo118, cc119, hv120, hc121⟩ := hs43.at_ ha52
          refine go_dp (v := .pointer (some ⟨bb117, oo118 + g * 2, none⟩)) rfl (fun w' => y_idxn g rfl hv120 rfl (by omega) ty_sl_35 (el_lt ha52)) rfl ?_
          refine go_dq (v := .agg #[.int .i64 a51.1, .int .i64 a51.2]) rfl (fun w' hw' => y_load_el rfl (hc121.ext hw') ty_ag_27 rfl) rfl ?_
          refine go_dp (v := v59) rfl (fun w' => y_move) rfl ?_
          refine go_dp (v := .int .i64 (j : Int)) rfl (fun w' => y_move) rfl ?_
          obtain ⟨bb124, oo125, cc126, hv127, hc128⟩ := hs60.at_ ha109
          refine go_dp (v := .pointer (some ⟨bb124, oo125 + j * 2, none⟩)) rfl (fun w' => y_idxn j rfl hv127 rfl (by omega) ty_sl_35 (el_lt ha109)) rfl ?_
          refine go_dq (v := .agg #[.int .i64 a108.1, .int .i64 a108.2]) rfl (fun w' hw' => y_load_el rfl (hc128.ext hw') ty_ag_27 rfl) rfl ?_
          refine go_de rfl rfl ?_
          refine go_c (enters_func ty_en_23 rfl) (cost_ret u2 a51.1 a51.2 a108.1 a108.2 (by omega) (by omega) _) rfl ?_
          rintro _ w129 ⟨rfl, hx130⟩
          refine go_ops_nil ?_
          refine go_chk hx130 ?_
          refine go_de rfl rfl ?_
          refine go_c (enters_func ty_en_24 rfl) (rcost_ret u2 a51.1 a51.2 a108.1 a108.2 _) rfl ?_
          rintro _ w131 ⟨rfl, hx132⟩
          have hx132s := hx130.trans hx132
          refine go_ops_nil ?_
          refine go_chk hx132s ?_
          refine go_dp (v := .bool false) rfl (fun w' => y_dec_f (c := ((costF u2 a51.1 a51.2 (a108.1, a108.2)) : Int) ≠ (costF u2 a51.1 a51.2 (a108.1, a108.2))) (y_ne rfl rfl) (fun h => h rfl)) rfl ?_
          refine go_dops_done ?_
          replace hb5 := hb5.ext hx132s
          replace hb10 := hb10.ext hx132s
          replace hb16 := hb16.ext hx132s
          replace hs29 := hs29.ext hx132s
          replace hs33 := hs33.ext hx132s
          replace hs43 := hs43.ext hx132s
          replace hs60 := hs60.ext hx132s
          replace hs73 := hs73.ext hx132s
          replace hc107 := hc107.ext hx132s
          replace hc114 := hc114.ext hx132s
          replace hc121 := hc121.ext hx132s
          replace hc128 := hc128.ext hx132s
          replace hx := hx.trans hx132s
          refine go_cond_false rfl ?_
          refine go_skip ?_
          refine go_blk ?_
          refine go_region ?_
          refine go_y (v := .int .i64 (j : Int)) (y_move) rfl ?_
          refine go_y (v := .int .i64 ((j : Int) + 1)) (y_add rfl rfl (by unfold in64; omega)) rfl ?_
          refine go_y (v := .int .i64 ((j : Int) + 1)) (y_assign) rfl ?_
          refine go_ops_nil ?_
          refine go_upto ⟨j + 1, ?_, ⟨ie (by omega), trivial⟩, ⟨hx, hb5, hb10, hb16, hs29, hs33, hs43, hs60, hs73, (by omega)⟩, (by omega)⟩
          repeat (refine Agree.upd rfl ?_)
          exact Agree.updL rfl (Agree.havoc rfl (Agree.refl _ _))
        · refine go_ops_nil ?_
          refine go_cond_false rfl ?_
          refine go_exit rfl ?_
          refine go_blk ?_
          refine go_region ?_
          refine go_y (v := .int .i64 (g : Int)) (y_move) rfl ?_
          refine go_y (v := .int .i64 ((g : Int) + 1)) (y_add rfl rfl (by unfold in64; omega)) rfl ?_
          refine go_y (v := .int .i64 ((g : Int) + 1)) (y_assign) rfl ?_
          refine go_ops_nil ?_
          refine go_upto ⟨g + 1, ?_, ⟨ie (by omega), trivial⟩, ⟨hx, hb5, hb10, hb16, hs29, hs33, hs43, (by omega)⟩, (by omega)⟩
          repeat (refine Agree.upd rfl ?_)
          refine Agree.updL rfl (Agree.havoc rfl ?_)
          repeat (refine Agree.upd rfl ?_)
          exact Agree.updL rfl (Agree.havoc rfl (Agree.refl _ _))
      · refine go_ops_nil ?_
        refine go_cond_false rfl ?_
        refine go_exit rfl ?_
        refine go_seq ?_
        refine go_region ?_
        refine go_y (v := .bool true) (y_assign) rfl ?_
        refine go_ops_nil ?_
        refine go_ret ?_
        exact ⟨rfl, hx⟩
end Go.Proofs.Ytedfiemhfpcggaa
