/- The walks of the automaton, part 1. -/
import Derived.Test.YtedfiemhfpcggaaTy
import Derived.Test.YtedfiemhfpcggaaData
import Derived.Test.YtedfiemhfpcggaaData2
namespace Go.Proofs.Ytedfiemhfpcggaa
open Go.Gw Go.RowKit
set_option maxHeartbeats 4000000 in
set_option maxRecDepth 100000 in
theorem small_ret (v n : Int) (w : World) (hn : 0 < n) (hn2 : n ≤ 100) : Ret Try.prog 35 [.int .i64 v, .int .i64 n] w (fun r w' => r = .int .i64 (sm v n) ∧ Ext w w') := by
  have hm := tmod_bd v hn
  refine calls_of_go Try.func35 rfl (by show _ ≤ _; exact Nat.le_of_ble_eq_true rfl) (by kernel_rfl) _ (res1 rfl) ?_
  have hx : Ext w w := Ext.refl w
  refine go_seq ?_
  refine go_region ?_
  refine go_y (v := .int .i64 0) (y_assign) rfl ?_
  refine go_ops_nil ?_
  refine go_seq ?_
  refine go_region ?_
  refine go_y (v := .int .i64 v) (y_move) rfl ?_
  refine go_y (v := .int .i64 n) (y_move) rfl ?_
  refine go_y (v := .int .i64 ((v : Int).tmod n)) (y_rem rfl rfl (by omega)) rfl ?_
  refine go_y (v := .int .i64 n) (y_move) rfl ?_
  refine go_y (v := .int .i64 (((v : Int).tmod n) + n)) (y_add rfl rfl (by unfold in64; omega)) rfl ?_
  refine go_y (v := .int .i64 n) (y_move) rfl ?_
  refine go_y (v := .int .i64 ((((v : Int).tmod n) + n : Int).tmod n)) (y_rem rfl rfl (by omega)) rfl ?_
  refine go_y (v := .int .i64 ((((v : Int).tmod n) + n : Int).tmod n)) (y_assign) rfl ?_
  refine go_ops_nil ?_
  refine go_ret ?_
  exact ⟨rfl, hx⟩

set_option maxHeartbeats 4000000 in
set_option maxRecDepth 100000 in
theorem sound_ret (u : U) (w : World) : Ret Try.prog 12 [.agg u.cells] w (fun v w' => v = .bool (soundB u) ∧ Ext w w') := by
  refine calls_of_go Try.func12 rfl (by show _ ≤ _; exact Nat.le_of_ble_eq_true rfl) (by kernel_rfl) _ (res1 rfl) ?_
  have hx : Ext w w := Ext.refl w
  refine go_seq ?_
  refine go_region ?_
  refine go_box (.agg u.cells) u.cells rfl rfl rfl ?_
  intro w1 b2 hx3 hn4 hb5
  replace hn4 := Nat.le_trans hx.size hn4
  replace hx := hx.trans hx3
  refine go_y (v := .bool false) (y_assign) rfl ?_
  refine go_ops_nil ?_
  refine go_seq ?_
  refine go_seq ?_
  refine go_region ?_
  refine go_y (v := .pointer (some ⟨b2, 10, none⟩)) (y_fieldAddr rfl ty_fl_25_10) rfl ?_
  refine go_y (v := .int .i64 u.up) (y_load_fld rfl hb5 ty_sc_3 rfl) rfl ?_
  refine go_y (v := .pointer (some ⟨b2, 11, none⟩)) (y_fieldAddr rfl ty_fl_25_11) rfl ?_
  refine go_y (v := .int .i64 u.dn) (y_load_fld rfl hb5 ty_sc_3 rfl) rfl ?_
  refine go_y (v := .pointer (some ⟨b2, 12, none⟩)) (y_fieldAddr rfl ty_fl_25_12) rfl ?_
  refine go_y (v := .int .i64 u.st) (y_load_fld rfl hb5 ty_sc_3 rfl) rfl ?_
  refine go_y (v := .pointer (some ⟨b2, 15, none⟩)) (y_fieldAddr rfl ty_fl_25_15) rfl ?_
  refine go_y (v := .int .i64 u.hh) (y_load_fld rfl hb5 ty_sc_3 rfl) rfl ?_
  refine go_y (v := .agg #[.int .i64 u.up, .int .i64 u.dn, .int .i64 u.st, .int .i64 u.hh]) (y_build_arr (#[.int .i64 u.up, .int .i64 u.dn, .int .i64 u.st, .int .i64 u.hh]) ty_ze_53 ty_ua_53 ty_sz_3 (by kernel_rfl)) rfl ?_
  refine go_y (v := .int .i64 0) (y_move) rfl ?_
  refine go_ops_nil ?_
  refine go_block ?_
  refine go_loop (G := Nat) [2, 4, 14, 15, 16, 17, 18, 19, 20, 21, 22, 23] (fun g => [(14, .int .i64 (g : Int))]) (fun g w' => Ext w w' ∧ Blk w' b2 u.cells 25 ∧ g ≤ 4 ∧ (∀ t ∈ (tl u).take g, 0 ≤ t ∧ t ≤ 24)) (fun g => 4 - g) 0 ⟨rfl, trivial⟩ ⟨hx, hb5, (by omega), (by simp)⟩ ?_
  clear hx hb5
  intro g X7 w6 ⟨hx, hb5, hg, ht⟩
  refine go_seq ?_
  refine go_region ?_
  refine go_test (c := ((g : Int) : Int) < 4) (y_lt rfl rfl) rfl (fun hc8 => ?_) (fun hc8 => ?_)
  · refine go_ops_nil ?_
    refine go_seq ?_
    refine go_cond_true rfl ?_
    refine go_skip ?_
    refine go_seq ?_
    refine go_block ?_
    refine go_seq ?_
    refine go_region ?_
    refine go_y (v := .int .i64 ((tl u).getD g 0)) (y_index_arr rfl rfl ty_ua_53 ty_sc_3 ty_sz_3 (by omega) (by omega) (tl_at u _ (by omega))) rfl ?_
    refine go_y (v := .int .i64 ((tl u).getD g 0)) (y_assign) rfl ?_
    refine go_ops_nil ?_
    refine go_seq ?_
    refine go_region ?_
    refine go_y (v := .int .i64 ((tl u).getD g 0)) (y_move) rfl ?_
    refine go_test (c := (((tl u).getD g 0) : Int) < 0) (y_lt rfl rfl) rfl (fun hc9 => ?_) (fun hc9 => ?_)
    · refine go_y (v := .bool true) (y_move) rfl ?_
      refine go_off (off_of (t := 19) (b' := true) rfl rfl rfl) ?_
      refine go_off (off_of (t := 19) (b' := true) rfl rfl rfl) ?_
      refine go_y (v := .bool true) (y_pick_t rfl) rfl ?_
      refine go_ops_nil ?_
      refine go_cond_true rfl ?_
      refine go_seq ?_
      refine go_region ?_
      refine go_y (v := .bool false) (y_assign) rfl ?_
      refine go_ops_nil ?_
      refine go_ret ?_
      exact ⟨congrArg Value.bool (decide_eq_false (by first | omega | (have := tl_all u g ht (by omega); omega) | (have := tl_bad u g (by omega); omega))).symm, hx⟩
    · refine go_y (v := .bool false) (y_move) rfl ?_
      refine go_y (v := .int .i64 ((tl u).getD g 0)) (y_move) (on_of (t := 19) rfl rfl) ?_
      refine go_test (c := (24 : Int) < ((tl u).getD g 0)) (y_gt rfl rfl) (on_of (t := 19) rfl rfl) (fun hc10 => ?_) (fun hc10 => ?_)
      · refine go_y (v := .bool true) (y_pick_f rfl) rfl ?_
        refine go_ops_nil ?_
        refine go_cond_true rfl ?_
        refine go_seq ?_
        refine go_region ?_
        refine go_y (v := .bool false) (y_assign) rfl ?_
        refine go_ops_nil ?_
        refine go_ret ?_
        exact ⟨congrArg Value.bool (decide_eq_false (by first | omega | (have := tl_all u g ht (by omega); omega) | (have := tl_bad u g (by omega); omega))).symm, hx⟩
      · refine go_y (v := .bool false) (y_pick_f rfl) rfl ?_
        refine go_ops_nil ?_
        refine go_cond_false rfl ?_
        refine go_skip ?_
        refine go_blk ?_
        refine go_region ?_
        refine go_y (v := .int .i64 ((g : Int) + 1)) (y_add rfl rfl (by unfold in64; omega)) rfl ?_
        refine go_y (v := .int .i64 ((g : Int) + 1)) (y_move) rfl ?_
        refine go_ops_nil ?_
        refine go_upto ⟨g + 1, ?_, ⟨ie (by omega), trivial⟩, ⟨hx, hb5, (by omega), (tl_step u g (by omega) ht (by omega) (by omega))⟩, (by omega)⟩
        repeat (refine Agree.upd rfl ?_)
        exact Agree.updL rfl (Agree.havoc rfl (Agree.refl _ _))
  · refine go_ops_nil ?_
    refine go_seq ?_
    refine go_cond_false rfl ?_
    refine go_exit rfl ?_
    refine go_seq ?_
    refine go_seq ?_
    refine go_region ?_
    refine go_y (v := .pointer (some ⟨b2, 19, none⟩)) (y_fieldAddr rfl ty_fl_25_19) rfl ?_
    refine go_y (v := .int .i64 u.state) (y_load_fld rfl hb5 ty_sc_3 rfl) rfl ?_
    refine go_test (c := (u.state : Int) ≠ 0) (y_ne rfl rfl) rfl (fun hc9 => ?_) (fun hc9 => ?_)
    · refine go_y (v := .bool true) (y_move) rfl ?_
      refine go_y (v := .pointer (some ⟨b2, 19, none⟩)) (y_fieldAddr rfl ty_fl_25_19) (on_of (t := 27) rfl rfl) ?_
      refine go_y (v := .int .i64 u.state) (y_load_fld rfl hb5 ty_sc_3 rfl) (on_of (t := 27) rfl rfl) ?_
      refine go_test (c := (u.state : Int) ≠ 1) (y_ne rfl rfl) (on_of (t := 27) rfl rfl) (fun hc10 => ?_) (fun hc10 => ?_)
      · refine go_y (v := .bool true) (y_pick_t rfl) rfl ?_
        refine go_y (v := .bool true) (y_move) rfl ?_
        refine go_y (v := .pointer (some ⟨b2, 19, none⟩)) (y_fieldAddr rfl ty_fl_25_19) (on_of (t := 32) rfl rfl) ?_
        refine go_y (v := .int .i64 u.state) (y_load_fld rfl hb5 ty_sc_3 rfl) (on_of (t := 32) rfl rfl) ?_
        refine go_test (c := (u.state : Int) ≠ 2) (y_ne rfl rfl) (on_of (t := 32) rfl rfl) (fun hc11 => ?_) (fun hc11 => ?_)
        · refine go_y (v := .bool true) (y_pick_t rfl) rfl ?_
          refine go_ops_nil ?_
          refine go_cond_true rfl ?_
          refine go_seq ?_
          refine go_region ?_
          refine go_y (v := .bool false) (y_assign) rfl ?_
          refine go_ops_nil ?_
          refine go_ret ?_
          exact ⟨congrArg Value.bool (decide_eq_false (by first | omega | (have := tl_all u g ht (by omega); omega) | (have := tl_bad u g (by omega); omega))).symm, hx⟩
        · refine go_y (v := .bool false) (y_pick_t rfl) rfl ?_
          refine go_ops_nil ?_
          refine go_cond_false rfl ?_
          refine go_skip ?_
          refine go_seq ?_
          refine go_seq ?_
          refine go_region ?_
          refine go_y (v := .pointer (some ⟨b2, 20, none⟩)) (y_fieldAddr rfl ty_fl_25_20) rfl ?_
          refine go_y (v := .int .i64 u.hours) (y_load_fld rfl hb5 ty_sc_3 rfl) rfl ?_
          refine go_test (c := (u.hours : Int) < 1) (y_lt rfl rfl) rfl (fun hc12 => ?_) (fun hc12 => ?_)
          · refine go_y (v := .bool true) (y_move) rfl ?_
            refine go_off (off_of (t := 40) (b' := true) rfl rfl rfl) ?_
            refine go_off (off_of (t := 40) (b' := true) rfl rfl rfl) ?_
            refine go_off (off_of (t := 40) (b' := true) rfl rfl rfl) ?_
            refine go_y (v := .bool true) (y_pick_t rfl) rfl ?_
            refine go_ops_nil ?_
            refine go_cond_true rfl ?_
            refine go_seq ?_
            refine go_region ?_
            refine go_y (v := .bool false) (y_assign) rfl ?_
            refine go_ops_nil ?_
            refine go_ret ?_
            exact ⟨congrArg Value.bool (decide_eq_false (by first | omega | (have := tl_all u g ht (by omega); omega) | (have := tl_bad u g (by omega); omega))).symm, hx⟩
          · refine go_y (v := .bool false) (y_move) rfl ?_
            refine go_y (v := .pointer (some ⟨b2, 20, none⟩)) (y_fieldAddr rfl ty_fl_25_20) (on_of (t := 40) rfl rfl) ?_
            refine go_y (v := .int .i64 u.hours) (y_load_fld rfl hb5 ty_sc_3 rfl) (on_of (t := 40) rfl rfl) ?_
            refine go_test (c := (48 : Int) < u.hours) (y_gt rfl rfl) (on_of (t := 40) rfl rfl) (fun hc13 => ?_) (fun hc13 => ?_)
            · refine go_y (v := .bool true) (y_pick_f rfl) rfl ?_
              refine go_ops_nil ?_
              refine go_cond_true rfl ?_
              refine go_seq ?_
              refine go_region ?_
              refine go_y (v := .bool false) (y_assign) rfl ?_
              refine go_ops_nil ?_
              refine go_ret ?_
              exact ⟨congrArg Value.bool (decide_eq_false (by first | omega | (have := tl_all u g ht (by omega); omega) | (have := tl_bad u g (by omega); omega))).symm, hx⟩
            · refine go_y (v := .bool false) (y_pick_f rfl) rfl ?_
              refine go_ops_nil ?_
              refine go_cond_false rfl ?_
              refine go_skip ?_
              refine go_seq ?_
              refine go_region ?_
              refine go_y (v := .pointer (some ⟨b2, 19, none⟩)) (y_fieldAddr rfl ty_fl_25_19) rfl ?_
              refine go_y (v := .int .i64 u.state) (y_load_fld rfl hb5 ty_sc_3 rfl) rfl ?_
              refine go_test (c := (u.state : Int) ≠ 1) (y_ne rfl rfl) rfl (fun hc14 => ?_) (fun hc14 => ?_)
              · refine go_y (v := .bool true) (y_move) rfl ?_
                refine go_off (off_of (t := 48) (b' := true) rfl rfl rfl) ?_
                refine go_off (off_of (t := 48) (b' := true) rfl rfl rfl) ?_
                refine go_off (off_of (t := 48) (b' := true) rfl rfl rfl) ?_
                refine go_off (off_of (t := 48) (b' := true) rfl rfl rfl) ?_
                refine go_off (off_of (t := 48) (b' := true) rfl rfl rfl) ?_
                refine go_y (v := .bool true) (y_pick_t rfl) rfl ?_
                refine go_y (v := .bool true) (y_assign) rfl ?_
                refine go_ops_nil ?_
                refine go_ret ?_
                exact ⟨congrArg Value.bool (decide_eq_true (by first | omega | (have := tl_all u g ht (by omega); omega) | (have := tl_bad u g (by omega); omega))).symm, hx⟩
              · refine go_y (v := .bool false) (y_move) rfl ?_
                refine go_y (v := .pointer (some ⟨b2, 20, none⟩)) (y_fieldAddr rfl ty_fl_25_20) (on_of (t := 48) rfl rfl) ?_
                refine go_y (v := .int .i64 u.hours) (y_load_fld rfl hb5 ty_sc_3 rfl) (on_of (t := 48) rfl rfl) ?_
                refine go_y (v := .pointer (some ⟨b2, 12, none⟩)) (y_fieldAddr rfl ty_fl_25_12) (on_of (t := 48) rfl rfl) ?_
                refine go_y (v := .int .i64 u.st) (y_load_fld rfl hb5 ty_sc_3 rfl) (on_of (t := 48) rfl rfl) ?_
                refine go_test (c := (u.hours : Int) ≤ u.st) (y_le rfl rfl) (on_of (t := 48) rfl rfl) (fun hc15 => ?_) (fun hc15 => ?_)
                · refine go_y (v := .bool true) (y_pick_f rfl) rfl ?_
                  refine go_y (v := .bool true) (y_assign) rfl ?_
                  refine go_ops_nil ?_
                  refine go_ret ?_
                  exact ⟨congrArg Value.bool (decide_eq_true (by first | omega | (have := tl_all u g ht (by omega); omega) | (have := tl_bad u g (by omega); omega))).symm, hx⟩
                · refine go_y (v := .bool false) (y_pick_f rfl) rfl ?_
                  refine go_y (v := .bool false) (y_assign) rfl ?_
                  refine go_ops_nil ?_
                  refine go_ret ?_
                  exact ⟨congrArg Value.bool (decide_eq_false (by first | omega | (have := tl_all u g ht (by omega); omega) | (have := tl_bad u g (by omega); omega))).symm, hx⟩
      · refine go_y (v := .bool false) (y_pick_t rfl) rfl ?_
        refine go_y (v := .bool false) (y_move) rfl ?_
        refine go_off (off_of (t := 32) (b' := false) rfl rfl rfl) ?_
        refine go_off (off_of (t := 32) (b' := false) rfl rfl rfl) ?_
        refine go_off (off_of (t := 32) (b' := false) rfl rfl rfl) ?_
        refine go_y (v := .bool false) (y_pick_f rfl) rfl ?_
        refine go_ops_nil ?_
        refine go_cond_false rfl ?_
        refine go_skip ?_
        refine go_seq ?_
        refine go_seq ?_
        refine go_region ?_
        refine go_y (v := .pointer (some ⟨b2, 20, none⟩)) (y_fieldAddr rfl ty_fl_25_20) rfl ?_
        refine go_y (v := .int .i64 u.hours) (y_load_fld rfl hb5 ty_sc_3 rfl) rfl ?_
        refine go_test (c := (u.hours : Int) < 1) (y_lt rfl rfl) rfl (fun hc11 => ?_) (fun hc11 => ?_)
        · refine go_y (v := .bool true) (y_move) rfl ?_
          refine go_off (off_of (t := 40) (b' := true) rfl rfl rfl) ?_
          refine go_off (off_of (t := 40) (b' := true) rfl rfl rfl) ?_
          refine go_off (off_of (t := 40) (b' := true) rfl rfl rfl) ?_
          refine go_y (v := .bool true) (y_pick_t rfl) rfl ?_
          refine go_ops_nil ?_
          refine go_cond_true rfl ?_
          refine go_seq ?_
          refine go_region ?_
          refine go_y (v := .bool false) (y_assign) rfl ?_
          refine go_ops_nil ?_
          refine go_ret ?_
          exact ⟨congrArg Value.bool (decide_eq_false (by first | omega | (have := tl_all u g ht (by omega); omega) | (have := tl_bad u g (by omega); omega))).symm, hx⟩
        · refine go_y (v := .bool false) (y_move) rfl ?_
          refine go_y (v := .pointer (some ⟨b2, 20, none⟩)) (y_fieldAddr rfl ty_fl_25_20) (on_of (t := 40) rfl rfl) ?_
          refine go_y (v := .int .i64 u.hours) (y_load_fld rfl hb5 ty_sc_3 rfl) (on_of (t := 40) rfl rfl) ?_
          refine go_test (c := (48 : Int) < u.hours) (y_gt rfl rfl) (on_of (t := 40) rfl rfl) (fun hc12 => ?_) (fun hc12 => ?_)
          · refine go_y (v := .bool true) (y_pick_f rfl) rfl ?_
            refine go_ops_nil ?_
            refine go_cond_true rfl ?_
            refine go_seq ?_
            refine go_region ?_
            refine go_y (v := .bool false) (y_assign) rfl ?_
            refine go_ops_nil ?_
            refine go_ret ?_
            exact ⟨congrArg Value.bool (decide_eq_false (by first | omega | (have := tl_all u g ht (by omega); omega) | (have := tl_bad u g (by omega); omega))).symm, hx⟩
          · refine go_y (v := .bool false) (y_pick_f rfl) rfl ?_
            refine go_ops_nil ?_
            refine go_cond_false rfl ?_
            refine go_skip ?_
            refine go_seq ?_
            refine go_region ?_
            refine go_y (v := .pointer (some ⟨b2, 19, none⟩)) (y_fieldAddr rfl ty_fl_25_19) rfl ?_
            refine go_y (v := .int .i64 u.state) (y_load_fld rfl hb5 ty_sc_3 rfl) rfl ?_
            refine go_test (c := (u.state : Int) ≠ 1) (y_ne rfl rfl) rfl (fun hc13 => ?_) (fun hc13 => ?_)
            · refine go_y (v := .bool true) (y_move) rfl ?_
              refine go_off (off_of (t := 48) (b' := true) rfl rfl rfl) ?_
              refine go_off (off_of (t := 48) (b' := true) rfl rfl rfl) ?_
              refine go_off (off_of (t := 48) (b' := true) rfl rfl rfl) ?_
              refine go_off (off_of (t := 48) (b' := true) rfl rfl rfl) ?_
              refine go_off (off_of (t := 48) (b' := true) rfl rfl rfl) ?_
              refine go_y (v := .bool true) (y_pick_t rfl) rfl ?_
              refine go_y (v := .bool true) (y_assign) rfl ?_
              refine go_ops_nil ?_
              refine go_ret ?_
              exact ⟨congrArg Value.bool (decide_eq_true (by first | omega | (have := tl_all u g ht (by omega); omega) | (have := tl_bad u g (by omega); omega))).symm, hx⟩
            · refine go_y (v := .bool false) (y_move) rfl ?_
              refine go_y (v := .pointer (some ⟨b2, 20, none⟩)) (y_fieldAddr rfl ty_fl_25_20) (on_of (t := 48) rfl rfl) ?_
              refine go_y (v := .int .i64 u.hours) (y_load_fld rfl hb5 ty_sc_3 rfl) (on_of (t := 48) rfl rfl) ?_
              refine go_y (v := .pointer (some ⟨b2, 12, none⟩)) (y_fieldAddr rfl ty_fl_25_12) (on_of (t := 48) rfl rfl) ?_
              refine go_y (v := .int .i64 u.st) (y_load_fld rfl hb5 ty_sc_3 rfl) (on_of (t := 48) rfl rfl) ?_
              refine go_test (c := (u.hours : Int) ≤ u.st) (y_le rfl rfl) (on_of (t := 48) rfl rfl) (fun hc14 => ?_) (fun hc14 => ?_)
              · refine go_y (v := .bool true) (y_pick_f rfl) rfl ?_
                refine go_y (v := .bool true) (y_assign) rfl ?_
                refine go_ops_nil ?_
                refine go_ret ?_
                exact ⟨congrArg Value.bool (decide_eq_true (by first | omega | (have := tl_all u g ht (by omega); omega) | (have := tl_bad u g (by omega); omega))).symm, hx⟩
              · refine go_y (v := .bool false) (y_pick_f rfl) rfl ?_
                refine go_y (v := .bool false) (y_assign) rfl ?_
                refine go_ops_nil ?_
                refine go_ret ?_
                exact ⟨congrArg Value.bool (decide_eq_false (by first | omega | (have := tl_all u g ht (by omega); omega) | (have := tl_bad u g (by omega); omega))).symm, hx⟩
    · refine go_y (v := .bool false) (y_move) rfl ?_
      refine go_off (off_of (t := 27) (b' := false) rfl rfl rfl) ?_
      refine go_off (off_of (t := 27) (b' := false) rfl rfl rfl) ?_
      refine go_off (off_of (t := 27) (b' := false) rfl rfl rfl) ?_
      refine go_y (v := .bool false) (y_pick_f rfl) rfl ?_
      refine go_y (v := .bool false) (y_move) rfl ?_
      refine go_off (off_of (t := 32) (b' := false) rfl rfl rfl) ?_
      refine go_off (off_of (t := 32) (b' := false) rfl rfl rfl) ?_
      refine go_off (off_of (t := 32) (b' := false) rfl rfl rfl) ?_
      refine go_y (v := .bool false) (y_pick_f rfl) rfl ?_
      refine go_ops_nil ?_
      refine go_cond_false rfl ?_
      refine go_skip ?_
      refine go_seq ?_
      refine go_seq ?_
      refine go_region ?_
      refine go_y (v := .pointer (some ⟨b2, 20, none⟩)) (y_fieldAddr rfl ty_fl_25_20) rfl ?_
      refine go_y (v := .int .i64 u.hours) (y_load_fld rfl hb5 ty_sc_3 rfl) rfl ?_
      refine go_test (c := (u.hours : Int) < 1) (y_lt rfl rfl) rfl (fun hc10 => ?_) (fun hc10 => ?_)
      · refine go_y (v := .bool true) (y_move) rfl ?_
        refine go_off (off_of (t := 40) (b' := true) rfl rfl rfl) ?_
        refine go_off (off_of (t := 40) (b' := true) rfl rfl rfl) ?_
        refine go_off (off_of (t := 40) (b' := true) rfl rfl rfl) ?_
        refine go_y (v := .bool true) (y_pick_t rfl) rfl ?_
        refine go_ops_nil ?_
        refine go_cond_true rfl ?_
        refine go_seq ?_
        refine go_region ?_
        refine go_y (v := .bool false) (y_assign) rfl ?_
        refine go_ops_nil ?_
        refine go_ret ?_
        exact ⟨congrArg Value.bool (decide_eq_false (by first | omega | (have := tl_all u g ht (by omega); omega) | (have := tl_bad u g (by omega); omega))).symm, hx⟩
      · refine go_y (v := .bool false) (y_move) rfl ?_
        refine go_y (v := .pointer (some ⟨b2, 20, none⟩)) (y_fieldAddr rfl ty_fl_25_20) (on_of (t := 40) rfl rfl) ?_
        refine go_y (v := .int .i64 u.hours) (y_load_fld rfl hb5 ty_sc_3 rfl) (on_of (t := 40) rfl rfl) ?_
        refine go_test (c := (48 : Int) < u.hours) (y_gt rfl rfl) (on_of (t := 40) rfl rfl) (fun hc11 => ?_) (fun hc11 => ?_)
        · refine go_y (v := .bool true) (y_pick_f rfl) rfl ?_
          refine go_ops_nil ?_
          refine go_cond_true rfl ?_
          refine go_seq ?_
          refine go_region ?_
          refine go_y (v := .bool false) (y_assign) rfl ?_
          refine go_ops_nil ?_
          refine go_ret ?_
          exact ⟨congrArg Value.bool (decide_eq_false (by first | omega | (have := tl_all u g ht (by omega); omega) | (have := tl_bad u g (by omega); omega))).symm, hx⟩
        · refine go_y (v := .bool false) (y_pick_f rfl) rfl ?_
          refine go_ops_nil ?_
          refine go_cond_false rfl ?_
          refine go_skip ?_
          refine go_seq ?_
          refine go_region ?_
          refine go_y (v := .pointer (some ⟨b2, 19, none⟩)) (y_fieldAddr rfl ty_fl_25_19) rfl ?_
          refine go_y (v := .int .i64 u.state) (y_load_fld rfl hb5 ty_sc_3 rfl) rfl ?_
          refine go_test (c := (u.state : Int) ≠ 1) (y_ne rfl rfl) rfl (fun hc12 => ?_) (fun hc12 => ?_)
          · refine go_y (v := .bool true) (y_move) rfl ?_
            refine go_off (off_of (t := 48) (b' := true) rfl rfl rfl) ?_
            refine go_off (off_of (t := 48) (b' := true) rfl rfl rfl) ?_
            refine go_off (off_of (t := 48) (b' := true) rfl rfl rfl) ?_
            refine go_off (off_of (t := 48) (b' := true) rfl rfl rfl) ?_
            refine go_off (off_of (t := 48) (b' := true) rfl rfl rfl) ?_
            refine go_y (v := .bool true) (y_pick_t rfl) rfl ?_
            refine go_y (v := .bool true) (y_assign) rfl ?_
            refine go_ops_nil ?_
            refine go_ret ?_
            exact ⟨congrArg Value.bool (decide_eq_true (by first | omega | (have := tl_all u g ht (by omega); omega) | (have := tl_bad u g (by omega); omega))).symm, hx⟩
          · refine go_y (v := .bool false) (y_move) rfl ?_
            refine go_y (v := .pointer (some ⟨b2, 20, none⟩)) (y_fieldAddr rfl ty_fl_25_20) (on_of (t := 48) rfl rfl) ?_
            refine go_y (v := .int .i64 u.hours) (y_load_fld rfl hb5 ty_sc_3 rfl) (on_of (t := 48) rfl rfl) ?_
            refine go_y (v := .pointer (some ⟨b2, 12, none⟩)) (y_fieldAddr rfl ty_fl_25_12) (on_of (t := 48) rfl rfl) ?_
            refine go_y (v := .int .i64 u.st) (y_load_fld rfl hb5 ty_sc_3 rfl) (on_of (t := 48) rfl rfl) ?_
            refine go_test (c := (u.hours : Int) ≤ u.st) (y_le rfl rfl) (on_of (t := 48) rfl rfl) (fun hc13 => ?_) (fun hc13 => ?_)
            · refine go_y (v := .bool true) (y_pick_f rfl) rfl ?_
              refine go_y (v := .bool true) (y_assign) rfl ?_
              refine go_ops_nil ?_
              refine go_ret ?_
              exact ⟨congrArg Value.bool (decide_eq_true (by first | omega | (have := tl_all u g ht (by omega); omega) | (have := tl_bad u g (by omega); omega))).symm, hx⟩
            · refine go_y (v := .bool false) (y_pick_f rfl) rfl ?_
              refine go_y (v := .bool false) (y_assign) rfl ?_
              refine go_ops_nil ?_
              refine go_ret ?_
              exact ⟨congrArg Value.bool (decide_eq_false (by first | omega | (have := tl_all u g ht (by omega); omega) | (have := tl_bad u g (by omega); omega))).symm, hx⟩

set_option maxHeartbeats 4000000 in
set_option maxRecDepth 100000 in
theorem rsound_ret (u : U) (w : World) : Ret Try.prog 13 [.agg u.cells] w (fun v w' => v = .bool (soundB u) ∧ Ext w w') := by
  refine calls_of_go Try.func13 rfl (by show _ ≤ _; exact Nat.le_of_ble_eq_true rfl) (by kernel_rfl) _ (res1 rfl) ?_
  have hx : Ext w w := Ext.refl w
  refine go_seq ?_
  refine go_region ?_
  refine go_box (.agg u.cells) u.cells rfl rfl rfl ?_
  intro w1 b2 hx3 hn4 hb5
  replace hn4 := Nat.le_trans hx.size hn4
  replace hx := hx.trans hx3
  refine go_y (v := .bool false) (y_assign) rfl ?_
  refine go_ops_nil ?_
  refine go_seq ?_
  refine go_seq ?_
  refine go_region ?_
  refine go_y (v := .pointer (some ⟨b2, 10, none⟩)) (y_fieldAddr rfl ty_fl_25_10) rfl ?_
  refine go_y (v := .int .i64 u.up) (y_load_fld rfl hb5 ty_sc_3 rfl) rfl ?_
  refine go_test (c := (u.up : Int) < 0) (y_lt rfl rfl) rfl (fun hc6 => ?_) (fun hc6 => ?_)
  · refine go_y (v := .bool true) (y_move) rfl ?_
    refine go_off (off_of (t := 6) (b' := true) rfl rfl rfl) ?_
    refine go_off (off_of (t := 6) (b' := true) rfl rfl rfl) ?_
    refine go_off (off_of (t := 6) (b' := true) rfl rfl rfl) ?_
    refine go_y (v := .bool true) (y_pick_t rfl) rfl ?_
    refine go_y (v := .bool true) (y_move) rfl ?_
    refine go_off (off_of (t := 11) (b' := true) rfl rfl rfl) ?_
    refine go_off (off_of (t := 11) (b' := true) rfl rfl rfl) ?_
    refine go_off (off_of (t := 11) (b' := true) rfl rfl rfl) ?_
    refine go_y (v := .bool true) (y_pick_t rfl) rfl ?_
    refine go_y (v := .bool true) (y_move) rfl ?_
    refine go_off (off_of (t := 16) (b' := true) rfl rfl rfl) ?_
    refine go_off (off_of (t := 16) (b' := true) rfl rfl rfl) ?_
    refine go_off (off_of (t := 16) (b' := true) rfl rfl rfl) ?_
    refine go_y (v := .bool true) (y_pick_t rfl) rfl ?_
    refine go_y (v := .bool true) (y_move) rfl ?_
    refine go_off (off_of (t := 21) (b' := true) rfl rfl rfl) ?_
    refine go_off (off_of (t := 21) (b' := true) rfl rfl rfl) ?_
    refine go_off (off_of (t := 21) (b' := true) rfl rfl rfl) ?_
    refine go_y (v := .bool true) (y_pick_t rfl) rfl ?_
    refine go_y (v := .bool true) (y_move) rfl ?_
    refine go_off (off_of (t := 26) (b' := true) rfl rfl rfl) ?_
    refine go_off (off_of (t := 26) (b' := true) rfl rfl rfl) ?_
    refine go_off (off_of (t := 26) (b' := true) rfl rfl rfl) ?_
    refine go_y (v := .bool true) (y_pick_t rfl) rfl ?_
    refine go_y (v := .bool true) (y_move) rfl ?_
    refine go_off (off_of (t := 31) (b' := true) rfl rfl rfl) ?_
    refine go_off (off_of (t := 31) (b' := true) rfl rfl rfl) ?_
    refine go_off (off_of (t := 31) (b' := true) rfl rfl rfl) ?_
    refine go_y (v := .bool true) (y_pick_t rfl) rfl ?_
    refine go_y (v := .bool true) (y_move) rfl ?_
    refine go_off (off_of (t := 36) (b' := true) rfl rfl rfl) ?_
    refine go_off (off_of (t := 36) (b' := true) rfl rfl rfl) ?_
    refine go_off (off_of (t := 36) (b' := true) rfl rfl rfl) ?_
    refine go_y (v := .bool true) (y_pick_t rfl) rfl ?_
    refine go_ops_nil ?_
    refine go_cond_true rfl ?_
    refine go_seq ?_
    refine go_region ?_
    refine go_y (v := .bool false) (y_assign) rfl ?_
    refine go_ops_nil ?_
    refine go_ret ?_
    exact ⟨congrArg Value.bool (decide_eq_false (by omega)).symm, hx⟩
  · refine go_y (v := .bool false) (y_move) rfl ?_
    refine go_y (v := .pointer (some ⟨b2, 10, none⟩)) (y_fieldAddr rfl ty_fl_25_10) (on_of (t := 6) rfl rfl) ?_
    refine go_y (v := .int .i64 u.up) (y_load_fld rfl hb5 ty_sc_3 rfl) (on_of (t := 6) rfl rfl) ?_
    refine go_test (c := (24 : Int) < u.up) (y_gt rfl rfl) (on_of (t := 6) rfl rfl) (fun hc7 => ?_) (fun hc7 => ?_)
    · refine go_y (v := .bool true) (y_pick_f rfl) rfl ?_
      refine go_y (v := .bool true) (y_move) rfl ?_
      refine go_off (off_of (t := 11) (b' := true) rfl rfl rfl) ?_
      refine go_off (off_of (t := 11) (b' := true) rfl rfl rfl) ?_
      refine go_off (off_of (t := 11) (b' := true) rfl rfl rfl) ?_
      refine go_y (v := .bool true) (y_pick_t rfl) rfl ?_
      refine go_y (v := .bool true) (y_move) rfl ?_
      refine go_off (off_of (t := 16) (b' := true) rfl rfl rfl) ?_
      refine go_off (off_of (t := 16) (b' := true) rfl rfl rfl) ?_
      refine go_off (off_of (t := 16) (b' := true) rfl rfl rfl) ?_
      refine go_y (v := .bool true) (y_pick_t rfl) rfl ?_
      refine go_y (v := .bool true) (y_move) rfl ?_
      refine go_off (off_of (t := 21) (b' := true) rfl rfl rfl) ?_
      refine go_off (off_of (t := 21) (b' := true) rfl rfl rfl) ?_
      refine go_off (off_of (t := 21) (b' := true) rfl rfl rfl) ?_
      refine go_y (v := .bool true) (y_pick_t rfl) rfl ?_
      refine go_y (v := .bool true) (y_move) rfl ?_
      refine go_off (off_of (t := 26) (b' := true) rfl rfl rfl) ?_
      refine go_off (off_of (t := 26) (b' := true) rfl rfl rfl) ?_
      refine go_off (off_of (t := 26) (b' := true) rfl rfl rfl) ?_
      refine go_y (v := .bool true) (y_pick_t rfl) rfl ?_
      refine go_y (v := .bool true) (y_move) rfl ?_
      refine go_off (off_of (t := 31) (b' := true) rfl rfl rfl) ?_
      refine go_off (off_of (t := 31) (b' := true) rfl rfl rfl) ?_
      refine go_off (off_of (t := 31) (b' := true) rfl rfl rfl) ?_
      refine go_y (v := .bool true) (y_pick_t rfl) rfl ?_
      refine go_y (v := .bool true) (y_move) rfl ?_
      refine go_off (off_of (t := 36) (b' := true) rfl rfl rfl) ?_
      refine go_off (off_of (t := 36) (b' := true) rfl rfl rfl) ?_
      refine go_off (off_of (t := 36) (b' := true) rfl rfl rfl) ?_
      refine go_y (v := .bool true) (y_pick_t rfl) rfl ?_
      refine go_ops_nil ?_
      refine go_cond_true rfl ?_
      refine go_seq ?_
      refine go_region ?_
      refine go_y (v := .bool false) (y_assign) rfl ?_
      refine go_ops_nil ?_
      refine go_ret ?_
      exact ⟨congrArg Value.bool (decide_eq_false (by omega)).symm, hx⟩
    · refine go_y (v := .bool false) (y_pick_f rfl) rfl ?_
      refine go_y (v := .bool false) (y_move) rfl ?_
      refine go_y (v := .pointer (some ⟨b2, 11, none⟩)) (y_fieldAddr rfl ty_fl_25_11) (on_of (t := 11) rfl rfl) ?_
      refine go_y (v := .int .i64 u.dn) (y_load_fld rfl hb5 ty_sc_3 rfl) (on_of (t := 11) rfl rfl) ?_
      refine go_test (c := (u.dn : Int) < 0) (y_lt rfl rfl) (on_of (t := 11) rfl rfl) (fun hc8 => ?_) (fun hc8 => ?_)
      · refine go_y (v := .bool true) (y_pick_f rfl) rfl ?_
        refine go_y (v := .bool true) (y_move) rfl ?_
        refine go_off (off_of (t := 16) (b' := true) rfl rfl rfl) ?_
        refine go_off (off_of (t := 16) (b' := true) rfl rfl rfl) ?_
        refine go_off (off_of (t := 16) (b' := true) rfl rfl rfl) ?_
        refine go_y (v := .bool true) (y_pick_t rfl) rfl ?_
        refine go_y (v := .bool true) (y_move) rfl ?_
        refine go_off (off_of (t := 21) (b' := true) rfl rfl rfl) ?_
        refine go_off (off_of (t := 21) (b' := true) rfl rfl rfl) ?_
        refine go_off (off_of (t := 21) (b' := true) rfl rfl rfl) ?_
        refine go_y (v := .bool true) (y_pick_t rfl) rfl ?_
        refine go_y (v := .bool true) (y_move) rfl ?_
        refine go_off (off_of (t := 26) (b' := true) rfl rfl rfl) ?_
        refine go_off (off_of (t := 26) (b' := true) rfl rfl rfl) ?_
        refine go_off (off_of (t := 26) (b' := true) rfl rfl rfl) ?_
        refine go_y (v := .bool true) (y_pick_t rfl) rfl ?_
        refine go_y (v := .bool true) (y_move) rfl ?_
        refine go_off (off_of (t := 31) (b' := true) rfl rfl rfl) ?_
        refine go_off (off_of (t := 31) (b' := true) rfl rfl rfl) ?_
        refine go_off (off_of (t := 31) (b' := true) rfl rfl rfl) ?_
        refine go_y (v := .bool true) (y_pick_t rfl) rfl ?_
        refine go_y (v := .bool true) (y_move) rfl ?_
        refine go_off (off_of (t := 36) (b' := true) rfl rfl rfl) ?_
        refine go_off (off_of (t := 36) (b' := true) rfl rfl rfl) ?_
        refine go_off (off_of (t := 36) (b' := true) rfl rfl rfl) ?_
        refine go_y (v := .bool true) (y_pick_t rfl) rfl ?_
        refine go_ops_nil ?_
        refine go_cond_true rfl ?_
        refine go_seq ?_
        refine go_region ?_
        refine go_y (v := .bool false) (y_assign) rfl ?_
        refine go_ops_nil ?_
        refine go_ret ?_
        exact ⟨congrArg Value.bool (decide_eq_false (by omega)).symm, hx⟩
      · refine go_y (v := .bool false) (y_pick_f rfl) rfl ?_
        refine go_y (v := .bool false) (y_move) rfl ?_
        refine go_y (v := .pointer (some ⟨b2, 11, none⟩)) (y_fieldAddr rfl ty_fl_25_11) (on_of (t := 16) rfl rfl) ?_
        refine go_y (v := .int .i64 u.dn) (y_load_fld rfl hb5 ty_sc_3 rfl) (on_of (t := 16) rfl rfl) ?_
        refine go_test (c := (24 : Int) < u.dn) (y_gt rfl rfl) (on_of (t := 16) rfl rfl) (fun hc9 => ?_) (fun hc9 => ?_)
        · refine go_y (v := .bool true) (y_pick_f rfl) rfl ?_
          refine go_y (v := .bool true) (y_move) rfl ?_
          refine go_off (off_of (t := 21) (b' := true) rfl rfl rfl) ?_
          refine go_off (off_of (t := 21) (b' := true) rfl rfl rfl) ?_
          refine go_off (off_of (t := 21) (b' := true) rfl rfl rfl) ?_
          refine go_y (v := .bool true) (y_pick_t rfl) rfl ?_
          refine go_y (v := .bool true) (y_move) rfl ?_
          refine go_off (off_of (t := 26) (b' := true) rfl rfl rfl) ?_
          refine go_off (off_of (t := 26) (b' := true) rfl rfl rfl) ?_
          refine go_off (off_of (t := 26) (b' := true) rfl rfl rfl) ?_
          refine go_y (v := .bool true) (y_pick_t rfl) rfl ?_
          refine go_y (v := .bool true) (y_move) rfl ?_
          refine go_off (off_of (t := 31) (b' := true) rfl rfl rfl) ?_
          refine go_off (off_of (t := 31) (b' := true) rfl rfl rfl) ?_
          refine go_off (off_of (t := 31) (b' := true) rfl rfl rfl) ?_
          refine go_y (v := .bool true) (y_pick_t rfl) rfl ?_
          refine go_y (v := .bool true) (y_move) rfl ?_
          refine go_off (off_of (t := 36) (b' := true) rfl rfl rfl) ?_
          refine go_off (off_of (t := 36) (b' := true) rfl rfl rfl) ?_
          refine go_off (off_of (t := 36) (b' := true) rfl rfl rfl) ?_
          refine go_y (v := .bool true) (y_pick_t rfl) rfl ?_
          refine go_ops_nil ?_
          refine go_cond_true rfl ?_
          refine go_seq ?_
          refine go_region ?_
          refine go_y (v := .bool false) (y_assign) rfl ?_
          refine go_ops_nil ?_
          refine go_ret ?_
          exact ⟨congrArg Value.bool (decide_eq_false (by omega)).symm, hx⟩
        · refine go_y (v := .bool false) (y_pick_f rfl) rfl ?_
          refine go_y (v := .bool false) (y_move) rfl ?_
          refine go_y (v := .pointer (some ⟨b2, 12, none⟩)) (y_fieldAddr rfl ty_fl_25_12) (on_of (t := 21) rfl rfl) ?_
          refine go_y (v := .int .i64 u.st) (y_load_fld rfl hb5 ty_sc_3 rfl) (on_of (t := 21) rfl rfl) ?_
          refine go_test (c := (u.st : Int) < 0) (y_lt rfl rfl) (on_of (t := 21) rfl rfl) (fun hc10 => ?_) (fun hc10 => ?_)
          · refine go_y (v := .bool true) (y_pick_f rfl) rfl ?_
            refine go_y (v := .bool true) (y_move) rfl ?_
            refine go_off (off_of (t := 26) (b' := true) rfl rfl rfl) ?_
            refine go_off (off_of (t := 26) (b' := true) rfl rfl rfl) ?_
            refine go_off (off_of (t := 26) (b' := true) rfl rfl rfl) ?_
            refine go_y (v := .bool true) (y_pick_t rfl) rfl ?_
            refine go_y (v := .bool true) (y_move) rfl ?_
            refine go_off (off_of (t := 31) (b' := true) rfl rfl rfl) ?_
            refine go_off (off_of (t := 31) (b' := true) rfl rfl rfl) ?_
            refine go_off (off_of (t := 31) (b' := true) rfl rfl rfl) ?_
            refine go_y (v := .bool true) (y_pick_t rfl) rfl ?_
            refine go_y (v := .bool true) (y_move) rfl ?_
            refine go_off (off_of (t := 36) (b' := true) rfl rfl rfl) ?_
            refine go_off (off_of (t := 36) (b' := true) rfl rfl rfl) ?_
            refine go_off (off_of (t := 36) (b' := true) rfl rfl rfl) ?_
            refine go_y (v := .bool true) (y_pick_t rfl) rfl ?_
            refine go_ops_nil ?_
            refine go_cond_true rfl ?_
            refine go_seq ?_
            refine go_region ?_
            refine go_y (v := .bool false) (y_assign) rfl ?_
            refine go_ops_nil ?_
            refine go_ret ?_
            exact ⟨congrArg Value.bool (decide_eq_false (by omega)).symm, hx⟩
          · refine go_y (v := .bool false) (y_pick_f rfl) rfl ?_
            refine go_y (v := .bool false) (y_move) rfl ?_
            refine go_y (v := .pointer (some ⟨b2, 12, none⟩)) (y_fieldAddr rfl ty_fl_25_12) (on_of (t := 26) rfl rfl) ?_
            refine go_y (v := .int .i64 u.st) (y_load_fld rfl hb5 ty_sc_3 rfl) (on_of (t := 26) rfl rfl) ?_
            refine go_test (c := (24 : Int) < u.st) (y_gt rfl rfl) (on_of (t := 26) rfl rfl) (fun hc11 => ?_) (fun hc11 => ?_)
            · refine go_y (v := .bool true) (y_pick_f rfl) rfl ?_
              refine go_y (v := .bool true) (y_move) rfl ?_
              refine go_off (off_of (t := 31) (b' := true) rfl rfl rfl) ?_
              refine go_off (off_of (t := 31) (b' := true) rfl rfl rfl) ?_
              refine go_off (off_of (t := 31) (b' := true) rfl rfl rfl) ?_
              refine go_y (v := .bool true) (y_pick_t rfl) rfl ?_
              refine go_y (v := .bool true) (y_move) rfl ?_
              refine go_off (off_of (t := 36) (b' := true) rfl rfl rfl) ?_
              refine go_off (off_of (t := 36) (b' := true) rfl rfl rfl) ?_
              refine go_off (off_of (t := 36) (b' := true) rfl rfl rfl) ?_
              refine go_y (v := .bool true) (y_pick_t rfl) rfl ?_
              refine go_ops_nil ?_
              refine go_cond_true rfl ?_
              refine go_seq ?_
              refine go_region ?_
              refine go_y (v := .bool false) (y_assign) rfl ?_
              refine go_ops_nil ?_
              refine go_ret ?_
              exact ⟨congrArg Value.bool (decide_eq_false (by omega)).symm, hx⟩
            · refine go_y (v := .bool false) (y_pick_f rfl) rfl ?_
              refine go_y (v := .bool false) (y_move) rfl ?_
              refine go_y (v := .pointer (some ⟨b2, 15, none⟩)) (y_fieldAddr rfl ty_fl_25_15) (on_of (t := 31) rfl rfl) ?_
              refine go_y (v := .int .i64 u.hh) (y_load_fld rfl hb5 ty_sc_3 rfl) (on_of (t := 31) rfl rfl) ?_
              refine go_test (c := (u.hh : Int) < 0) (y_lt rfl rfl) (on_of (t := 31) rfl rfl) (fun hc12 => ?_) (fun hc12 => ?_)
              · refine go_y (v := .bool true) (y_pick_f rfl) rfl ?_
                refine go_y (v := .bool true) (y_move) rfl ?_
                refine go_off (off_of (t := 36) (b' := true) rfl rfl rfl) ?_
                refine go_off (off_of (t := 36) (b' := true) rfl rfl rfl) ?_
                refine go_off (off_of (t := 36) (b' := true) rfl rfl rfl) ?_
                refine go_y (v := .bool true) (y_pick_t rfl) rfl ?_
                refine go_ops_nil ?_
                refine go_cond_true rfl ?_
                refine go_seq ?_
                refine go_region ?_
                refine go_y (v := .bool false) (y_assign) rfl ?_
                refine go_ops_nil ?_
                refine go_ret ?_
                exact ⟨congrArg Value.bool (decide_eq_false (by omega)).symm, hx⟩
              · refine go_y (v := .bool false) (y_pick_f rfl) rfl ?_
                refine go_y (v := .bool false) (y_move) rfl ?_
                refine go_y (v := .pointer (some ⟨b2, 15, none⟩)) (y_fieldAddr rfl ty_fl_25_15) (on_of (t := 36) rfl rfl) ?_
                refine go_y (v := .int .i64 u.hh) (y_load_fld rfl hb5 ty_sc_3 rfl) (on_of (t := 36) rfl rfl) ?_
                refine go_test (c := (24 : Int) < u.hh) (y_gt rfl rfl) (on_of (t := 36) rfl rfl) (fun hc13 => ?_) (fun hc13 => ?_)
                · refine go_y (v := .bool true) (y_pick_f rfl) rfl ?_
                  refine go_ops_nil ?_
                  refine go_cond_true rfl ?_
                  refine go_seq ?_
                  refine go_region ?_
                  refine go_y (v := .bool false) (y_assign) rfl ?_
                  refine go_ops_nil ?_
                  refine go_ret ?_
                  exact ⟨congrArg Value.bool (decide_eq_false (by omega)).symm, hx⟩
                · refine go_y (v := .bool false) (y_pick_f rfl) rfl ?_
                  refine go_ops_nil ?_
                  refine go_cond_false rfl ?_
                  refine go_skip ?_
                  refine go_seq ?_
                  refine go_seq ?_
                  refine go_region ?_
                  refine go_y (v := .pointer (some ⟨b2, 19, none⟩)) (y_fieldAddr rfl ty_fl_25_19) rfl ?_
                  refine go_y (v := .int .i64 u.state) (y_load_fld rfl hb5 ty_sc_3 rfl) rfl ?_
                  refine go_test (c := (u.state : Int) ≠ 0) (y_ne rfl rfl) rfl (fun hc14 => ?_) (fun hc14 => ?_)
                  · refine go_y (v := .bool true) (y_move) rfl ?_
                    refine go_y (v := .pointer (some ⟨b2, 19, none⟩)) (y_fieldAddr rfl ty_fl_25_19) (on_of (t := 44) rfl rfl) ?_
                    refine go_y (v := .int .i64 u.state) (y_load_fld rfl hb5 ty_sc_3 rfl) (on_of (t := 44) rfl rfl) ?_
                    refine go_test (c := (u.state : Int) ≠ 1) (y_ne rfl rfl) (on_of (t := 44) rfl rfl) (fun hc15 => ?_) (fun hc15 => ?_)
                    · refine go_y (v := .bool true) (y_pick_t rfl) rfl ?_
                      refine go_y (v := .bool true) (y_move) rfl ?_
                      refine go_y (v := .pointer (some ⟨b2, 19, none⟩)) (y_fieldAddr rfl ty_fl_25_19) (on_of (t := 49) rfl rfl) ?_
                      refine go_y (v := .int .i64 u.state) (y_load_fld rfl hb5 ty_sc_3 rfl) (on_of (t := 49) rfl rfl) ?_
                      refine go_test (c := (u.state : Int) ≠ 2) (y_ne rfl rfl) (on_of (t := 49) rfl rfl) (fun hc16 => ?_) (fun hc16 => ?_)
                      · refine go_y (v := .bool true) (y_pick_t rfl) rfl ?_
                        refine go_y (v := .bool true) (y_move) rfl ?_
                        refine go_off (off_of (t := 54) (b' := true) rfl rfl rfl) ?_
                        refine go_off (off_of (t := 54) (b' := true) rfl rfl rfl) ?_
                        refine go_off (off_of (t := 54) (b' := true) rfl rfl rfl) ?_
                        refine go_y (v := .bool true) (y_pick_t rfl) rfl ?_
                        refine go_y (v := .bool true) (y_move) rfl ?_
                        refine go_off (off_of (t := 59) (b' := true) rfl rfl rfl) ?_
                        refine go_off (off_of (t := 59) (b' := true) rfl rfl rfl) ?_
                        refine go_off (off_of (t := 59) (b' := true) rfl rfl rfl) ?_
                        refine go_y (v := .bool true) (y_pick_t rfl) rfl ?_
                        refine go_ops_nil ?_
                        refine go_cond_true rfl ?_
                        refine go_seq ?_
                        refine go_region ?_
                        refine go_y (v := .bool false) (y_assign) rfl ?_
                        refine go_ops_nil ?_
                        refine go_ret ?_
                        exact ⟨congrArg Value.bool (decide_eq_false (by omega)).symm, hx⟩
                      · refine go_y (v := .bool false) (y_pick_t rfl) rfl ?_
                        refine go_y (v := .bool false) (y_move) rfl ?_
                        refine go_y (v := .pointer (some ⟨b2, 20, none⟩)) (y_fieldAddr rfl ty_fl_25_20) (on_of (t := 54) rfl rfl) ?_
                        refine go_y (v := .int .i64 u.hours) (y_load_fld rfl hb5 ty_sc_3 rfl) (on_of (t := 54) rfl rfl) ?_
                        refine go_test (c := (u.hours : Int) < 1) (y_lt rfl rfl) (on_of (t := 54) rfl rfl) (fun hc17 => ?_) (fun hc17 => ?_)
                        · refine go_y (v := .bool true) (y_pick_f rfl) rfl ?_
                          refine go_y (v := .bool true) (y_move) rfl ?_
                          refine go_off (off_of (t := 59) (b' := true) rfl rfl rfl) ?_
                          refine go_off (off_of (t := 59) (b' := true) rfl rfl rfl) ?_
                          refine go_off (off_of (t := 59) (b' := true) rfl rfl rfl) ?_
                          refine go_y (v := .bool true) (y_pick_t rfl) rfl ?_
                          refine go_ops_nil ?_
                          refine go_cond_true rfl ?_
                          refine go_seq ?_
                          refine go_region ?_
                          refine go_y (v := .bool false) (y_assign) rfl ?_
                          refine go_ops_nil ?_
                          refine go_ret ?_
                          exact ⟨congrArg Value.bool (decide_eq_false (by omega)).symm, hx⟩
                        · refine go_y (v := .bool false) (y_pick_f rfl) rfl ?_
                          refine go_y (v := .bool false) (y_move) rfl ?_
                          refine go_y (v := .pointer (some ⟨b2, 20, none⟩)) (y_fieldAddr rfl ty_fl_25_20) (on_of (t := 59) rfl rfl) ?_
                          refine go_y (v := .int .i64 u.hours) (y_load_fld rfl hb5 ty_sc_3 rfl) (on_of (t := 59) rfl rfl) ?_
                          refine go_test (c := (48 : Int) < u.hours) (y_gt rfl rfl) (on_of (t := 59) rfl rfl) (fun hc18 => ?_) (fun hc18 => ?_)
                          · refine go_y (v := .bool true) (y_pick_f rfl) rfl ?_
                            refine go_ops_nil ?_
                            refine go_cond_true rfl ?_
                            refine go_seq ?_
                            refine go_region ?_
                            refine go_y (v := .bool false) (y_assign) rfl ?_
                            refine go_ops_nil ?_
                            refine go_ret ?_
                            exact ⟨congrArg Value.bool (decide_eq_false (by omega)).symm, hx⟩
                          · refine go_y (v := .bool false) (y_pick_f rfl) rfl ?_
                            refine go_ops_nil ?_
                            refine go_cond_false rfl ?_
                            refine go_skip ?_
                            refine go_seq ?_
                            refine go_region ?_
                            refine go_y (v := .pointer (some ⟨b2, 19, none⟩)) (y_fieldAddr rfl ty_fl_25_19) rfl ?_
                            refine go_y (v := .int .i64 u.state) (y_load_fld rfl hb5 ty_sc_3 rfl) rfl ?_
                            refine go_test (c := (u.state : Int) ≠ 1) (y_ne rfl rfl) rfl (fun hc19 => ?_) (fun hc19 => ?_)
                            · refine go_y (v := .bool true) (y_move) rfl ?_
                              refine go_off (off_of (t := 67) (b' := true) rfl rfl rfl) ?_
                              refine go_off (off_of (t := 67) (b' := true) rfl rfl rfl) ?_
                              refine go_off (off_of (t := 67) (b' := true) rfl rfl rfl) ?_
                              refine go_off (off_of (t := 67) (b' := true) rfl rfl rfl) ?_
                              refine go_off (off_of (t := 67) (b' := true) rfl rfl rfl) ?_
                              refine go_y (v := .bool true) (y_pick_t rfl) rfl ?_
                              refine go_y (v := .bool true) (y_assign) rfl ?_
                              refine go_ops_nil ?_
                              refine go_ret ?_
                              exact ⟨congrArg Value.bool (decide_eq_true (by omega)).symm, hx⟩
                            · refine go_y (v := .bool false) (y_move) rfl ?_
                              refine go_y (v := .pointer (some ⟨b2, 20, none⟩)) (y_fieldAddr rfl ty_fl_25_20) (on_of (t := 67) rfl rfl) ?_
                              refine go_y (v := .int .i64 u.hours) (y_load_fld rfl hb5 ty_sc_3 rfl) (on_of (t := 67) rfl rfl) ?_
                              refine go_y (v := .pointer (some ⟨b2, 12, none⟩)) (y_fieldAddr rfl ty_fl_25_12) (on_of (t := 67) rfl rfl) ?_
                              refine go_y (v := .int .i64 u.st) (y_load_fld rfl hb5 ty_sc_3 rfl) (on_of (t := 67) rfl rfl) ?_
                              refine go_test (c := (u.hours : Int) ≤ u.st) (y_le rfl rfl) (on_of (t := 67) rfl rfl) (fun hc20 => ?_) (fun hc20 => ?_)
                              · refine go_y (v := .bool true) (y_pick_f rfl) rfl ?_
                                refine go_y (v := .bool true) (y_assign) rfl ?_
                                refine go_ops_nil ?_
                                refine go_ret ?_
                                exact ⟨congrArg Value.bool (decide_eq_true (by omega)).symm, hx⟩
                              · refine go_y (v := .bool false) (y_pick_f rfl) rfl ?_
                                refine go_y (v := .bool false) (y_assign) rfl ?_
                                refine go_ops_nil ?_
                                refine go_ret ?_
                                exact ⟨congrArg Value.bool (decide_eq_false (by omega)).symm, hx⟩
                    · refine go_y (v := .bool false) (y_pick_t rfl) rfl ?_
                      refine go_y (v := .bool false) (y_move) rfl ?_
                      refine go_off (off_of (t := 49) (b' := false) rfl rfl rfl) ?_
                      refine go_off (off_of (t := 49) (b' := false) rfl rfl rfl) ?_
                      refine go_off (off_of (t := 49) (b' := false) rfl rfl rfl) ?_
                      refine go_y (v := .bool false) (y_pick_f rfl) rfl ?_
                      refine go_y (v := .bool false) (y_move) rfl ?_
                      refine go_y (v := .pointer (some ⟨b2, 20, none⟩)) (y_fieldAddr rfl ty_fl_25_20) (on_of (t := 54) rfl rfl) ?_
                      refine go_y (v := .int .i64 u.hours) (y_load_fld rfl hb5 ty_sc_3 rfl) (on_of (t := 54) rfl rfl) ?_
                      refine go_test (c := (u.hours : Int) < 1) (y_lt rfl rfl) (on_of (t := 54) rfl rfl) (fun hc16 => ?_) (fun hc16 => ?_)
                      · refine go_y (v := .bool true) (y_pick_f rfl) rfl ?_
                        refine go_y (v := .bool true) (y_move) rfl ?_
                        refine go_off (off_of (t := 59) (b' := true) rfl rfl rfl) ?_
                        refine go_off (off_of (t := 59) (b' := true) rfl rfl rfl) ?_
                        refine go_off (off_of (t := 59) (b' := true) rfl rfl rfl) ?_
                        refine go_y (v := .bool true) (y_pick_t rfl) rfl ?_
                        refine go_ops_nil ?_
                        refine go_cond_true rfl ?_
                        refine go_seq ?_
                        refine go_region ?_
                        refine go_y (v := .bool false) (y_assign) rfl ?_
                        refine go_ops_nil ?_
                        refine go_ret ?_
                        exact ⟨congrArg Value.bool (decide_eq_false (by omega)).symm, hx⟩
                      · refine go_y (v := .bool false) (y_pick_f rfl) rfl ?_
                        refine go_y (v := .bool false) (y_move) rfl ?_
                        refine go_y (v := .pointer (some ⟨b2, 20, none⟩)) (y_fieldAddr rfl ty_fl_25_20) (on_of (t := 59) rfl rfl) ?_
                        refine go_y (v := .int .i64 u.hours) (y_load_fld rfl hb5 ty_sc_3 rfl) (on_of (t := 59) rfl rfl) ?_
                        refine go_test (c := (48 : Int) < u.hours) (y_gt rfl rfl) (on_of (t := 59) rfl rfl) (fun hc17 => ?_) (fun hc17 => ?_)
                        · refine go_y (v := .bool true) (y_pick_f rfl) rfl ?_
                          refine go_ops_nil ?_
                          refine go_cond_true rfl ?_
                          refine go_seq ?_
                          refine go_region ?_
                          refine go_y (v := .bool false) (y_assign) rfl ?_
                          refine go_ops_nil ?_
                          refine go_ret ?_
                          exact ⟨congrArg Value.bool (decide_eq_false (by omega)).symm, hx⟩
                        · refine go_y (v := .bool false) (y_pick_f rfl) rfl ?_
                          refine go_ops_nil ?_
                          refine go_cond_false rfl ?_
                          refine go_skip ?_
                          refine go_seq ?_
                          refine go_region ?_
                          refine go_y (v := .pointer (some ⟨b2, 19, none⟩)) (y_fieldAddr rfl ty_fl_25_19) rfl ?_
                          refine go_y (v := .int .i64 u.state) (y_load_fld rfl hb5 ty_sc_3 rfl) rfl ?_
                          refine go_test (c := (u.state : Int) ≠ 1) (y_ne rfl rfl) rfl (fun hc18 => ?_) (fun hc18 => ?_)
                          · refine go_y (v := .bool true) (y_move) rfl ?_
                            refine go_off (off_of (t := 67) (b' := true) rfl rfl rfl) ?_
                            refine go_off (off_of (t := 67) (b' := true) rfl rfl rfl) ?_
                            refine go_off (off_of (t := 67) (b' := true) rfl rfl rfl) ?_
                            refine go_off (off_of (t := 67) (b' := true) rfl rfl rfl) ?_
                            refine go_off (off_of (t := 67) (b' := true) rfl rfl rfl) ?_
                            refine go_y (v := .bool true) (y_pick_t rfl) rfl ?_
                            refine go_y (v := .bool true) (y_assign) rfl ?_
                            refine go_ops_nil ?_
                            refine go_ret ?_
                            exact ⟨congrArg Value.bool (decide_eq_true (by omega)).symm, hx⟩
                          · refine go_y (v := .bool false) (y_move) rfl ?_
                            refine go_y (v := .pointer (some ⟨b2, 20, none⟩)) (y_fieldAddr rfl ty_fl_25_20) (on_of (t := 67) rfl rfl) ?_
                            refine go_y (v := .int .i64 u.hours) (y_load_fld rfl hb5 ty_sc_3 rfl) (on_of (t := 67) rfl rfl) ?_
                            refine go_y (v := .pointer (some ⟨b2, 12, none⟩)) (y_fieldAddr rfl ty_fl_25_12) (on_of (t := 67) rfl rfl) ?_
                            refine go_y (v := .int .i64 u.st) (y_load_fld rfl hb5 ty_sc_3 rfl) (on_of (t := 67) rfl rfl) ?_
                            refine go_test (c := (u.hours : Int) ≤ u.st) (y_le rfl rfl) (on_of (t := 67) rfl rfl) (fun hc19 => ?_) (fun hc19 => ?_)
                            · refine go_y (v := .bool true) (y_pick_f rfl) rfl ?_
                              refine go_y (v := .bool true) (y_assign) rfl ?_
                              refine go_ops_nil ?_
                              refine go_ret ?_
                              exact ⟨congrArg Value.bool (decide_eq_true (by omega)).symm, hx⟩
                            · refine go_y (v := .bool false) (y_pick_f rfl) rfl ?_
                              refine go_y (v := .bool false) (y_assign) rfl ?_
                              refine go_ops_nil ?_
                              refine go_ret ?_
                              exact ⟨congrArg Value.bool (decide_eq_false (by omega)).symm, hx⟩
                  · refine go_y (v := .bool false) (y_move) rfl ?_
                    refine go_off (off_of (t := 44) (b' := false) rfl rfl rfl) ?_
                    refine go_off (off_of (t := 44) (b' := false) rfl rfl rfl) ?_
                    refine go_off (off_of (t := 44) (b' := false) rfl rfl rfl) ?_
                    refine go_y (v := .bool false) (y_pick_f rfl) rfl ?_
                    refine go_y (v := .bool false) (y_move) rfl ?_
                    refine go_off (off_of (t := 49) (b' := false) rfl rfl rfl) ?_
                    refine go_off (off_of (t := 49) (b' := false) rfl rfl rfl) ?_
                    refine go_off (off_of (t := 49) (b' := false) rfl rfl rfl) ?_
                    refine go_y (v := .bool false) (y_pick_f rfl) rfl ?_
                    refine go_y (v := .bool false) (y_move) rfl ?_
                    refine go_y (v := .pointer (some ⟨b2, 20, none⟩)) (y_fieldAddr rfl ty_fl_25_20) (on_of (t := 54) rfl rfl) ?_
                    refine go_y (v := .int .i64 u.hours) (y_load_fld rfl hb5 ty_sc_3 rfl) (on_of (t := 54) rfl rfl) ?_
                    refine go_test (c := (u.hours : Int) < 1) (y_lt rfl rfl) (on_of (t := 54) rfl rfl) (fun hc15 => ?_) (fun hc15 => ?_)
                    · refine go_y (v := .bool true) (y_pick_f rfl) rfl ?_
                      refine go_y (v := .bool true) (y_move) rfl ?_
                      refine go_off (off_of (t := 59) (b' := true) rfl rfl rfl) ?_
                      refine go_off (off_of (t := 59) (b' := true) rfl rfl rfl) ?_
                      refine go_off (off_of (t := 59) (b' := true) rfl rfl rfl) ?_
                      refine go_y (v := .bool true) (y_pick_t rfl) rfl ?_
                      refine go_ops_nil ?_
                      refine go_cond_true rfl ?_
                      refine go_seq ?_
                      refine go_region ?_
                      refine go_y (v := .bool false) (y_assign) rfl ?_
                      refine go_ops_nil ?_
                      refine go_ret ?_
                      exact ⟨congrArg Value.bool (decide_eq_false (by omega)).symm, hx⟩
                    · refine go_y (v := .bool false) (y_pick_f rfl) rfl ?_
                      refine go_y (v := .bool false) (y_move) rfl ?_
                      refine go_y (v := .pointer (some ⟨b2, 20, none⟩)) (y_fieldAddr rfl ty_fl_25_20) (on_of (t := 59) rfl rfl) ?_
                      refine go_y (v := .int .i64 u.hours) (y_load_fld rfl hb5 ty_sc_3 rfl) (on_of (t := 59) rfl rfl) ?_
                      refine go_test (c := (48 : Int) < u.hours) (y_gt rfl rfl) (on_of (t := 59) rfl rfl) (fun hc16 => ?_) (fun hc16 => ?_)
                      · refine go_y (v := .bool true) (y_pick_f rfl) rfl ?_
                        refine go_ops_nil ?_
                        refine go_cond_true rfl ?_
                        refine go_seq ?_
                        refine go_region ?_
                        refine go_y (v := .bool false) (y_assign) rfl ?_
                        refine go_ops_nil ?_
                        refine go_ret ?_
                        exact ⟨congrArg Value.bool (decide_eq_false (by omega)).symm, hx⟩
                      · refine go_y (v := .bool false) (y_pick_f rfl) rfl ?_
                        refine go_ops_nil ?_
                        refine go_cond_false rfl ?_
                        refine go_skip ?_
                        refine go_seq ?_
                        refine go_region ?_
                        refine go_y (v := .pointer (some ⟨b2, 19, none⟩)) (y_fieldAddr rfl ty_fl_25_19) rfl ?_
                        refine go_y (v := .int .i64 u.state) (y_load_fld rfl hb5 ty_sc_3 rfl) rfl ?_
                        refine go_test (c := (u.state : Int) ≠ 1) (y_ne rfl rfl) rfl (fun hc17 => ?_) (fun hc17 => ?_)
                        · refine go_y (v := .bool true) (y_move) rfl ?_
                          refine go_off (off_of (t := 67) (b' := true) rfl rfl rfl) ?_
                          refine go_off (off_of (t := 67) (b' := true) rfl rfl rfl) ?_
                          refine go_off (off_of (t := 67) (b' := true) rfl rfl rfl) ?_
                          refine go_off (off_of (t := 67) (b' := true) rfl rfl rfl) ?_
                          refine go_off (off_of (t := 67) (b' := true) rfl rfl rfl) ?_
                          refine go_y (v := .bool true) (y_pick_t rfl) rfl ?_
                          refine go_y (v := .bool true) (y_assign) rfl ?_
                          refine go_ops_nil ?_
                          refine go_ret ?_
                          exact ⟨congrArg Value.bool (decide_eq_true (by omega)).symm, hx⟩
                        · refine go_y (v := .bool false) (y_move) rfl ?_
                          refine go_y (v := .pointer (some ⟨b2, 20, none⟩)) (y_fieldAddr rfl ty_fl_25_20) (on_of (t := 67) rfl rfl) ?_
                          refine go_y (v := .int .i64 u.hours) (y_load_fld rfl hb5 ty_sc_3 rfl) (on_of (t := 67) rfl rfl) ?_
                          refine go_y (v := .pointer (some ⟨b2, 12, none⟩)) (y_fieldAddr rfl ty_fl_25_12) (on_of (t := 67) rfl rfl) ?_
                          refine go_y (v := .int .i64 u.st) (y_load_fld rfl hb5 ty_sc_3 rfl) (on_of (t := 67) rfl rfl) ?_
                          refine go_test (c := (u.hours : Int) ≤ u.st) (y_le rfl rfl) (on_of (t := 67) rfl rfl) (fun hc18 => ?_) (fun hc18 => ?_)
                          · refine go_y (v := .bool true) (y_pick_f rfl) rfl ?_
                            refine go_y (v := .bool true) (y_assign) rfl ?_
                            refine go_ops_nil ?_
                            refine go_ret ?_
                            exact ⟨congrArg Value.bool (decide_eq_true (by omega)).symm, hx⟩
                          · refine go_y (v := .bool false) (y_pick_f rfl) rfl ?_
                            refine go_y (v := .bool false) (y_assign) rfl ?_
                            refine go_ops_nil ?_
                            refine go_ret ?_
                            exact ⟨congrArg Value.bool (decide_eq_false (by omega)).symm, hx⟩

set_option maxHeartbeats 4000000 in
set_option maxRecDepth 100000 in
theorem caps_ret (u : U) (hs_u : soundB u = true) (w : World) : Ret Try.prog 9 [.agg u.cells] w (fun v w' => v = .tuple #[.int .i64 (capOff u), .int .i64 (capOn u)] ∧ Ext w w') := by
  have hsd_u := sound_spec hs_u
  refine calls_of_go Try.func9 rfl (by show _ ≤ _; exact Nat.le_of_ble_eq_true rfl) (by kernel_rfl) _ (res2 rfl) ?_
  have hx : Ext w w := Ext.refl w
  refine go_seq ?_
  refine go_region ?_
  refine go_box (.agg u.cells) u.cells rfl rfl rfl ?_
  intro w1 b2 hx3 hn4 hb5
  replace hn4 := Nat.le_trans hx.size hn4
  replace hx := hx.trans hx3
  refine go_y (v := .int .i64 0) (y_assign) rfl ?_
  refine go_y (v := .int .i64 0) (y_assign) rfl ?_
  refine go_ops_nil ?_
  refine go_seq ?_
  refine go_seq ?_
  refine go_region ?_
  refine go_y (v := .agg u.cells) (y_load_blk rfl hb5 ty_ag_25 rfl) rfl ?_
  refine go_c (enters_func ty_en_12 rfl) (Ret.mono (sound_ret u _) (fun v w' h => (⟨h.1.trans (congrArg Value.bool hs_u), h.2⟩ : v = .bool true ∧ Ext _ w'))) rfl ?_
  rintro _ w6 ⟨rfl, hx7⟩
  replace hb5 := hb5.ext hx7
  replace hx := hx.trans hx7
  refine go_y (v := .bool false) (y_not_t rfl) rfl ?_
  refine go_ops_nil ?_
  refine go_cond_false rfl ?_
  refine go_skip ?_
  refine go_seq ?_
  refine go_drawn mixed [1, 3, 7] [] (.p 0 (.q 1 (.p 2 (.q 3 (.p 4 (.p 5 (.p 6 (.q 7 (.p 8 (.p 9 (.p 10 .done))))))))))) (by kernel_rfl) ?_
  intro w8 hx9
  replace hb5 := hb5.ext hx9
  replace hx := hx.trans hx9
  refine go_dp (v := .pointer (some ⟨b2, 11, none⟩)) rfl (fun w' => y_fieldAddr rfl ty_fl_25_11) rfl ?_
  refine go_dq (v := .int .i64 u.dn) rfl (fun w' hw' => y_load_fld rfl (hb5.ext hw') ty_sc_3 rfl) rfl ?_
  refine go_dp (v := .pointer (some ⟨b2, 15, none⟩)) rfl (fun w' => y_fieldAddr rfl ty_fl_25_15) rfl ?_
  refine go_dq (v := .int .i64 u.hh) rfl (fun w' hw' => y_load_fld rfl (hb5.ext hw') ty_sc_3 rfl) rfl ?_
  refine go_dp (v := .int .i64 (u.hh + 1)) rfl (fun w' => y_add rfl rfl (by unfold in64; omega)) rfl ?_
  refine go_dp (v := .int .i64 (max (max u.dn (u.hh + 1)) 1)) rfl (fun w' => y_max3 rfl rfl rfl) rfl ?_
  refine go_dp (v := .pointer (some ⟨b2, 10, none⟩)) rfl (fun w' => y_fieldAddr rfl ty_fl_25_10) rfl ?_
  refine go_dq (v := .int .i64 u.up) rfl (fun w' hw' => y_load_fld rfl (hb5.ext hw') ty_sc_3 rfl) rfl ?_
  refine go_dp (v := .int .i64 (max u.up 1)) rfl (fun w' => y_max2 rfl rfl) rfl ?_
  refine go_dp (v := .int .i64 (max (max u.dn (u.hh + 1)) 1)) rfl (fun w' => y_assign) rfl ?_
  refine go_dp (v := .int .i64 (max u.up 1)) rfl (fun w' => y_assign) rfl ?_
  refine go_dops_done ?_
  refine go_ret ?_
  exact ⟨rfl, hx⟩

set_option maxHeartbeats 4000000 in
set_option maxRecDepth 100000 in
theorem caps_ret0 (u : U) (hs_u : soundB u = false) (w : World) : Ret Try.prog 9 [.agg u.cells] w (fun v w' => v = .tuple #[.int .i64 (0), .int .i64 (0)] ∧ Ext w w') := by
  refine calls_of_go Try.func9 rfl (by show _ ≤ _; exact Nat.le_of_ble_eq_true rfl) (by kernel_rfl) _ (res2 rfl) ?_
  have hx : Ext w w := Ext.refl w
  refine go_seq ?_
  refine go_region ?_
  refine go_box (.agg u.cells) u.cells rfl rfl rfl ?_
  intro w1 b2 hx3 hn4 hb5
  replace hn4 := Nat.le_trans hx.size hn4
  replace hx := hx.trans hx3
  refine go_y (v := .int .i64 0) (y_assign) rfl ?_
  refine go_y (v := .int .i64 0) (y_assign) rfl ?_
  refine go_ops_nil ?_
  refine go_seq ?_
  refine go_seq ?_
  refine go_region ?_
  refine go_y (v := .agg u.cells) (y_load_blk rfl hb5 ty_ag_25 rfl) rfl ?_
  refine go_c (enters_func ty_en_12 rfl) (Ret.mono (sound_ret u _) (fun v w' h => (⟨h.1.trans (congrArg Value.bool hs_u), h.2⟩ : v = .bool false ∧ Ext _ w'))) rfl ?_
  rintro _ w6 ⟨rfl, hx7⟩
  replace hb5 := hb5.ext hx7
  replace hx := hx.trans hx7
  refine go_y (v := .bool true) (y_not_f rfl) rfl ?_
  refine go_ops_nil ?_
  refine go_cond_true rfl ?_
  refine go_seq ?_
  refine go_region ?_
  refine go_y (v := .int .i64 0) (y_assign) rfl ?_
  refine go_y (v := .int .i64 0) (y_assign) rfl ?_
  refine go_ops_nil ?_
  refine go_ret ?_
  exact ⟨rfl, hx⟩

set_option maxHeartbeats 4000000 in
set_option maxRecDepth 100000 in
theorem rcaps_ret (u : U) (hs_u : soundB u = true) (w : World) : Ret Try.prog 10 [.agg u.cells] w (fun v w' => v = .tuple #[.int .i64 (capOff u), .int .i64 (capOn u)] ∧ Ext w w') := by
  have hsd_u := sound_spec hs_u
  refine calls_of_go Try.func10 rfl (by show _ ≤ _; exact Nat.le_of_ble_eq_true rfl) (by kernel_rfl) _ (res2 rfl) ?_
  have hx : Ext w w := Ext.refl w
  refine go_seq ?_
  refine go_region ?_
  refine go_box (.agg u.cells) u.cells rfl rfl rfl ?_
  intro w1 b2 hx3 hn4 hb5
  replace hn4 := Nat.le_trans hx.size hn4
  replace hx := hx.trans hx3
  refine go_y (v := .int .i64 0) (y_assign) rfl ?_
  refine go_y (v := .int .i64 0) (y_assign) rfl ?_
  refine go_ops_nil ?_
  refine go_seq ?_
  refine go_seq ?_
  refine go_region ?_
  refine go_y (v := .agg u.cells) (y_load_blk rfl hb5 ty_ag_25 rfl) rfl ?_
  refine go_c (enters_func ty_en_13 rfl) (Ret.mono (rsound_ret u _) (fun v w' h => (⟨h.1.trans (congrArg Value.bool hs_u), h.2⟩ : v = .bool true ∧ Ext _ w'))) rfl ?_
  rintro _ w6 ⟨rfl, hx7⟩
  replace hb5 := hb5.ext hx7
  replace hx := hx.trans hx7
  refine go_y (v := .bool false) (y_not_t rfl) rfl ?_
  refine go_ops_nil ?_
  refine go_cond_false rfl ?_
  refine go_skip ?_
  refine go_seq ?_
  refine go_drawn mixed [1, 3, 7] [] (.p 0 (.q 1 (.p 2 (.q 3 (.p 4 (.p 5 (.p 6 (.q 7 (.p 8 (.p 9 (.p 10 .done))))))))))) (by kernel_rfl) ?_
  intro w8 hx9
  replace hb5 := hb5.ext hx9
  replace hx := hx.trans hx9
  refine go_dp (v := .pointer (some ⟨b2, 11, none⟩)) rfl (fun w' => y_fieldAddr rfl ty_fl_25_11) rfl ?_
  refine go_dq (v := .int .i64 u.dn) rfl (fun w' hw' => y_load_fld rfl (hb5.ext hw') ty_sc_3 rfl) rfl ?_
  refine go_dp (v := .pointer (some ⟨b2, 15, none⟩)) rfl (fun w' => y_fieldAddr rfl ty_fl_25_15) rfl ?_
  refine go_dq (v := .int .i64 u.hh) rfl (fun w' hw' => y_load_fld rfl (hb5.ext hw') ty_sc_3 rfl) rfl ?_
  refine go_dp (v := .int .i64 (u.hh + 1)) rfl (fun w' => y_add rfl rfl (by unfold in64; omega)) rfl ?_
  refine go_dp (v := .int .i64 (max (max u.dn (u.hh + 1)) 1)) rfl (fun w' => y_max3 rfl rfl rfl) rfl ?_
  refine go_dp (v := .pointer (some ⟨b2, 10, none⟩)) rfl (fun w' => y_fieldAddr rfl ty_fl_25_10) rfl ?_
  refine go_dq (v := .int .i64 u.up) rfl (fun w' hw' => y_load_fld rfl (hb5.ext hw') ty_sc_3 rfl) rfl ?_
  refine go_dp (v := .int .i64 (max u.up 1)) rfl (fun w' => y_max2 rfl rfl) rfl ?_
  refine go_dp (v := .int .i64 (max (max u.dn (u.hh + 1)) 1)) rfl (fun w' => y_assign) rfl ?_
  refine go_dp (v := .int .i64 (max u.up 1)) rfl (fun w' => y_assign) rfl ?_
  refine go_dops_done ?_
  refine go_ret ?_
  exact ⟨rfl, hx⟩

set_option maxHeartbeats 4000000 in
set_option maxRecDepth 100000 in
theorem rcaps_ret0 (u : U) (hs_u : soundB u = false) (w : World) : Ret Try.prog 10 [.agg u.cells] w (fun v w' => v = .tuple #[.int .i64 (0), .int .i64 (0)] ∧ Ext w w') := by
  refine calls_of_go Try.func10 rfl (by show _ ≤ _; exact Nat.le_of_ble_eq_true rfl) (by kernel_rfl) _ (res2 rfl) ?_
  have hx : Ext w w := Ext.refl w
  refine go_seq ?_
  refine go_region ?_
  refine go_box (.agg u.cells) u.cells rfl rfl rfl ?_
  intro w1 b2 hx3 hn4 hb5
  replace hn4 := Nat.le_trans hx.size hn4
  replace hx := hx.trans hx3
  refine go_y (v := .int .i64 0) (y_assign) rfl ?_
  refine go_y (v := .int .i64 0) (y_assign) rfl ?_
  refine go_ops_nil ?_
  refine go_seq ?_
  refine go_seq ?_
  refine go_region ?_
  refine go_y (v := .agg u.cells) (y_load_blk rfl hb5 ty_ag_25 rfl) rfl ?_
  refine go_c (enters_func ty_en_13 rfl) (Ret.mono (rsound_ret u _) (fun v w' h => (⟨h.1.trans (congrArg Value.bool hs_u), h.2⟩ : v = .bool false ∧ Ext _ w'))) rfl ?_
  rintro _ w6 ⟨rfl, hx7⟩
  replace hb5 := hb5.ext hx7
  replace hx := hx.trans hx7
  refine go_y (v := .bool true) (y_not_f rfl) rfl ?_
  refine go_ops_nil ?_
  refine go_cond_true rfl ?_
  refine go_seq ?_
  refine go_region ?_
  refine go_y (v := .int .i64 0) (y_assign) rfl ?_
  refine go_y (v := .int .i64 0) (y_assign) rfl ?_
  refine go_ops_nil ?_
  refine go_ret ?_
  exact ⟨rfl, hx⟩

set_option maxHeartbeats 4000000 in
set_option maxRecDepth 100000 in
theorem initial_ret (u : U) (w : World) : Ret Try.prog 14 [.agg u.cells] w (fun v w' => v = .agg #[.int .i64 (initF u).1, .int .i64 (initF u).2] ∧ Ext w w') := by
  refine calls_of_go Try.func14 rfl (by show _ ≤ _; exact Nat.le_of_ble_eq_true rfl) (by kernel_rfl) _ (resC rfl ty_ag_27) ?_
  have hx : Ext w w := Ext.refl w
  refine go_seq ?_
  refine go_region ?_
  refine go_box (.agg u.cells) u.cells rfl rfl rfl ?_
  intro w1 b2 hx3 hn4 hb5
  replace hn4 := Nat.le_trans hx.size hn4
  replace hx := hx.trans hx3
  refine go_alloc (.agg #[.int .i64 0, .int .i64 0]) (#[.int .i64 0, .int .i64 0]) ty_ze_27 rfl rfl ?_
  intro w6 b7 hx8 hn9 hb10
  have hd11 : b2 ≠ b7 := by have := hb5.lt; omega
  replace hn9 := Nat.le_trans hx.size hn9
  replace hb5 := hb5.ext hx8
  replace hx := hx.trans hx8
  refine go_ops_nil ?_
  refine go_seq ?_
  refine go_seq ?_
  refine go_region ?_
  refine go_y (v := .agg u.cells) (y_load_blk rfl hb5 ty_ag_25 rfl) rfl ?_
  refine go_c (enters_func ty_en_12 rfl) (sound_ret u _) rfl ?_
  rintro _ w12 ⟨rfl, hx13⟩
  replace hb5 := hb5.ext hx13
  replace hb10 := hb10.ext hx13
  replace hx := hx.trans hx13
  cases hs_u : soundB u
  · refine go_y (v := .bool true) (y_not_f rfl) rfl ?_
    refine go_ops_nil ?_
    refine go_cond_true rfl ?_
    refine go_seq ?_
    refine go_region ?_
    refine go_y (v := .agg #[.int .i64 0, .int .i64 0]) (y_build (#[.int .i64 0, .int .i64 0]) ty_ze_27 ty_pl_27 (by kernel_rfl)) rfl ?_
    refine go_store ((#[.int .i64 0, .int .i64 0]).toList) (#[.int .i64 0, .int .i64 0]) rfl rfl rfl ty_sz_27 rfl hb10 (by show _ ≤ _; exact Nat.le_of_ble_eq_true rfl) (by repeat (first | exact one_nil | refine one_cons (by first | rfl | assumption) ?_)) (by kernel_rfl) rfl ?_
    intro w14 hch15 hb10'
    replace hb5 := hb5.chg hch15 (hd11)
    replace hx := hx.chg hch15 hn9
    replace hb10 := hb10'
    refine go_ops_nil ?_
    refine go_ret ?_
    exact ⟨_, (#[.int .i64 0, .int .i64 0]).toList, rfl, rfl, hb10.cellsAt, agg2 (by simp [initF, hs_u] <;> omega) (by simp [initF, hs_u] <;> omega), hx⟩
  · have hsd_u := sound_spec hs_u
    have hcb_u := cap_bd hs_u
    refine go_y (v := .bool false) (y_not_t rfl) rfl ?_
    refine go_ops_nil ?_
    refine go_cond_false rfl ?_
    refine go_skip ?_
    refine go_seq ?_
    refine go_region ?_
    refine go_y (v := .agg u.cells) (y_load_blk rfl hb5 ty_ag_25 rfl) rfl ?_
    refine go_c (enters_func ty_en_9 rfl) (caps_ret u hs_u _) rfl ?_
    rintro _ w14 ⟨rfl, hx15⟩
    replace hb5 := hb5.ext hx15
    replace hb10 := hb10.ext hx15
    replace hx := hx.trans hx15
    refine go_y (v := .tuple #[.int .i64 (capOff u), .int .i64 (capOn u)]) (y_move) rfl ?_
    refine go_y (v := .int .i64 (capOff u)) (y_extract rfl rfl) rfl ?_
    refine go_y (v := .int .i64 (capOn u)) (y_extract rfl rfl) rfl ?_
    refine go_y (v := .int .i64 (capOff u)) (y_assign) rfl ?_
    refine go_y (v := .int .i64 (capOn u)) (y_assign) rfl ?_
    refine go_ops_nil ?_
    refine go_seq ?_
    refine go_region ?_
    refine go_y (v := .pointer (some ⟨b2, 19, none⟩)) (y_fieldAddr rfl ty_fl_25_19) rfl ?_
    refine go_y (v := .int .i64 u.state) (y_load_fld rfl hb5 ty_sc_3 rfl) rfl ?_
    refine go_y (v := .pointer (some ⟨b2, 20, none⟩)) (y_fieldAddr rfl ty_fl_25_20) rfl ?_
    refine go_y (v := .int .i64 u.hours) (y_load_fld rfl hb5 ty_sc_3 rfl) rfl ?_
    refine go_y (v := .agg #[.int .i64 u.state, .int .i64 u.hours]) (y_build (#[.int .i64 u.state, .int .i64 u.hours]) ty_ze_27 ty_pl_27 (by kernel_rfl)) rfl ?_
    refine go_alloc (.agg #[.int .i64 0, .int .i64 0]) (#[.int .i64 0, .int .i64 0]) ty_ze_27 rfl rfl ?_
    intro w16 b17 hx18 hn19 hb20
    have hd21 : b2 ≠ b17 := by have := hb5.lt; omega
    have hd22 : b7 ≠ b17 := by have := hb10.lt; omega
    replace hn19 := Nat.le_trans hx.size hn19
    replace hb5 := hb5.ext hx18
    replace hb10 := hb10.ext hx18
    replace hx := hx.trans hx18
    refine go_store ((#[.int .i64 u.state, .int .i64 u.hours]).toList) (#[.int .i64 u.state, .int .i64 u.hours]) rfl rfl rfl ty_sz_27 rfl hb20 (by show _ ≤ _; exact Nat.le_of_ble_eq_true rfl) (by repeat (first | exact one_nil | refine one_cons (by first | rfl | assumption) ?_)) (by kernel_rfl) rfl ?_
    intro w23 hch24 hb20'
    replace hb5 := hb5.chg hch24 (hd21)
    replace hb10 := hb10.chg hch24 (hd22)
    replace hx := hx.chg hch24 hn19
    replace hb20 := hb20'
    refine go_ops_nil ?_
    refine go_seq ?_
    refine go_seq ?_
    refine go_region ?_
    refine go_y (v := .pointer (some ⟨b17, 0, none⟩)) (y_fieldAddr rfl ty_fl_27_0) rfl ?_
    refine go_y (v := .int .i64 u.state) (y_load_fld rfl hb20 ty_sc_3 rfl) rfl ?_
    refine go_ops_nil ?_
    refine go_block ?_
    refine go_seq ?_
    refine go_region ?_
    refine go_test (c := (u.state : Int) = 0) (y_eq rfl rfl) rfl (fun hc25 => ?_) (fun hc25 => ?_)
    · refine go_y (v := .bool true) (y_assign) rfl ?_
      refine go_ops_nil ?_
      refine go_cond_true rfl ?_
      refine go_region ?_
      refine go_y (v := .pointer (some ⟨b17, 1, none⟩)) (y_fieldAddr rfl ty_fl_27_1) rfl ?_
      refine go_y (v := .int .i64 u.hours) (y_load_fld rfl hb20 ty_sc_3 rfl) rfl ?_
      refine go_y (v := .int .i64 (capOff u)) (y_move) rfl ?_
      refine go_y (v := .int .i64 (min u.hours (capOff u))) (y_min2 rfl rfl) rfl ?_
      refine go_y (v := .pointer (some ⟨b17, 1, none⟩)) (y_fieldAddr rfl ty_fl_27_1) rfl ?_
      refine go_store [.int .i64 (min u.hours (capOff u))] (#[.int .i64 u.state, .int .i64 (min u.hours (capOff u))]) rfl rfl rfl ty_sz_3 rfl hb20 (by show _ ≤ _; exact Nat.le_of_ble_eq_true rfl) (by repeat (first | exact one_nil | refine one_cons (by first | rfl | assumption) ?_)) (by kernel_rfl) rfl ?_
      intro w26 hch27 hb20'
      replace hb5 := hb5.chg hch27 (hd21)
      replace hb10 := hb10.chg hch27 (hd22)
      replace hx := hx.chg hch27 hn19
      replace hb20 := hb20'
      refine go_ops_nil ?_
      refine go_blk ?_
      refine go_seq ?_
      refine go_region ?_
      refine go_y (v := .agg #[.int .i64 u.state, .int .i64 (min u.hours (capOff u))]) (y_load_blk rfl hb20 ty_ag_27 rfl) rfl ?_
      refine go_store ((#[.int .i64 u.state, .int .i64 (min u.hours (capOff u))]).toList) (#[.int .i64 u.state, .int .i64 (min u.hours (capOff u))]) rfl rfl rfl ty_sz_27 rfl hb10 (by show _ ≤ _; exact Nat.le_of_ble_eq_true rfl) (by repeat (first | exact one_nil | refine one_cons (by first | rfl | assumption) ?_)) (by kernel_rfl) rfl ?_
      intro w28 hch29 hb10'
      replace hb5 := hb5.chg hch29 (hd11)
      replace hb20 := hb20.chg hch29 (Ne.symm hd22)
      replace hx := hx.chg hch29 hn9
      replace hb10 := hb10'
      refine go_ops_nil ?_
      refine go_ret ?_
      exact ⟨_, (#[.int .i64 u.state, .int .i64 (min u.hours (capOff u))]).toList, rfl, rfl, hb10.cellsAt, agg2 (by simp [initF, hs_u, hc25] <;> omega) (by simp [initF, hs_u, hc25] <;> omega), hx⟩
    · refine go_y (v := .bool false) (y_assign) rfl ?_
      refine go_ops_nil ?_
      refine go_cond_false rfl ?_
      refine go_seq ?_
      refine go_region ?_
      refine go_test (c := (u.state : Int) = 2) (y_eq rfl rfl) rfl (fun hc26 => ?_) (fun hc26 => ?_)
      · refine go_y (v := .bool true) (y_assign) rfl ?_
        refine go_ops_nil ?_
        refine go_cond_true rfl ?_
        refine go_region ?_
        refine go_y (v := .pointer (some ⟨b17, 1, none⟩)) (y_fieldAddr rfl ty_fl_27_1) rfl ?_
        refine go_y (v := .int .i64 u.hours) (y_load_fld rfl hb20 ty_sc_3 rfl) rfl ?_
        refine go_y (v := .int .i64 (capOn u)) (y_move) rfl ?_
        refine go_y (v := .int .i64 (min u.hours (capOn u))) (y_min2 rfl rfl) rfl ?_
        refine go_y (v := .pointer (some ⟨b17, 1, none⟩)) (y_fieldAddr rfl ty_fl_27_1) rfl ?_
        refine go_store [.int .i64 (min u.hours (capOn u))] (#[.int .i64 u.state, .int .i64 (min u.hours (capOn u))]) rfl rfl rfl ty_sz_3 rfl hb20 (by show _ ≤ _; exact Nat.le_of_ble_eq_true rfl) (by repeat (first | exact one_nil | refine one_cons (by first | rfl | assumption) ?_)) (by kernel_rfl) rfl ?_
        intro w27 hch28 hb20'
        replace hb5 := hb5.chg hch28 (hd21)
        replace hb10 := hb10.chg hch28 (hd22)
        replace hx := hx.chg hch28 hn19
        replace hb20 := hb20'
        refine go_ops_nil ?_
        refine go_blk ?_
        refine go_seq ?_
        refine go_region ?_
        refine go_y (v := .agg #[.int .i64 u.state, .int .i64 (min u.hours (capOn u))]) (y_load_blk rfl hb20 ty_ag_27 rfl) rfl ?_
        refine go_store ((#[.int .i64 u.state, .int .i64 (min u.hours (capOn u))]).toList) (#[.int .i64 u.state, .int .i64 (min u.hours (capOn u))]) rfl rfl rfl ty_sz_27 rfl hb10 (by show _ ≤ _; exact Nat.le_of_ble_eq_true rfl) (by repeat (first | exact one_nil | refine one_cons (by first | rfl | assumption) ?_)) (by kernel_rfl) rfl ?_
        intro w29 hch30 hb10'
        replace hb5 := hb5.chg hch30 (hd11)
        replace hb20 := hb20.chg hch30 (Ne.symm hd22)
        replace hx := hx.chg hch30 hn9
        replace hb10 := hb10'
        refine go_ops_nil ?_
        refine go_ret ?_
        exact ⟨_, (#[.int .i64 u.state, .int .i64 (min u.hours (capOn u))]).toList, rfl, rfl, hb10.cellsAt, agg2 (by simp [initF, hs_u, hc25, hc26] <;> omega) (by simp [initF, hs_u, hc25, hc26] <;> omega), hx⟩
      · refine go_y (v := .bool false) (y_assign) rfl ?_
        refine go_ops_nil ?_
        refine go_cond_false rfl ?_
        refine go_skip ?_
        refine go_blk ?_
        refine go_seq ?_
        refine go_region ?_
        refine go_y (v := .agg #[.int .i64 u.state, .int .i64 u.hours]) (y_load_blk rfl hb20 ty_ag_27 rfl) rfl ?_
        refine go_store ((#[.int .i64 u.state, .int .i64 u.hours]).toList) (#[.int .i64 u.state, .int .i64 u.hours]) rfl rfl rfl ty_sz_27 rfl hb10 (by show _ ≤ _; exact Nat.le_of_ble_eq_true rfl) (by repeat (first | exact one_nil | refine one_cons (by first | rfl | assumption) ?_)) (by kernel_rfl) rfl ?_
        intro w27 hch28 hb10'
        replace hb5 := hb5.chg hch28 (hd11)
        replace hb20 := hb20.chg hch28 (Ne.symm hd22)
        replace hx := hx.chg hch28 hn9
        replace hb10 := hb10'
        refine go_ops_nil ?_
        refine go_ret ?_
        exact ⟨_, (#[.int .i64 u.state, .int .i64 u.hours]).toList, rfl, rfl, hb10.cellsAt, agg2 (by simp [initF, hs_u, hc25, hc26] <;> omega) (by simp [initF, hs_u, hc25, hc26] <;> omega), hx⟩

set_option maxHeartbeats 4000000 in
set_option maxRecDepth 100000 in
theorem rinitial_ret (u : U) (w : World) : Ret Try.prog 15 [.agg u.cells] w (fun v w' => v = .agg #[.int .i64 (initF u).1, .int .i64 (initF u).2] ∧ Ext w w') := by
  refine calls_of_go Try.func15 rfl (by show _ ≤ _; exact Nat.le_of_ble_eq_true rfl) (by kernel_rfl) _ (resC rfl ty_ag_27) ?_
  have hx : Ext w w := Ext.refl w
  refine go_seq ?_
  refine go_region ?_
  refine go_box (.agg u.cells) u.cells rfl rfl rfl ?_
  intro w1 b2 hx3 hn4 hb5
  replace hn4 := Nat.le_trans hx.size hn4
  replace hx := hx.trans hx3
  refine go_alloc (.agg #[.int .i64 0, .int .i64 0]) (#[.int .i64 0, .int .i64 0]) ty_ze_27 rfl rfl ?_
  intro w6 b7 hx8 hn9 hb10
  have hd11 : b2 ≠ b7 := by have := hb5.lt; omega
  replace hn9 := Nat.le_trans hx.size hn9
  replace hb5 := hb5.ext hx8
  replace hx := hx.trans hx8
  refine go_ops_nil ?_
  refine go_seq ?_
  refine go_seq ?_
  refine go_region ?_
  refine go_y (v := .agg u.cells) (y_load_blk rfl hb5 ty_ag_25 rfl) rfl ?_
  refine go_c (enters_func ty_en_13 rfl) (rsound_ret u _) rfl ?_
  rintro _ w12 ⟨rfl, hx13⟩
  replace hb5 := hb5.ext hx13
  replace hb10 := hb10.ext hx13
  replace hx := hx.trans hx13
  cases hs_u : soundB u
  · refine go_y (v := .bool true) (y_not_f rfl) rfl ?_
    refine go_ops_nil ?_
    refine go_cond_true rfl ?_
    refine go_seq ?_
    refine go_region ?_
    refine go_y (v := .agg #[.int .i64 0, .int .i64 0]) (y_build (#[.int .i64 0, .int .i64 0]) ty_ze_27 ty_pl_27 (by kernel_rfl)) rfl ?_
    refine go_store ((#[.int .i64 0, .int .i64 0]).toList) (#[.int .i64 0, .int .i64 0]) rfl rfl rfl ty_sz_27 rfl hb10 (by show _ ≤ _; exact Nat.le_of_ble_eq_true rfl) (by repeat (first | exact one_nil | refine one_cons (by first | rfl | assumption) ?_)) (by kernel_rfl) rfl ?_
    intro w14 hch15 hb10'
    replace hb5 := hb5.chg hch15 (hd11)
    replace hx := hx.chg hch15 hn9
    replace hb10 := hb10'
    refine go_ops_nil ?_
    refine go_ret ?_
    exact ⟨_, (#[.int .i64 0, .int .i64 0]).toList, rfl, rfl, hb10.cellsAt, agg2 (by simp [initF, hs_u] <;> omega) (by simp [initF, hs_u] <;> omega), hx⟩
  · have hsd_u := sound_spec hs_u
    have hcb_u := cap_bd hs_u
    refine go_y (v := .bool false) (y_not_t rfl) rfl ?_
    refine go_ops_nil ?_
    refine go_cond_false rfl ?_
    refine go_skip ?_
    refine go_seq ?_
    refine go_region ?_
    refine go_y (v := .agg u.cells) (y_load_blk rfl hb5 ty_ag_25 rfl) rfl ?_
    refine go_c (enters_func ty_en_10 rfl) (rcaps_ret u hs_u _) rfl ?_
    rintro _ w14 ⟨rfl, hx15⟩
    replace hb5 := hb5.ext hx15
    replace hb10 := hb10.ext hx15
    replace hx := hx.trans hx15
    refine go_y (v := .tuple #[.int .i64 (capOff u), .int .i64 (capOn u)]) (y_move) rfl ?_
    refine go_y (v := .int .i64 (capOff u)) (y_extract rfl rfl) rfl ?_
    refine go_y (v := .int .i64 (capOn u)) (y_extract rfl rfl) rfl ?_
    refine go_y (v := .int .i64 (capOff u)) (y_assign) rfl ?_
    refine go_y (v := .int .i64 (capOn u)) (y_assign) rfl ?_
    refine go_ops_nil ?_
    refine go_seq ?_
    refine go_seq ?_
    refine go_region ?_
    refine go_y (v := .pointer (some ⟨b2, 19, none⟩)) (y_fieldAddr rfl ty_fl_25_19) rfl ?_
    refine go_y (v := .int .i64 u.state) (y_load_fld rfl hb5 ty_sc_3 rfl) rfl ?_
    refine go_ops_nil ?_
    refine go_block ?_
    refine go_seq ?_
    refine go_region ?_
    refine go_test (c := (u.state : Int) = 0) (y_eq rfl rfl) rfl (fun hc16 => ?_) (fun hc16 => ?_)
    · refine go_y (v := .bool true) (y_assign) rfl ?_
      refine go_ops_nil ?_
      refine go_cond_true rfl ?_
      refine go_seq ?_
      refine go_region ?_
      refine go_y (v := .pointer (some ⟨b2, 20, none⟩)) (y_fieldAddr rfl ty_fl_25_20) rfl ?_
      refine go_y (v := .int .i64 u.hours) (y_load_fld rfl hb5 ty_sc_3 rfl) rfl ?_
      refine go_y (v := .int .i64 (capOff u)) (y_move) rfl ?_
      refine go_y (v := .int .i64 (min u.hours (capOff u))) (y_min2 rfl rfl) rfl ?_
      refine go_y (v := .agg #[.int .i64 0, .int .i64 (min u.hours (capOff u))]) (y_build (#[.int .i64 0, .int .i64 (min u.hours (capOff u))]) ty_ze_27 ty_pl_27 (by kernel_rfl)) rfl ?_
      refine go_store ((#[.int .i64 0, .int .i64 (min u.hours (capOff u))]).toList) (#[.int .i64 0, .int .i64 (min u.hours (capOff u))]) rfl rfl rfl ty_sz_27 rfl hb10 (by show _ ≤ _; exact Nat.le_of_ble_eq_true rfl) (by repeat (first | exact one_nil | refine one_cons (by first | rfl | assumption) ?_)) (by kernel_rfl) rfl ?_
      intro w17 hch18 hb10'
      replace hb5 := hb5.chg hch18 (hd11)
      replace hx := hx.chg hch18 hn9
      replace hb10 := hb10'
      refine go_ops_nil ?_
      refine go_ret ?_
      exact ⟨_, (#[.int .i64 0, .int .i64 (min u.hours (capOff u))]).toList, rfl, rfl, hb10.cellsAt, agg2 (by simp [initF, hs_u, hc16] <;> omega) (by simp [initF, hs_u, hc16] <;> omega), hx⟩
    · refine go_y (v := .bool false) (y_assign) rfl ?_
      refine go_ops_nil ?_
      refine go_cond_false rfl ?_
      refine go_seq ?_
      refine go_region ?_
      refine go_test (c := (u.state : Int) = 2) (y_eq rfl rfl) rfl (fun hc17 => ?_) (fun hc17 => ?_)
      · refine go_y (v := .bool true) (y_assign) rfl ?_
        refine go_ops_nil ?_
        refine go_cond_true rfl ?_
        refine go_seq ?_
        refine go_region ?_
        refine go_y (v := .pointer (some ⟨b2, 20, none⟩)) (y_fieldAddr rfl ty_fl_25_20) rfl ?_
        refine go_y (v := .int .i64 u.hours) (y_load_fld rfl hb5 ty_sc_3 rfl) rfl ?_
        refine go_y (v := .int .i64 (capOn u)) (y_move) rfl ?_
        refine go_y (v := .int .i64 (min u.hours (capOn u))) (y_min2 rfl rfl) rfl ?_
        refine go_y (v := .agg #[.int .i64 2, .int .i64 (min u.hours (capOn u))]) (y_build (#[.int .i64 2, .int .i64 (min u.hours (capOn u))]) ty_ze_27 ty_pl_27 (by kernel_rfl)) rfl ?_
        refine go_store ((#[.int .i64 2, .int .i64 (min u.hours (capOn u))]).toList) (#[.int .i64 2, .int .i64 (min u.hours (capOn u))]) rfl rfl rfl ty_sz_27 rfl hb10 (by show _ ≤ _; exact Nat.le_of_ble_eq_true rfl) (by repeat (first | exact one_nil | refine one_cons (by first | rfl | assumption) ?_)) (by kernel_rfl) rfl ?_
        intro w18 hch19 hb10'
        replace hb5 := hb5.chg hch19 (hd11)
        replace hx := hx.chg hch19 hn9
        replace hb10 := hb10'
        refine go_ops_nil ?_
        refine go_ret ?_
        exact ⟨_, (#[.int .i64 2, .int .i64 (min u.hours (capOn u))]).toList, rfl, rfl, hb10.cellsAt, agg2 (by simp [initF, hs_u, hc16, hc17] <;> omega) (by simp [initF, hs_u, hc16, hc17] <;> omega), hx⟩
      · refine go_y (v := .bool false) (y_assign) rfl ?_
        refine go_ops_nil ?_
        refine go_cond_false rfl ?_
        refine go_skip ?_
        refine go_blk ?_
        refine go_seq ?_
        refine go_region ?_
        refine go_y (v := .pointer (some ⟨b2, 20, none⟩)) (y_fieldAddr rfl ty_fl_25_20) rfl ?_
        refine go_y (v := .int .i64 u.hours) (y_load_fld rfl hb5 ty_sc_3 rfl) rfl ?_
        refine go_y (v := .agg #[.int .i64 1, .int .i64 u.hours]) (y_build (#[.int .i64 1, .int .i64 u.hours]) ty_ze_27 ty_pl_27 (by kernel_rfl)) rfl ?_
        refine go_store ((#[.int .i64 1, .int .i64 u.hours]).toList) (#[.int .i64 1, .int .i64 u.hours]) rfl rfl rfl ty_sz_27 rfl hb10 (by show _ ≤ _; exact Nat.le_of_ble_eq_true rfl) (by repeat (first | exact one_nil | refine one_cons (by first | rfl | assumption) ?_)) (by kernel_rfl) rfl ?_
        intro w18 hch19 hb10'
        replace hb5 := hb5.chg hch19 (hd11)
        replace hx := hx.chg hch19 hn9
        replace hb10 := hb10'
        refine go_ops_nil ?_
        refine go_ret ?_
        exact ⟨_, (#[.int .i64 1, .int .i64 u.hours]).toList, rfl, rfl, hb10.cellsAt, agg2 (by simp [initF, hs_u, hc16, hc17] <;> omega) (by simp [initF, hs_u, hc16, hc17] <;> omega), hx⟩

set_option maxHeartbeats 4000000 in
set_option maxRecDepth 100000 in
theorem position_ret (u : U) (k h : Int) (hh1 : -9223372036854775808 ≤ h) (hh2 : h ≤ 9223372036854775807) (w : World) : Ret Try.prog 19 [.agg u.cells, .agg #[.int .i64 k, .int .i64 h]] w (fun v w' => v = .int .i64 (posF u k h) ∧ Ext w w') := by
  refine calls_of_go Try.func19 rfl (by show _ ≤ _; exact Nat.le_of_ble_eq_true rfl) (by kernel_rfl) _ (res1 rfl) ?_
  have hx : Ext w w := Ext.refl w
  refine go_seq ?_
  refine go_region ?_
  refine go_box (.agg u.cells) u.cells rfl rfl rfl ?_
  intro w1 b2 hx3 hn4 hb5
  replace hn4 := Nat.le_trans hx.size hn4
  replace hx := hx.trans hx3
  refine go_box (.agg #[.int .i64 k, .int .i64 h]) (#[.int .i64 k, .int .i64 h]) rfl rfl rfl ?_
  intro w6 b7 hx8 hn9 hb10
  have hd11 : b2 ≠ b7 := by have := hb5.lt; omega
  replace hn9 := Nat.le_trans hx.size hn9
  replace hb5 := hb5.ext hx8
  replace hx := hx.trans hx8
  refine go_y (v := .int .i64 0) (y_assign) rfl ?_
  refine go_ops_nil ?_
  refine go_seq ?_
  refine go_seq ?_
  refine go_region ?_
  refine go_y (v := .agg u.cells) (y_load_blk rfl hb5 ty_ag_25 rfl) rfl ?_
  refine go_c (enters_func ty_en_12 rfl) (sound_ret u _) rfl ?_
  rintro _ w12 ⟨rfl, hx13⟩
  replace hb5 := hb5.ext hx13
  replace hb10 := hb10.ext hx13
  replace hx := hx.trans hx13
  cases hs_u : soundB u
  · refine go_y (v := .bool true) (y_not_f rfl) rfl ?_
    refine go_y (v := .bool true) (y_move) rfl ?_
    refine go_off (off_of (t := 10) (b' := true) rfl rfl rfl) ?_
    refine go_off (off_of (t := 10) (b' := true) rfl rfl rfl) ?_
    refine go_off (off_of (t := 10) (b' := true) rfl rfl rfl) ?_
    refine go_y (v := .bool true) (y_pick_t rfl) rfl ?_
    refine go_ops_nil ?_
    refine go_cond_true rfl ?_
    refine go_seq ?_
    refine go_region ?_
    refine go_y (v := .int .i64 (-1)) (y_assign) rfl ?_
    refine go_ops_nil ?_
    refine go_ret ?_
    exact ⟨ie (by simp [posF, hs_u] <;> (repeat' split) <;> omega), hx⟩
  · have hsd_u := sound_spec hs_u
    have hcb_u := cap_bd hs_u
    refine go_y (v := .bool false) (y_not_t rfl) rfl ?_
    refine go_y (v := .bool false) (y_move) rfl ?_
    refine go_y (v := .pointer (some ⟨b7, 1, none⟩)) (y_fieldAddr rfl ty_fl_27_1) (on_of (t := 10) rfl rfl) ?_
    refine go_y (v := .int .i64 h) (y_load_fld rfl hb10 ty_sc_3 rfl) (on_of (t := 10) rfl rfl) ?_
    refine go_test (c := (h : Int) < 1) (y_lt rfl rfl) (on_of (t := 10) rfl rfl) (fun hc14 => ?_) (fun hc14 => ?_)
    · refine go_y (v := .bool true) (y_pick_f rfl) rfl ?_
      refine go_ops_nil ?_
      refine go_cond_true rfl ?_
      refine go_seq ?_
      refine go_region ?_
      refine go_y (v := .int .i64 (-1)) (y_assign) rfl ?_
      refine go_ops_nil ?_
      refine go_ret ?_
      exact ⟨ie (by simp [posF, hs_u] <;> (repeat' split) <;> omega), hx⟩
    · refine go_y (v := .bool false) (y_pick_f rfl) rfl ?_
      refine go_ops_nil ?_
      refine go_cond_false rfl ?_
      refine go_skip ?_
      refine go_seq ?_
      refine go_region ?_
      refine go_y (v := .agg u.cells) (y_load_blk rfl hb5 ty_ag_25 rfl) rfl ?_
      refine go_c (enters_func ty_en_9 rfl) (caps_ret u hs_u _) rfl ?_
      rintro _ w15 ⟨rfl, hx16⟩
      replace hb5 := hb5.ext hx16
      replace hb10 := hb10.ext hx16
      replace hx := hx.trans hx16
      refine go_y (v := .tuple #[.int .i64 (capOff u), .int .i64 (capOn u)]) (y_move) rfl ?_
      refine go_y (v := .int .i64 (capOff u)) (y_extract rfl rfl) rfl ?_
      refine go_y (v := .int .i64 (capOn u)) (y_extract rfl rfl) rfl ?_
      refine go_y (v := .int .i64 (capOff u)) (y_assign) rfl ?_
      refine go_y (v := .int .i64 (capOn u)) (y_assign) rfl ?_
      refine go_ops_nil ?_
      refine go_seq ?_
      refine go_block ?_
      refine go_seq ?_
      refine go_region ?_
      refine go_y (v := .pointer (some ⟨b7, 0, none⟩)) (y_fieldAddr rfl ty_fl_27_0) rfl ?_
      refine go_y (v := .int .i64 k) (y_load_fld rfl hb10 ty_sc_3 rfl) rfl ?_
      refine go_test (c := (k : Int) = 0) (y_eq rfl rfl) rfl (fun hc17 => ?_) (fun hc17 => ?_)
      · refine go_y (v := .bool true) (y_move) rfl ?_
        refine go_y (v := .pointer (some ⟨b7, 1, none⟩)) (y_fieldAddr rfl ty_fl_27_1) (on_of (t := 24) rfl rfl) ?_
        refine go_y (v := .int .i64 h) (y_load_fld rfl hb10 ty_sc_3 rfl) (on_of (t := 24) rfl rfl) ?_
        refine go_y (v := .int .i64 (capOff u)) (y_move) (on_of (t := 24) rfl rfl) ?_
        refine go_test (c := (h : Int) ≤ (capOff u)) (y_le rfl rfl) (on_of (t := 24) rfl rfl) (fun hc18 => ?_) (fun hc18 => ?_)
        · refine go_y (v := .bool true) (y_pick_t rfl) rfl ?_
          refine go_y (v := .bool true) (y_assign) rfl ?_
          refine go_ops_nil ?_
          refine go_cond_true rfl ?_
          refine go_seq ?_
          refine go_region ?_
          refine go_y (v := .pointer (some ⟨b7, 1, none⟩)) (y_fieldAddr rfl ty_fl_27_1) rfl ?_
          refine go_y (v := .int .i64 h) (y_load_fld rfl hb10 ty_sc_3 rfl) rfl ?_
          refine go_y (v := .int .i64 (h - 1)) (y_sub rfl rfl (by unfold in64; omega)) rfl ?_
          refine go_y (v := .int .i64 (h - 1)) (y_assign) rfl ?_
          refine go_ops_nil ?_
          refine go_ret ?_
          exact ⟨ie (by simp [posF, hs_u] <;> (repeat' split) <;> omega), hx⟩
        · refine go_y (v := .bool false) (y_pick_t rfl) rfl ?_
          refine go_y (v := .bool false) (y_assign) rfl ?_
          refine go_ops_nil ?_
          refine go_cond_false rfl ?_
          refine go_seq ?_
          refine go_region ?_
          refine go_y (v := .pointer (some ⟨b7, 0, none⟩)) (y_fieldAddr rfl ty_fl_27_0) rfl ?_
          refine go_y (v := .int .i64 k) (y_load_fld rfl hb10 ty_sc_3 rfl) rfl ?_
          refine go_test (c := (k : Int) = 1) (y_eq rfl rfl) rfl (fun hc19 => ?_) (fun hc19 => ?_)
          · refine go_y (v := .bool true) (y_move) rfl ?_
            refine go_y (v := .pointer (some ⟨b7, 1, none⟩)) (y_fieldAddr rfl ty_fl_27_1) (on_of (t := 37) rfl rfl) ?_
            refine go_y (v := .int .i64 h) (y_load_fld rfl hb10 ty_sc_3 rfl) (on_of (t := 37) rfl rfl) ?_
            refine go_y (v := .pointer (some ⟨b2, 12, none⟩)) (y_fieldAddr rfl ty_fl_25_12) (on_of (t := 37) rfl rfl) ?_
            refine go_y (v := .int .i64 u.st) (y_load_fld rfl hb5 ty_sc_3 rfl) (on_of (t := 37) rfl rfl) ?_
            refine go_test (c := (h : Int) ≤ u.st) (y_le rfl rfl) (on_of (t := 37) rfl rfl) (fun hc20 => ?_) (fun hc20 => ?_)
            · refine go_y (v := .bool true) (y_pick_t rfl) rfl ?_
              refine go_y (v := .bool true) (y_assign) rfl ?_
              refine go_ops_nil ?_
              refine go_cond_true rfl ?_
              refine go_seq ?_
              refine go_region ?_
              refine go_y (v := .int .i64 (capOff u)) (y_move) rfl ?_
              refine go_y (v := .pointer (some ⟨b7, 1, none⟩)) (y_fieldAddr rfl ty_fl_27_1) rfl ?_
              refine go_y (v := .int .i64 h) (y_load_fld rfl hb10 ty_sc_3 rfl) rfl ?_
              refine go_y (v := .int .i64 ((capOff u) + h)) (y_add rfl rfl (by unfold in64; omega)) rfl ?_
              refine go_y (v := .int .i64 (((capOff u) + h) - 1)) (y_sub rfl rfl (by unfold in64; omega)) rfl ?_
              refine go_y (v := .int .i64 (((capOff u) + h) - 1)) (y_assign) rfl ?_
              refine go_ops_nil ?_
              refine go_ret ?_
              exact ⟨ie (by simp [posF, hs_u] <;> (repeat' split) <;> omega), hx⟩
            · refine go_y (v := .bool false) (y_pick_t rfl) rfl ?_
              refine go_y (v := .bool false) (y_assign) rfl ?_
              refine go_ops_nil ?_
              refine go_cond_false rfl ?_
              refine go_seq ?_
              refine go_region ?_
              refine go_y (v := .pointer (some ⟨b7, 0, none⟩)) (y_fieldAddr rfl ty_fl_27_0) rfl ?_
              refine go_y (v := .int .i64 k) (y_load_fld rfl hb10 ty_sc_3 rfl) rfl ?_
              refine go_test (c := (k : Int) = 2) (y_eq rfl rfl) rfl (fun hc21 => ?_) (fun hc21 => ?_)
              · refine go_y (v := .bool true) (y_move) rfl ?_
                refine go_y (v := .pointer (some ⟨b7, 1, none⟩)) (y_fieldAddr rfl ty_fl_27_1) (on_of (t := 53) rfl rfl) ?_
                refine go_y (v := .int .i64 h) (y_load_fld rfl hb10 ty_sc_3 rfl) (on_of (t := 53) rfl rfl) ?_
                refine go_y (v := .int .i64 (capOn u)) (y_move) (on_of (t := 53) rfl rfl) ?_
                refine go_test (c := (h : Int) ≤ (capOn u)) (y_le rfl rfl) (on_of (t := 53) rfl rfl) (fun hc22 => ?_) (fun hc22 => ?_)
                · refine go_y (v := .bool true) (y_pick_t rfl) rfl ?_
                  refine go_y (v := .bool true) (y_assign) rfl ?_
                  refine go_ops_nil ?_
                  refine go_cond_true rfl ?_
                  refine go_seq ?_
                  refine go_region ?_
                  refine go_y (v := .int .i64 (capOff u)) (y_move) rfl ?_
                  refine go_y (v := .pointer (some ⟨b2, 12, none⟩)) (y_fieldAddr rfl ty_fl_25_12) rfl ?_
                  refine go_y (v := .int .i64 u.st) (y_load_fld rfl hb5 ty_sc_3 rfl) rfl ?_
                  refine go_y (v := .int .i64 ((capOff u) + u.st)) (y_add rfl rfl (by unfold in64; omega)) rfl ?_
                  refine go_y (v := .pointer (some ⟨b7, 1, none⟩)) (y_fieldAddr rfl ty_fl_27_1) rfl ?_
                  refine go_y (v := .int .i64 h) (y_load_fld rfl hb10 ty_sc_3 rfl) rfl ?_
                  refine go_y (v := .int .i64 (((capOff u) + u.st) + h)) (y_add rfl rfl (by unfold in64; omega)) rfl ?_
                  refine go_y (v := .int .i64 ((((capOff u) + u.st) + h) - 1)) (y_sub rfl rfl (by unfold in64; omega)) rfl ?_
                  refine go_y (v := .int .i64 ((((capOff u) + u.st) + h) - 1)) (y_assign) rfl ?_
                  refine go_ops_nil ?_
                  refine go_ret ?_
                  exact ⟨ie (by simp [posF, hs_u] <;> (repeat' split) <;> omega), hx⟩
                · refine go_y (v := .bool false) (y_pick_t rfl) rfl ?_
                  refine go_y (v := .bool false) (y_assign) rfl ?_
                  refine go_ops_nil ?_
                  refine go_cond_false rfl ?_
                  refine go_skip ?_
                  refine go_blk ?_
                  refine go_seq ?_
                  refine go_region ?_
                  refine go_y (v := .int .i64 (-1)) (y_assign) rfl ?_
                  refine go_ops_nil ?_
                  refine go_ret ?_
                  exact ⟨ie (by simp [posF, hs_u] <;> (repeat' split) <;> omega), hx⟩
              · refine go_y (v := .bool false) (y_move) rfl ?_
                refine go_off (off_of (t := 53) (b' := false) rfl rfl rfl) ?_
                refine go_off (off_of (t := 53) (b' := false) rfl rfl rfl) ?_
                refine go_off (off_of (t := 53) (b' := false) rfl rfl rfl) ?_
                refine go_off (off_of (t := 53) (b' := false) rfl rfl rfl) ?_
                refine go_y (v := .bool false) (y_pick_f rfl) rfl ?_
                refine go_y (v := .bool false) (y_assign) rfl ?_
                refine go_ops_nil ?_
                refine go_cond_false rfl ?_
                refine go_skip ?_
                refine go_blk ?_
                refine go_seq ?_
                refine go_region ?_
                refine go_y (v := .int .i64 (-1)) (y_assign) rfl ?_
                refine go_ops_nil ?_
                refine go_ret ?_
                exact ⟨ie (by simp [posF, hs_u] <;> (repeat' split) <;> omega), hx⟩
          · refine go_y (v := .bool false) (y_move) rfl ?_
            refine go_off (off_of (t := 37) (b' := false) rfl rfl rfl) ?_
            refine go_off (off_of (t := 37) (b' := false) rfl rfl rfl) ?_
            refine go_off (off_of (t := 37) (b' := false) rfl rfl rfl) ?_
            refine go_off (off_of (t := 37) (b' := false) rfl rfl rfl) ?_
            refine go_off (off_of (t := 37) (b' := false) rfl rfl rfl) ?_
            refine go_y (v := .bool false) (y_pick_f rfl) rfl ?_
            refine go_y (v := .bool false) (y_assign) rfl ?_
            refine go_ops_nil ?_
            refine go_cond_false rfl ?_
            refine go_seq ?_
            refine go_region ?_
            refine go_y (v := .pointer (some ⟨b7, 0, none⟩)) (y_fieldAddr rfl ty_fl_27_0) rfl ?_
            refine go_y (v := .int .i64 k) (y_load_fld rfl hb10 ty_sc_3 rfl) rfl ?_
            refine go_test (c := (k : Int) = 2) (y_eq rfl rfl) rfl (fun hc20 => ?_) (fun hc20 => ?_)
            · refine go_y (v := .bool true) (y_move) rfl ?_
              refine go_y (v := .pointer (some ⟨b7, 1, none⟩)) (y_fieldAddr rfl ty_fl_27_1) (on_of (t := 53) rfl rfl) ?_
              refine go_y (v := .int .i64 h) (y_load_fld rfl hb10 ty_sc_3 rfl) (on_of (t := 53) rfl rfl) ?_
              refine go_y (v := .int .i64 (capOn u)) (y_move) (on_of (t := 53) rfl rfl) ?_
              refine go_test (c := (h : Int) ≤ (capOn u)) (y_le rfl rfl) (on_of (t := 53) rfl rfl) (fun hc21 => ?_) (fun hc21 => ?_)
              · refine go_y (v := .bool true) (y_pick_t rfl) rfl ?_
                refine go_y (v := .bool true) (y_assign) rfl ?_
                refine go_ops_nil ?_
                refine go_cond_true rfl ?_
                refine go_seq ?_
                refine go_region ?_
                refine go_y (v := .int .i64 (capOff u)) (y_move) rfl ?_
                refine go_y (v := .pointer (some ⟨b2, 12, none⟩)) (y_fieldAddr rfl ty_fl_25_12) rfl ?_
                refine go_y (v := .int .i64 u.st) (y_load_fld rfl hb5 ty_sc_3 rfl) rfl ?_
                refine go_y (v := .int .i64 ((capOff u) + u.st)) (y_add rfl rfl (by unfold in64; omega)) rfl ?_
                refine go_y (v := .pointer (some ⟨b7, 1, none⟩)) (y_fieldAddr rfl ty_fl_27_1) rfl ?_
                refine go_y (v := .int .i64 h) (y_load_fld rfl hb10 ty_sc_3 rfl) rfl ?_
                refine go_y (v := .int .i64 (((capOff u) + u.st) + h)) (y_add rfl rfl (by unfold in64; omega)) rfl ?_
                refine go_y (v := .int .i64 ((((capOff u) + u.st) + h) - 1)) (y_sub rfl rfl (by unfold in64; omega)) rfl ?_
                refine go_y (v := .int .i64 ((((capOff u) + u.st) + h) - 1)) (y_assign) rfl ?_
                refine go_ops_nil ?_
                refine go_ret ?_
                exact ⟨ie (by simp [posF, hs_u] <;> (repeat' split) <;> omega), hx⟩
              · refine go_y (v := .bool false) (y_pick_t rfl) rfl ?_
                refine go_y (v := .bool false) (y_assign) rfl ?_
                refine go_ops_nil ?_
                refine go_cond_false rfl ?_
                refine go_skip ?_
                refine go_blk ?_
                refine go_seq ?_
                refine go_region ?_
                refine go_y (v := .int .i64 (-1)) (y_assign) rfl ?_
                refine go_ops_nil ?_
                refine go_ret ?_
                exact ⟨ie (by simp [posF, hs_u] <;> (repeat' split) <;> omega), hx⟩
            · refine go_y (v := .bool false) (y_move) rfl ?_
              refine go_off (off_of (t := 53) (b' := false) rfl rfl rfl) ?_
              refine go_off (off_of (t := 53) (b' := false) rfl rfl rfl) ?_
              refine go_off (off_of (t := 53) (b' := false) rfl rfl rfl) ?_
              refine go_off (off_of (t := 53) (b' := false) rfl rfl rfl) ?_
              refine go_y (v := .bool false) (y_pick_f rfl) rfl ?_
              refine go_y (v := .bool false) (y_assign) rfl ?_
              refine go_ops_nil ?_
              refine go_cond_false rfl ?_
              refine go_skip ?_
              refine go_blk ?_
              refine go_seq ?_
              refine go_region ?_
              refine go_y (v := .int .i64 (-1)) (y_assign) rfl ?_
              refine go_ops_nil ?_
              refine go_ret ?_
              exact ⟨ie (by simp [posF, hs_u] <;> (repeat' split) <;> omega), hx⟩
      · refine go_y (v := .bool false) (y_move) rfl ?_
        refine go_off (off_of (t := 24) (b' := false) rfl rfl rfl) ?_
        refine go_off (off_of (t := 24) (b' := false) rfl rfl rfl) ?_
        refine go_off (off_of (t := 24) (b' := false) rfl rfl rfl) ?_
        refine go_off (off_of (t := 24) (b' := false) rfl rfl rfl) ?_
        refine go_y (v := .bool false) (y_pick_f rfl) rfl ?_
        refine go_y (v := .bool false) (y_assign) rfl ?_
        refine go_ops_nil ?_
        refine go_cond_false rfl ?_
        refine go_seq ?_
        refine go_region ?_
        refine go_y (v := .pointer (some ⟨b7, 0, none⟩)) (y_fieldAddr rfl ty_fl_27_0) rfl ?_
        refine go_y (v := .int .i64 k) (y_load_fld rfl hb10 ty_sc_3 rfl) rfl ?_
        refine go_test (c := (k : Int) = 1) (y_eq rfl rfl) rfl (fun hc18 => ?_) (fun hc18 => ?_)
        · refine go_y (v := .bool true) (y_move) rfl ?_
          refine go_y (v := .pointer (some ⟨b7, 1, none⟩)) (y_fieldAddr rfl ty_fl_27_1) (on_of (t := 37) rfl rfl) ?_
          refine go_y (v := .int .i64 h) (y_load_fld rfl hb10 ty_sc_3 rfl) (on_of (t := 37) rfl rfl) ?_
          refine go_y (v := .pointer (some ⟨b2, 12, none⟩)) (y_fieldAddr rfl ty_fl_25_12) (on_of (t := 37) rfl rfl) ?_
          refine go_y (v := .int .i64 u.st) (y_load_fld rfl hb5 ty_sc_3 rfl) (on_of (t := 37) rfl rfl) ?_
          refine go_test (c := (h : Int) ≤ u.st) (y_le rfl rfl) (on_of (t := 37) rfl rfl) (fun hc19 => ?_) (fun hc19 => ?_)
          · refine go_y (v := .bool true) (y_pick_t rfl) rfl ?_
            refine go_y (v := .bool true) (y_assign) rfl ?_
            refine go_ops_nil ?_
            refine go_cond_true rfl ?_
            refine go_seq ?_
            refine go_region ?_
            refine go_y (v := .int .i64 (capOff u)) (y_move) rfl ?_
            refine go_y (v := .pointer (some ⟨b7, 1, none⟩)) (y_fieldAddr rfl ty_fl_27_1) rfl ?_
            refine go_y (v := .int .i64 h) (y_load_fld rfl hb10 ty_sc_3 rfl) rfl ?_
            refine go_y (v := .int .i64 ((capOff u) + h)) (y_add rfl rfl (by unfold in64; omega)) rfl ?_
            refine go_y (v := .int .i64 (((capOff u) + h) - 1)) (y_sub rfl rfl (by unfold in64; omega)) rfl ?_
            refine go_y (v := .int .i64 (((capOff u) + h) - 1)) (y_assign) rfl ?_
            refine go_ops_nil ?_
            refine go_ret ?_
            exact ⟨ie (by simp [posF, hs_u] <;> (repeat' split) <;> omega), hx⟩
          · refine go_y (v := .bool false) (y_pick_t rfl) rfl ?_
            refine go_y (v := .bool false) (y_assign) rfl ?_
            refine go_ops_nil ?_
            refine go_cond_false rfl ?_
            refine go_seq ?_
            refine go_region ?_
            refine go_y (v := .pointer (some ⟨b7, 0, none⟩)) (y_fieldAddr rfl ty_fl_27_0) rfl ?_
            refine go_y (v := .int .i64 k) (y_load_fld rfl hb10 ty_sc_3 rfl) rfl ?_
            refine go_test (c := (k : Int) = 2) (y_eq rfl rfl) rfl (fun hc20 => ?_) (fun hc20 => ?_)
            · refine go_y (v := .bool true) (y_move) rfl ?_
              refine go_y (v := .pointer (some ⟨b7, 1, none⟩)) (y_fieldAddr rfl ty_fl_27_1) (on_of (t := 53) rfl rfl) ?_
              refine go_y (v := .int .i64 h) (y_load_fld rfl hb10 ty_sc_3 rfl) (on_of (t := 53) rfl rfl) ?_
              refine go_y (v := .int .i64 (capOn u)) (y_move) (on_of (t := 53) rfl rfl) ?_
              refine go_test (c := (h : Int) ≤ (capOn u)) (y_le rfl rfl) (on_of (t := 53) rfl rfl) (fun hc21 => ?_) (fun hc21 => ?_)
              · refine go_y (v := .bool true) (y_pick_t rfl) rfl ?_
                refine go_y (v := .bool true) (y_assign) rfl ?_
                refine go_ops_nil ?_
                refine go_cond_true rfl ?_
                refine go_seq ?_
                refine go_region ?_
                refine go_y (v := .int .i64 (capOff u)) (y_move) rfl ?_
                refine go_y (v := .pointer (some ⟨b2, 12, none⟩)) (y_fieldAddr rfl ty_fl_25_12) rfl ?_
                refine go_y (v := .int .i64 u.st) (y_load_fld rfl hb5 ty_sc_3 rfl) rfl ?_
                refine go_y (v := .int .i64 ((capOff u) + u.st)) (y_add rfl rfl (by unfold in64; omega)) rfl ?_
                refine go_y (v := .pointer (some ⟨b7, 1, none⟩)) (y_fieldAddr rfl ty_fl_27_1) rfl ?_
                refine go_y (v := .int .i64 h) (y_load_fld rfl hb10 ty_sc_3 rfl) rfl ?_
                refine go_y (v := .int .i64 (((capOff u) + u.st) + h)) (y_add rfl rfl (by unfold in64; omega)) rfl ?_
                refine go_y (v := .int .i64 ((((capOff u) + u.st) + h) - 1)) (y_sub rfl rfl (by unfold in64; omega)) rfl ?_
                refine go_y (v := .int .i64 ((((capOff u) + u.st) + h) - 1)) (y_assign) rfl ?_
                refine go_ops_nil ?_
                refine go_ret ?_
                exact ⟨ie (by simp [posF, hs_u] <;> (repeat' split) <;> omega), hx⟩
              · refine go_y (v := .bool false) (y_pick_t rfl) rfl ?_
                refine go_y (v := .bool false) (y_assign) rfl ?_
                refine go_ops_nil ?_
                refine go_cond_false rfl ?_
                refine go_skip ?_
                refine go_blk ?_
                refine go_seq ?_
                refine go_region ?_
                refine go_y (v := .int .i64 (-1)) (y_assign) rfl ?_
                refine go_ops_nil ?_
                refine go_ret ?_
                exact ⟨ie (by simp [posF, hs_u] <;> (repeat' split) <;> omega), hx⟩
            · refine go_y (v := .bool false) (y_move) rfl ?_
              refine go_off (off_of (t := 53) (b' := false) rfl rfl rfl) ?_
              refine go_off (off_of (t := 53) (b' := false) rfl rfl rfl) ?_
              refine go_off (off_of (t := 53) (b' := false) rfl rfl rfl) ?_
              refine go_off (off_of (t := 53) (b' := false) rfl rfl rfl) ?_
              refine go_y (v := .bool false) (y_pick_f rfl) rfl ?_
              refine go_y (v := .bool false) (y_assign) rfl ?_
              refine go_ops_nil ?_
              refine go_cond_false rfl ?_
              refine go_skip ?_
              refine go_blk ?_
              refine go_seq ?_
              refine go_region ?_
              refine go_y (v := .int .i64 (-1)) (y_assign) rfl ?_
              refine go_ops_nil ?_
              refine go_ret ?_
              exact ⟨ie (by simp [posF, hs_u] <;> (repeat' split) <;> omega), hx⟩
        · refine go_y (v := .bool false) (y_move) rfl ?_
          refine go_off (off_of (t := 37) (b' := false) rfl rfl rfl) ?_
          refine go_off (off_of (t := 37) (b' := false) rfl rfl rfl) ?_
          refine go_off (off_of (t := 37) (b' := false) rfl rfl rfl) ?_
          refine go_off (off_of (t := 37) (b' := false) rfl rfl rfl) ?_
          refine go_off (off_of (t := 37) (b' := false) rfl rfl rfl) ?_
          refine go_y (v := .bool false) (y_pick_f rfl) rfl ?_
          refine go_y (v := .bool false) (y_assign) rfl ?_
          refine go_ops_nil ?_
          refine go_cond_false rfl ?_
          refine go_seq ?_
          refine go_region ?_
          refine go_y (v := .pointer (some ⟨b7, 0, none⟩)) (y_fieldAddr rfl ty_fl_27_0) rfl ?_
          refine go_y (v := .int .i64 k) (y_load_fld rfl hb10 ty_sc_3 rfl) rfl ?_
          refine go_test (c := (k : Int) = 2) (y_eq rfl rfl) rfl (fun hc19 => ?_) (fun hc19 => ?_)
          · refine go_y (v := .bool true) (y_move) rfl ?_
            refine go_y (v := .pointer (some ⟨b7, 1, none⟩)) (y_fieldAddr rfl ty_fl_27_1) (on_of (t := 53) rfl rfl) ?_
            refine go_y (v := .int .i64 h) (y_load_fld rfl hb10 ty_sc_3 rfl) (on_of (t := 53) rfl rfl) ?_
            refine go_y (v := .int .i64 (capOn u)) (y_move) (on_of (t := 53) rfl rfl) ?_
            refine go_test (c := (h : Int) ≤ (capOn u)) (y_le rfl rfl) (on_of (t := 53) rfl rfl) (fun hc20 => ?_) (fun hc20 => ?_)
            · refine go_y (v := .bool true) (y_pick_t rfl) rfl ?_
              refine go_y (v := .bool true) (y_assign) rfl ?_
              refine go_ops_nil ?_
              refine go_cond_true rfl ?_
              refine go_seq ?_
              refine go_region ?_
              refine go_y (v := .int .i64 (capOff u)) (y_move) rfl ?_
              refine go_y (v := .pointer (some ⟨b2, 12, none⟩)) (y_fieldAddr rfl ty_fl_25_12) rfl ?_
              refine go_y (v := .int .i64 u.st) (y_load_fld rfl hb5 ty_sc_3 rfl) rfl ?_
              refine go_y (v := .int .i64 ((capOff u) + u.st)) (y_add rfl rfl (by unfold in64; omega)) rfl ?_
              refine go_y (v := .pointer (some ⟨b7, 1, none⟩)) (y_fieldAddr rfl ty_fl_27_1) rfl ?_
              refine go_y (v := .int .i64 h) (y_load_fld rfl hb10 ty_sc_3 rfl) rfl ?_
              refine go_y (v := .int .i64 (((capOff u) + u.st) + h)) (y_add rfl rfl (by unfold in64; omega)) rfl ?_
              refine go_y (v := .int .i64 ((((capOff u) + u.st) + h) - 1)) (y_sub rfl rfl (by unfold in64; omega)) rfl ?_
              refine go_y (v := .int .i64 ((((capOff u) + u.st) + h) - 1)) (y_assign) rfl ?_
              refine go_ops_nil ?_
              refine go_ret ?_
              exact ⟨ie (by simp [posF, hs_u] <;> (repeat' split) <;> omega), hx⟩
            · refine go_y (v := .bool false) (y_pick_t rfl) rfl ?_
              refine go_y (v := .bool false) (y_assign) rfl ?_
              refine go_ops_nil ?_
              refine go_cond_false rfl ?_
              refine go_skip ?_
              refine go_blk ?_
              refine go_seq ?_
              refine go_region ?_
              refine go_y (v := .int .i64 (-1)) (y_assign) rfl ?_
              refine go_ops_nil ?_
              refine go_ret ?_
              exact ⟨ie (by simp [posF, hs_u] <;> (repeat' split) <;> omega), hx⟩
          · refine go_y (v := .bool false) (y_move) rfl ?_
            refine go_off (off_of (t := 53) (b' := false) rfl rfl rfl) ?_
            refine go_off (off_of (t := 53) (b' := false) rfl rfl rfl) ?_
            refine go_off (off_of (t := 53) (b' := false) rfl rfl rfl) ?_
            refine go_off (off_of (t := 53) (b' := false) rfl rfl rfl) ?_
            refine go_y (v := .bool false) (y_pick_f rfl) rfl ?_
            refine go_y (v := .bool false) (y_assign) rfl ?_
            refine go_ops_nil ?_
            refine go_cond_false rfl ?_
            refine go_skip ?_
            refine go_blk ?_
            refine go_seq ?_
            refine go_region ?_
            refine go_y (v := .int .i64 (-1)) (y_assign) rfl ?_
            refine go_ops_nil ?_
            refine go_ret ?_
            exact ⟨ie (by simp [posF, hs_u] <;> (repeat' split) <;> omega), hx⟩
end Go.Proofs.Ytedfiemhfpcggaa
