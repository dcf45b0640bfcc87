/- The walks of the automaton, part 3. -/
import Derived.Test.YtedfiemhfpcggaaW2
namespace Go.Proofs.Ytedfiemhfpcggaa
open Go.Gw Go.RowKit
set_option maxHeartbeats 4000000 in
set_option maxRecDepth 100000 in
theorem sc1_ret (a : St) (k h : Int) (b : Nat) (w : World) (hb : Blk w b #[.int .i64 k, .int .i64 h] 27) : Ret Try.prog 32 [.agg #[.int .i64 a.1, .int .i64 a.2], .pointer (some ⟨b, 0, none⟩)] w (fun v w' => v = .bool (decide (a.1 = k ∧ a.2 = h)) ∧ Ext w w') := by
  refine calls_of_go Try.func32 rfl (by show _ ≤ _; exact Nat.le_of_ble_eq_true rfl) (by kernel_rfl) _ (res1 rfl) ?_
  have hx : Ext w w := Ext.refl w
  refine go_seq ?_
  refine go_region ?_
  refine go_box (.agg #[.int .i64 a.1, .int .i64 a.2]) (#[.int .i64 a.1, .int .i64 a.2]) rfl rfl rfl ?_
  intro w1 b2 hx3 hn4 hb5
  have hd6 : b ≠ b2 := by have := hb.lt; omega
  replace hn4 := Nat.le_trans hx.size hn4
  replace hb := hb.ext hx3
  replace hx := hx.trans hx3
  refine go_y (v := .bool false) (y_assign) rfl ?_
  refine go_ops_nil ?_
  refine go_seq ?_
  refine go_region ?_
  refine go_y (v := .agg #[.int .i64 a.1, .int .i64 a.2]) (y_load_blk rfl hb5 ty_ag_27 rfl) rfl ?_
  refine go_y (v := .agg #[.int .i64 k, .int .i64 h]) (y_load_blk rfl hb ty_ag_27 rfl) rfl ?_
  refine go_test (c := (a.1 = k ∧ a.2 = h)) (y_eq2 rfl rfl ty_e2_27) rfl (fun hc7 => ?_) (fun hc7 => ?_)
  · refine go_y (v := .bool true) (y_assign) rfl ?_
    refine go_ops_nil ?_
    refine go_ret ?_
    exact ⟨congrArg Value.bool (decide_eq_true hc7).symm, hx⟩
  · refine go_y (v := .bool false) (y_assign) rfl ?_
    refine go_ops_nil ?_
    refine go_ret ?_
    exact ⟨congrArg Value.bool (decide_eq_false hc7).symm, hx⟩

set_option maxHeartbeats 4000000 in
set_option maxRecDepth 100000 in
theorem wk1_ret (a : St) (k : Int) (b : Nat) (w : World) (hb : Blk w b #[.int .i64 k] 3) : Ret Try.prog 38 [.agg #[.int .i64 a.1, .int .i64 a.2], .pointer (some ⟨b, 0, none⟩)] w (fun v w' => v = .bool (decide (a.1 = k)) ∧ Ext w w') := by
  refine calls_of_go Try.func38 rfl (by show _ ≤ _; exact Nat.le_of_ble_eq_true rfl) (by kernel_rfl) _ (res1 rfl) ?_
  have hx : Ext w w := Ext.refl w
  refine go_seq ?_
  refine go_region ?_
  refine go_box (.agg #[.int .i64 a.1, .int .i64 a.2]) (#[.int .i64 a.1, .int .i64 a.2]) rfl rfl rfl ?_
  intro w1 b2 hx3 hn4 hb5
  have hd6 : b ≠ b2 := by have := hb.lt; omega
  replace hn4 := Nat.le_trans hx.size hn4
  replace hb := hb.ext hx3
  replace hx := hx.trans hx3
  refine go_y (v := .bool false) (y_assign) rfl ?_
  refine go_ops_nil ?_
  refine go_seq ?_
  refine go_region ?_
  refine go_y (v := .pointer (some ⟨b2, 0, none⟩)) (y_fieldAddr rfl ty_fl_27_0) rfl ?_
  refine go_y (v := .int .i64 a.1) (y_load_fld rfl hb5 ty_sc_3 rfl) rfl ?_
  refine go_y (v := .int .i64 k) (y_load_fld rfl hb ty_sc_3 rfl) rfl ?_
  refine go_test (c := (a.1 : Int) = k) (y_eq rfl rfl) rfl (fun hc7 => ?_) (fun hc7 => ?_)
  · refine go_y (v := .bool true) (y_assign) rfl ?_
    refine go_ops_nil ?_
    refine go_ret ?_
    exact ⟨congrArg Value.bool (decide_eq_true hc7).symm, hx⟩
  · refine go_y (v := .bool false) (y_assign) rfl ?_
    refine go_ops_nil ?_
    refine go_ret ?_
    exact ⟨congrArg Value.bool (decide_eq_false hc7).symm, hx⟩

set_option maxHeartbeats 4000000 in
set_option maxRecDepth 100000 in
theorem indexFunc_ret (vl : Value) (l : List St) (fid : Nat) (cap : List Value) (pred : St → Bool) (w : World) (hl : SlR w 2 stc vl l) (hlen : l.length ≤ 9223372036854775806) (hen : enters Try.prog fid = true) (hcl : ∀ (a : St) (w1 : World), Ext w w1 → Ret Try.prog fid (.agg #[.int .i64 a.1, .int .i64 a.2] :: cap) w1 (fun v w' => v = .bool (pred a) ∧ Ext w1 w')) : Ret Try.prog 37 [vl, .func (.func fid) #[] cap.toArray] w (fun v w' => v = .int .i64 (idxF pred l) ∧ Ext w w') := by
  refine calls_of_go Try.func37 rfl (by show _ ≤ _; exact Nat.le_of_ble_eq_true rfl) (by kernel_rfl) _ (res1 rfl) ?_
  have hx : Ext w w := Ext.refl w
  refine go_seq ?_
  refine go_region ?_
  refine go_y (v := .int .i64 0) (y_assign) rfl ?_
  refine go_ops_nil ?_
  refine go_seq ?_
  refine go_seq ?_
  refine go_region ?_
  refine go_y (v := vl) (y_move) rfl ?_
  refine go_y (v := .int .i64 (l.length : Int)) (y_len_sl hl rfl ty_sl_35 _) rfl ?_
  refine go_y (v := .int .i64 0) (y_move) rfl ?_
  refine go_ops_nil ?_
  refine go_block ?_
  refine go_loop (G := Nat) [4, 5, 8, 9, 10, 11, 12, 13, 14, 15, 16, 17, 18] (fun g => [(8, .int .i64 (g : Int))]) (fun g w' => Ext w w' ∧ g ≤ (l).length ∧ (∀ j x, j < g → (l)[j]? = some x → (pred x) = false)) (fun g => (l).length - g) 0 ⟨rfl, trivial⟩ ⟨hx, (by omega), (by intro j x hj; omega)⟩ ?_
  clear hx
  intro g X2 w1 ⟨hx, hg, hbef⟩
  refine go_seq ?_
  refine go_region ?_
  refine go_test (c := ((g : Int) : Int) < (l.length : Int)) (y_lt rfl rfl) rfl (fun hc3 => ?_) (fun hc3 => ?_)
  · refine go_ops_nil ?_
    refine go_seq ?_
    refine go_cond_true rfl ?_
    refine go_skip ?_
    refine go_seq ?_
    refine go_block ?_
    refine go_seq ?_
    refine go_region ?_
    refine go_y (v := .int .i64 (g : Int)) (y_move) rfl ?_
    refine go_y (v := .int .i64 (g : Int)) (y_assign) rfl ?_
    refine go_ops_nil ?_
    refine go_seq ?_
    refine go_region ?_
    refine go_y (v := .func (.func fid) #[] cap.toArray) (y_move) rfl ?_
    refine go_y (v := vl) (y_move) rfl ?_
    refine go_y (v := .int .i64 (g : Int)) (y_move) rfl ?_
    obtain ⟨a4, ha5⟩ := el_some (l := l) (i := g) (by omega)
    obtain ⟨bb6, oo7, cc8, hv9, hc10⟩ := (hl.ext hx).at_ ha5
    refine go_y (v := .pointer (some ⟨bb6, oo7 + g * 2, none⟩)) (y_idxn g rfl hv9 rfl (by omega) ty_sl_35 (el_lt ha5)) rfl ?_
    refine go_y (v := .agg #[.int .i64 a4.1, .int .i64 a4.2]) (y_load_el rfl hc10 ty_ag_27 rfl) rfl ?_
    refine go_c (enters_fn (cap := cap) rfl hen rfl) (hcl a4 _ hx) rfl ?_
    rintro _ w11 ⟨rfl, hx12⟩
    replace hc10 := hc10.ext hx12
    replace hx := hx.trans hx12
    cases hpr : pred a4
    · refine go_ops_nil ?_
      refine go_cond_false rfl ?_
      refine go_skip ?_
      refine go_blk ?_
      refine go_region ?_
      refine go_y (v := .int .i64 ((g : Int) + 1)) (y_add rfl rfl (by unfold in64; omega)) rfl ?_
      refine go_y (v := .int .i64 ((g : Int) + 1)) (y_move) rfl ?_
      refine go_ops_nil ?_
      refine go_upto ⟨g + 1, ?_, ⟨ie (by omega), trivial⟩, ⟨hx, (by have := el_lt ha5; omega), (bef_step (p := fun x => pred x) hbef ha5 (by exact hpr))⟩, (by have := el_lt ha5; omega)⟩
      repeat (refine Agree.upd rfl ?_)
      exact Agree.updL rfl (Agree.havoc rfl (Agree.refl _ _))
    · refine go_ops_nil ?_
      refine go_cond_true rfl ?_
      refine go_seq ?_
      refine go_region ?_
      refine go_y (v := .int .i64 (g : Int)) (y_move) rfl ?_
      refine go_y (v := .int .i64 (g : Int)) (y_assign) rfl ?_
      refine go_ops_nil ?_
      refine go_ret ?_
      exact ⟨ie (idxF_hit hbef ha5 hpr).symm, hx⟩
  · refine go_ops_nil ?_
    refine go_seq ?_
    refine go_cond_false rfl ?_
    refine go_exit rfl ?_
    refine go_seq ?_
    refine go_region ?_
    refine go_y (v := .int .i64 (-1)) (y_assign) rfl ?_
    refine go_ops_nil ?_
    refine go_ret ?_
    exact ⟨ie (idxF_miss hbef (by omega)).symm, hx⟩

set_option maxHeartbeats 4000000 in
set_option maxRecDepth 100000 in
theorem containsFunc_ret (vl : Value) (l : List St) (fid : Nat) (cap : List Value) (pred : St → Bool) (w : World) (hl : SlR w 2 stc vl l) (hlen : l.length ≤ 9223372036854775806) (hen : enters Try.prog fid = true) (hcl : ∀ (a : St) (w1 : World), Ext w w1 → Ret Try.prog fid (.agg #[.int .i64 a.1, .int .i64 a.2] :: cap) w1 (fun v w' => v = .bool (pred a) ∧ Ext w1 w')) : Ret Try.prog 33 [vl, .func (.func fid) #[] cap.toArray] w (fun v w' => v = .bool (l.any pred) ∧ Ext w w') := by
  refine calls_of_go Try.func33 rfl (by show _ ≤ _; exact Nat.le_of_ble_eq_true rfl) (by kernel_rfl) _ (res1 rfl) ?_
  have hx : Ext w w := Ext.refl w
  refine go_seq ?_
  refine go_region ?_
  refine go_y (v := .bool false) (y_assign) rfl ?_
  refine go_ops_nil ?_
  refine go_seq ?_
  refine go_region ?_
  refine go_y (v := vl) (y_move) rfl ?_
  refine go_y (v := .func (.func fid) #[] cap.toArray) (y_move) rfl ?_
  refine go_c (enters_func ty_en_37 rfl) (indexFunc_ret vl l fid cap pred _ (hl.ext hx) hlen hen (fun a w1 h1 => hcl a w1 (hx.trans h1))) rfl ?_
  rintro _ w1 ⟨rfl, hx2⟩
  replace hx := hx.trans hx2
  refine go_test (c := (0 : Int) ≤ (idxF pred l)) (y_ge rfl rfl) rfl (fun hc3 => ?_) (fun hc3 => ?_)
  · refine go_y (v := .bool true) (y_assign) rfl ?_
    refine go_ops_nil ?_
    refine go_ret ?_
    exact ⟨congrArg Value.bool ((idxF_nonneg pred l).1 hc3).symm, hx⟩
  · refine go_y (v := .bool false) (y_assign) rfl ?_
    refine go_ops_nil ?_
    refine go_ret ?_
    exact ⟨congrArg Value.bool (Bool.eq_false_iff.2 (fun hh => hc3 ((idxF_nonneg pred l).2 hh))).symm, hx⟩

set_option maxHeartbeats 4000000 in
set_option maxRecDepth 100000 in
theorem next_ret (u : U) (k h : Int) (hk1 : -9223372036854775808 ≤ h) (hk2 : h ≤ 9223372036854775807) (w : World) : Ret Try.prog 21 [.agg u.cells, .agg #[.int .i64 k, .int .i64 h]] w (fun v w' => SlR w' 2 stc v (nextF u k h) ∧ Ext w w') := by
  refine calls_of_go Try.func21 rfl (by show _ ≤ _; exact Nat.le_of_ble_eq_true rfl) (by kernel_rfl) _ (res1 rfl) ?_
  have hx : Ext w w := Ext.refl w
  refine go_seq ?_
  refine go_region ?_
  refine go_box (.agg u.cells) u.cells rfl rfl rfl ?_
  intro w1 b2 hx3 hn4 hb5
  replace hn4 := Nat.le_trans hx.size hn4
  replace hx := hx.trans hx3
  refine go_box (.agg #[.int .i64 k, .int .i64 h]) (#[.int .i64 k, .int .i64 h]) rfl rfl rfl ?_
  intro w6 b7 hx8 hn9 hb10
  have hd11 : b2 ≠ b7 := by have := hb5.lt; omega
  replace hn9 := Nat.le_trans hx.size hn9
  replace hb5 := hb5.ext hx8
  replace hx := hx.trans hx8
  refine go_y (v := .slice none 0 0) (y_assign) rfl ?_
  refine go_ops_nil ?_
  refine go_seq ?_
  refine go_seq ?_
  refine go_region ?_
  refine go_y (v := .agg u.cells) (y_load_blk rfl hb5 ty_ag_25 rfl) rfl ?_
  refine go_y (v := .agg #[.int .i64 k, .int .i64 h]) (y_load_blk rfl hb10 ty_ag_27 rfl) rfl ?_
  refine go_c (enters_func ty_en_19 rfl) (position_ret u k h (by omega) (by omega) _) rfl ?_
  rintro _ w12 ⟨rfl, hx13⟩
  replace hb5 := hb5.ext hx13
  replace hb10 := hb10.ext hx13
  replace hx := hx.trans hx13
  refine go_test (c := ((posF u k h) : Int) < 0) (y_lt rfl rfl) rfl (fun hc14 => ?_) (fun hc14 => ?_)
  · refine go_ops_nil ?_
    refine go_cond_true rfl ?_
    refine go_seq ?_
    refine go_region ?_
    refine go_y (v := .slice none 0 0) (y_assign) rfl ?_
    refine go_ops_nil ?_
    refine go_ret ?_
    exact ⟨by rw [show nextF u k h = [] from by unfold nextF; (repeat' split) <;> first | rfl | (exfalso; omega)]; exact SlR.nil _ _ _, hx⟩
  · refine go_ops_nil ?_
    refine go_cond_false rfl ?_
    refine go_skip ?_
    refine go_seq ?_
    refine go_region ?_
    refine go_y (v := .agg u.cells) (y_load_blk rfl hb5 ty_ag_25 rfl) rfl ?_
    have hp_ := posF_in (Int.not_lt.1 hc14)
    have hs_u := hp_.1
    have hsd_u := sound_spec hs_u
    have hcb_u := cap_bd hs_u
    refine go_c (enters_func ty_en_9 rfl) (caps_ret u hs_u _) rfl ?_
    rintro _ w15 ⟨rfl, hx16⟩
    replace hb5 := hb5.ext hx16
    replace hb10 := hb10.ext hx16
    replace hx := hx.trans hx16
    refine go_y (v := .tuple #[.int .i64 (capOff u), .int .i64 (capOn u)]) (y_move) rfl ?_
    refine go_y (v := .int .i64 (capOff u)) (y_extract rfl rfl) rfl ?_
    refine go_y (v := .int .i64 (capOn u)) (y_extract rfl rfl) rfl ?_
    refine go_y (v := .int .i64 (capOff u)) (y_assign) rfl ?_
    refine go_y (v := .int .i64 (capOn u)) (y_assign) rfl ?_
    refine go_ops_nil ?_
    refine go_seq ?_
    refine go_region ?_
    refine go_y (v := .slice none 0 0) (y_assign) rfl ?_
    refine go_ops_nil ?_
    refine go_seq ?_
    refine go_seq ?_
    refine go_region ?_
    refine go_y (v := .pointer (some ⟨b7, 0, none⟩)) (y_fieldAddr rfl ty_fl_27_0) rfl ?_
    refine go_y (v := .int .i64 k) (y_load_fld rfl hb10 ty_sc_3 rfl) rfl ?_
    refine go_ops_nil ?_
    refine go_block ?_
    refine go_seq ?_
    refine go_region ?_
    refine go_test (c := (k : Int) = 0) (y_eq rfl rfl) rfl (fun hc17 => ?_) (fun hc17 => ?_)
    · refine go_y (v := .bool true) (y_assign) rfl ?_
      refine go_ops_nil ?_
      refine go_cond_true rfl ?_
      refine go_seq ?_
      refine go_region ?_
      refine go_y (v := .slice none 0 0) (y_move) rfl ?_
      refine go_y (v := .pointer (some ⟨b7, 1, none⟩)) (y_fieldAddr rfl ty_fl_27_1) rfl ?_
      refine go_y (v := .int .i64 h) (y_load_fld rfl hb10 ty_sc_3 rfl) rfl ?_
      refine go_y (v := .int .i64 (h + 1)) (y_add rfl rfl (by unfold in64; omega)) rfl ?_
      refine go_y (v := .int .i64 (capOff u)) (y_move) rfl ?_
      refine go_y (v := .int .i64 (min (h + 1) (capOff u))) (y_min2 rfl rfl) rfl ?_
      refine go_y (v := .agg #[.int .i64 0, .int .i64 (min (h + 1) (capOff u))]) (y_build (#[.int .i64 0, .int .i64 (min (h + 1) (capOff u))]) ty_ze_27 ty_pl_27 (by kernel_rfl)) rfl ?_
      refine go_lit [.agg #[.int .i64 0, .int .i64 (min (h + 1) (capOff u))]] (#[.int .i64 0, .int .i64 (min (h + 1) (capOff u))]) ty_sl_35 ty_ze_27 (by decide) (by decide) rfl (by intro x hx_; simp only [List.mem_cons, List.not_mem_nil, or_false] at hx_; subst hx_; rfl) rfl rfl rfl ?_
      intro w18 b19 hx20 hn21 hb22
      have hd23 : b2 ≠ b19 := by have := hb5.lt; omega
      have hd24 : b7 ≠ b19 := by have := hb10.lt; omega
      replace hn21 := Nat.le_trans hx.size hn21
      replace hb5 := hb5.ext hx20
      replace hb10 := hb10.ext hx20
      replace hx := hx.trans hx20
      have own25 : Own w18 w18.heap.size 27 2 stc (.slice none 0 0) [] := Own.nil _ _ _ _ _
      have hbase26 : w.heap.size ≤ w18.heap.size := hx.size
      have hd27 := own25.ne hb5.lt
      have hd28 := own25.ne hb10.lt
      have hd29 := own25.ne hb22.lt
      have hz30 : w18.heap.size ≤ w18.heap.size := Nat.le_refl _
      refine go_app1 (f := stc) (0, min (h + 1) (capOff u)) rfl rfl own25 hb22 rfl rfl ty_us_35 ty_in_27 rfl (by decide) (by repeat (first | exact one_nil | refine one_cons (by first | rfl | assumption) ?_)) (by decide) (by simp) hz30 rfl ?_
      intro v31 w32 own33 hg34 hbk35
      have hd36 := ne_append hb5.lt hd27 hbk35
      replace hb5 := hb5.grown hg34 hd27
      have hd37 := ne_append hb10.lt hd28 hbk35
      replace hb10 := hb10.grown hg34 hd28
      replace hz30 := Nat.le_trans hz30 hg34.size
      replace hx := own25.below hx hg34 hbase26
      replace own33 : Own w32 w18.heap.size 27 2 stc v31 [(0, min (h + 1) (capOff u))] := own33
      refine go_y (v := v31) (y_assign) rfl ?_
      refine go_ops_nil ?_
      refine go_seq ?_
      refine go_region ?_
      refine go_y (v := .pointer (some ⟨b7, 1, none⟩)) (y_fieldAddr rfl ty_fl_27_1) rfl ?_
      refine go_y (v := .int .i64 h) (y_load_fld rfl hb10 ty_sc_3 rfl) rfl ?_
      refine go_y (v := .pointer (some ⟨b2, 11, none⟩)) (y_fieldAddr rfl ty_fl_25_11) rfl ?_
      refine go_y (v := .int .i64 u.dn) (y_load_fld rfl hb5 ty_sc_3 rfl) rfl ?_
      refine go_test (c := (u.dn : Int) ≤ h) (y_ge rfl rfl) rfl (fun hc38 => ?_) (fun hc38 => ?_)
      · refine go_y (v := .bool true) (y_move) rfl ?_
        refine go_y (v := .pointer (some ⟨b2, 12, none⟩)) (y_fieldAddr rfl ty_fl_25_12) (on_of (t := 35) rfl rfl) ?_
        refine go_y (v := .int .i64 u.st) (y_load_fld rfl hb5 ty_sc_3 rfl) (on_of (t := 35) rfl rfl) ?_
        refine go_test (c := (0 : Int) < u.st) (y_gt rfl rfl) (on_of (t := 35) rfl rfl) (fun hc39 => ?_) (fun hc39 => ?_)
        · refine go_y (v := .bool true) (y_pick_t rfl) rfl ?_
          refine go_ops_nil ?_
          refine go_cond_true rfl ?_
          refine go_region ?_
          refine go_y (v := v31) (y_move) rfl ?_
          refine go_y (v := .agg #[.int .i64 1, .int .i64 1]) (y_build (#[.int .i64 1, .int .i64 1]) ty_ze_27 ty_pl_27 (by kernel_rfl)) rfl ?_
          refine go_lit [.agg #[.int .i64 1, .int .i64 1]] (#[.int .i64 1, .int .i64 1]) ty_sl_35 ty_ze_27 (by decide) (by decide) rfl (by intro x hx_; simp only [List.mem_cons, List.not_mem_nil, or_false] at hx_; subst hx_; rfl) rfl rfl rfl ?_
          intro w40 b41 hx42 hn43 hb44
          have hd45 : b2 ≠ b41 := by have := hb5.lt; omega
          have hd46 : b7 ≠ b41 := by have := hb10.lt; omega
          have hd47 := own33.ne_new hn43
          replace hn43 := Nat.le_trans hx.size hn43
          replace hb5 := hb5.ext hx42
          replace hb10 := hb10.ext hx42
          replace hz30 := Nat.le_trans hz30 hx42.size
          replace own33 := own33.ext hx42
          replace hx := hx.trans hx42
          refine go_app1 (f := stc) (1, 1) rfl rfl own33 hb44 rfl rfl ty_us_35 ty_in_27 rfl (by decide) (by repeat (first | exact one_nil | refine one_cons (by first | rfl | assumption) ?_)) (by decide) (by simp) hz30 rfl ?_
          intro v48 w49 own50 hg51 hbk52
          have hd53 := ne_append hb5.lt hd36 hbk52
          replace hb5 := hb5.grown hg51 hd36
          have hd54 := ne_append hb10.lt hd37 hbk52
          replace hb10 := hb10.grown hg51 hd37
          replace hz30 := Nat.le_trans hz30 hg51.size
          replace hx := own33.below hx hg51 hbase26
          refine go_y (v := v48) (y_assign) rfl ?_
          refine go_ops_nil ?_
          refine go_blk ?_
          refine go_seq ?_
          refine go_region ?_
          refine go_y (v := v48) (y_move) rfl ?_
          refine go_y (v := v48) (y_assign) rfl ?_
          refine go_ops_nil ?_
          refine go_ret ?_
          exact ⟨by rw [show nextF u k h = [(0, min (h + 1) (capOff u))] ++ [(1, 1)] from by unfold nextF; (repeat' split) <;> first | rfl | (exfalso; omega)]; exact own50.slr (fun _ => rfl), hx⟩
        · refine go_y (v := .bool false) (y_pick_t rfl) rfl ?_
          refine go_ops_nil ?_
          refine go_cond_false rfl ?_
          refine go_seq ?_
          refine go_region ?_
          refine go_y (v := .pointer (some ⟨b7, 1, none⟩)) (y_fieldAddr rfl ty_fl_27_1) rfl ?_
          refine go_y (v := .int .i64 h) (y_load_fld rfl hb10 ty_sc_3 rfl) rfl ?_
          refine go_y (v := .pointer (some ⟨b2, 11, none⟩)) (y_fieldAddr rfl ty_fl_25_11) rfl ?_
          refine go_y (v := .int .i64 u.dn) (y_load_fld rfl hb5 ty_sc_3 rfl) rfl ?_
          refine go_test (c := (u.dn : Int) ≤ h) (y_ge rfl rfl) rfl (fun hc40 => ?_) (fun hc40 => ?_)
          · refine go_ops_nil ?_
            refine go_cond_true rfl ?_
            refine go_region ?_
            refine go_y (v := v31) (y_move) rfl ?_
            refine go_y (v := .agg #[.int .i64 2, .int .i64 1]) (y_build (#[.int .i64 2, .int .i64 1]) ty_ze_27 ty_pl_27 (by kernel_rfl)) rfl ?_
            refine go_lit [.agg #[.int .i64 2, .int .i64 1]] (#[.int .i64 2, .int .i64 1]) ty_sl_35 ty_ze_27 (by decide) (by decide) rfl (by intro x hx_; simp only [List.mem_cons, List.not_mem_nil, or_false] at hx_; subst hx_; rfl) rfl rfl rfl ?_
            intro w41 b42 hx43 hn44 hb45
            have hd46 : b2 ≠ b42 := by have := hb5.lt; omega
            have hd47 : b7 ≠ b42 := by have := hb10.lt; omega
            have hd48 := own33.ne_new hn44
            replace hn44 := Nat.le_trans hx.size hn44
            replace hb5 := hb5.ext hx43
            replace hb10 := hb10.ext hx43
            replace hz30 := Nat.le_trans hz30 hx43.size
            replace own33 := own33.ext hx43
            replace hx := hx.trans hx43
            refine go_app1 (f := stc) (2, 1) rfl rfl own33 hb45 rfl rfl ty_us_35 ty_in_27 rfl (by decide) (by repeat (first | exact one_nil | refine one_cons (by first | rfl | assumption) ?_)) (by decide) (by simp) hz30 rfl ?_
            intro v49 w50 own51 hg52 hbk53
            have hd54 := ne_append hb5.lt hd36 hbk53
            replace hb5 := hb5.grown hg52 hd36
            have hd55 := ne_append hb10.lt hd37 hbk53
            replace hb10 := hb10.grown hg52 hd37
            replace hz30 := Nat.le_trans hz30 hg52.size
            replace hx := own33.below hx hg52 hbase26
            refine go_y (v := v49) (y_assign) rfl ?_
            refine go_ops_nil ?_
            refine go_blk ?_
            refine go_seq ?_
            refine go_region ?_
            refine go_y (v := v49) (y_move) rfl ?_
            refine go_y (v := v49) (y_assign) rfl ?_
            refine go_ops_nil ?_
            refine go_ret ?_
            exact ⟨by rw [show nextF u k h = [(0, min (h + 1) (capOff u))] ++ [(2, 1)] from by unfold nextF; (repeat' split) <;> first | rfl | (exfalso; omega)]; exact own51.slr (fun _ => rfl), hx⟩
          · refine go_ops_nil ?_
            refine go_cond_false rfl ?_
            refine go_skip ?_
            refine go_blk ?_
            refine go_seq ?_
            refine go_region ?_
            refine go_y (v := v31) (y_move) rfl ?_
            refine go_y (v := v31) (y_assign) rfl ?_
            refine go_ops_nil ?_
            refine go_ret ?_
            exact ⟨by rw [show nextF u k h = [(0, min (h + 1) (capOff u))] from by unfold nextF; (repeat' split) <;> first | rfl | (exfalso; omega)]; exact own33.slr (fun _ => rfl), hx⟩
      · refine go_y (v := .bool false) (y_move) rfl ?_
        refine go_off (off_of (t := 35) (b' := false) rfl rfl rfl) ?_
        refine go_off (off_of (t := 35) (b' := false) rfl rfl rfl) ?_
        refine go_off (off_of (t := 35) (b' := false) rfl rfl rfl) ?_
        refine go_y (v := .bool false) (y_pick_f rfl) rfl ?_
        refine go_ops_nil ?_
        refine go_cond_false rfl ?_
        refine go_seq ?_
        refine go_region ?_
        refine go_y (v := .pointer (some ⟨b7, 1, none⟩)) (y_fieldAddr rfl ty_fl_27_1) rfl ?_
        refine go_y (v := .int .i64 h) (y_load_fld rfl hb10 ty_sc_3 rfl) rfl ?_
        refine go_y (v := .pointer (some ⟨b2, 11, none⟩)) (y_fieldAddr rfl ty_fl_25_11) rfl ?_
        refine go_y (v := .int .i64 u.dn) (y_load_fld rfl hb5 ty_sc_3 rfl) rfl ?_
        refine go_test (c := (u.dn : Int) ≤ h) (y_ge rfl rfl) rfl (fun hc39 => ?_) (fun hc39 => ?_)
        · refine go_ops_nil ?_
          refine go_cond_true rfl ?_
          refine go_region ?_
          refine go_y (v := v31) (y_move) rfl ?_
          refine go_y (v := .agg #[.int .i64 2, .int .i64 1]) (y_build (#[.int .i64 2, .int .i64 1]) ty_ze_27 ty_pl_27 (by kernel_rfl)) rfl ?_
          refine go_lit [.agg #[.int .i64 2, .int .i64 1]] (#[.int .i64 2, .int .i64 1]) ty_sl_35 ty_ze_27 (by decide) (by decide) rfl (by intro x hx_; simp only [List.mem_cons, List.not_mem_nil, or_false] at hx_; subst hx_; rfl) rfl rfl rfl ?_
          intro w40 b41 hx42 hn43 hb44
          have hd45 : b2 ≠ b41 := by have := hb5.lt; omega
          have hd46 : b7 ≠ b41 := by have := hb10.lt; omega
          have hd47 := own33.ne_new hn43
          replace hn43 := Nat.le_trans hx.size hn43
          replace hb5 := hb5.ext hx42
          replace hb10 := hb10.ext hx42
          replace hz30 := Nat.le_trans hz30 hx42.size
          replace own33 := own33.ext hx42
          replace hx := hx.trans hx42
          refine go_app1 (f := stc) (2, 1) rfl rfl own33 hb44 rfl rfl ty_us_35 ty_in_27 rfl (by decide) (by repeat (first | exact one_nil | refine one_cons (by first | rfl | assumption) ?_)) (by decide) (by simp) hz30 rfl ?_
          intro v48 w49 own50 hg51 hbk52
          have hd53 := ne_append hb5.lt hd36 hbk52
          replace hb5 := hb5.grown hg51 hd36
          have hd54 := ne_append hb10.lt hd37 hbk52
          replace hb10 := hb10.grown hg51 hd37
          replace hz30 := Nat.le_trans hz30 hg51.size
          replace hx := own33.below hx hg51 hbase26
          refine go_y (v := v48) (y_assign) rfl ?_
          refine go_ops_nil ?_
          refine go_blk ?_
          refine go_seq ?_
          refine go_region ?_
          refine go_y (v := v48) (y_move) rfl ?_
          refine go_y (v := v48) (y_assign) rfl ?_
          refine go_ops_nil ?_
          refine go_ret ?_
          exact ⟨by rw [show nextF u k h = [(0, min (h + 1) (capOff u))] ++ [(2, 1)] from by unfold nextF; (repeat' split) <;> first | rfl | (exfalso; omega)]; exact own50.slr (fun _ => rfl), hx⟩
        · refine go_ops_nil ?_
          refine go_cond_false rfl ?_
          refine go_skip ?_
          refine go_blk ?_
          refine go_seq ?_
          refine go_region ?_
          refine go_y (v := v31) (y_move) rfl ?_
          refine go_y (v := v31) (y_assign) rfl ?_
          refine go_ops_nil ?_
          refine go_ret ?_
          exact ⟨by rw [show nextF u k h = [(0, min (h + 1) (capOff u))] from by unfold nextF; (repeat' split) <;> first | rfl | (exfalso; omega)]; exact own33.slr (fun _ => rfl), hx⟩
    · refine go_y (v := .bool false) (y_assign) rfl ?_
      refine go_ops_nil ?_
      refine go_cond_false rfl ?_
      refine go_seq ?_
      refine go_region ?_
      refine go_test (c := (k : Int) = 1) (y_eq rfl rfl) rfl (fun hc18 => ?_) (fun hc18 => ?_)
      · refine go_y (v := .bool true) (y_assign) rfl ?_
        refine go_ops_nil ?_
        refine go_cond_true rfl ?_
        refine go_seq ?_
        refine go_region ?_
        refine go_y (v := .pointer (some ⟨b7, 1, none⟩)) (y_fieldAddr rfl ty_fl_27_1) rfl ?_
        refine go_y (v := .int .i64 h) (y_load_fld rfl hb10 ty_sc_3 rfl) rfl ?_
        refine go_y (v := .pointer (some ⟨b2, 12, none⟩)) (y_fieldAddr rfl ty_fl_25_12) rfl ?_
        refine go_y (v := .int .i64 u.st) (y_load_fld rfl hb5 ty_sc_3 rfl) rfl ?_
        refine go_test (c := (h : Int) < u.st) (y_lt rfl rfl) rfl (fun hc19 => ?_) (fun hc19 => ?_)
        · refine go_ops_nil ?_
          refine go_cond_true rfl ?_
          refine go_region ?_
          refine go_y (v := .slice none 0 0) (y_move) rfl ?_
          refine go_y (v := .pointer (some ⟨b7, 1, none⟩)) (y_fieldAddr rfl ty_fl_27_1) rfl ?_
          refine go_y (v := .int .i64 h) (y_load_fld rfl hb10 ty_sc_3 rfl) rfl ?_
          refine go_y (v := .int .i64 (h + 1)) (y_add rfl rfl (by unfold in64; omega)) rfl ?_
          refine go_y (v := .agg #[.int .i64 1, .int .i64 (h + 1)]) (y_build (#[.int .i64 1, .int .i64 (h + 1)]) ty_ze_27 ty_pl_27 (by kernel_rfl)) rfl ?_
          refine go_lit [.agg #[.int .i64 1, .int .i64 (h + 1)]] (#[.int .i64 1, .int .i64 (h + 1)]) ty_sl_35 ty_ze_27 (by decide) (by decide) rfl (by intro x hx_; simp only [List.mem_cons, List.not_mem_nil, or_false] at hx_; subst hx_; rfl) rfl rfl rfl ?_
          intro w20 b21 hx22 hn23 hb24
          have hd25 : b2 ≠ b21 := by have := hb5.lt; omega
          have hd26 : b7 ≠ b21 := by have := hb10.lt; omega
          replace hn23 := Nat.le_trans hx.size hn23
          replace hb5 := hb5.ext hx22
          replace hb10 := hb10.ext hx22
          replace hx := hx.trans hx22
          have own27 : Own w20 w20.heap.size 27 2 stc (.slice none 0 0) [] := Own.nil _ _ _ _ _
          have hbase28 : w.heap.size ≤ w20.heap.size := hx.size
          have hd29 := own27.ne hb5.lt
          have hd30 := own27.ne hb10.lt
          have hd31 := own27.ne hb24.lt
          have hz32 : w20.heap.size ≤ w20.heap.size := Nat.le_refl _
          refine go_app1 (f := stc) (1, h + 1) rfl rfl own27 hb24 rfl rfl ty_us_35 ty_in_27 rfl (by decide) (by repeat (first | exact one_nil | refine one_cons (by first | rfl | assumption) ?_)) (by decide) (by simp) hz32 rfl ?_
          intro v33 w34 own35 hg36 hbk37
          have hd38 := ne_append hb5.lt hd29 hbk37
          replace hb5 := hb5.grown hg36 hd29
          have hd39 := ne_append hb10.lt hd30 hbk37
          replace hb10 := hb10.grown hg36 hd30
          replace hz32 := Nat.le_trans hz32 hg36.size
          replace hx := own27.below hx hg36 hbase28
          replace own35 : Own w34 w20.heap.size 27 2 stc v33 [(1, h + 1)] := own35
          refine go_y (v := v33) (y_assign) rfl ?_
          refine go_ops_nil ?_
          refine go_blk ?_
          refine go_seq ?_
          refine go_region ?_
          refine go_y (v := v33) (y_move) rfl ?_
          refine go_y (v := v33) (y_assign) rfl ?_
          refine go_ops_nil ?_
          refine go_ret ?_
          exact ⟨by rw [show nextF u k h = [(1, h + 1)] from by unfold nextF; (repeat' split) <;> first | rfl | (exfalso; omega)]; exact own35.slr (fun _ => rfl), hx⟩
        · refine go_ops_nil ?_
          refine go_cond_false rfl ?_
          refine go_region ?_
          refine go_y (v := .slice none 0 0) (y_move) rfl ?_
          refine go_y (v := .agg #[.int .i64 2, .int .i64 1]) (y_build (#[.int .i64 2, .int .i64 1]) ty_ze_27 ty_pl_27 (by kernel_rfl)) rfl ?_
          refine go_lit [.agg #[.int .i64 2, .int .i64 1]] (#[.int .i64 2, .int .i64 1]) ty_sl_35 ty_ze_27 (by decide) (by decide) rfl (by intro x hx_; simp only [List.mem_cons, List.not_mem_nil, or_false] at hx_; subst hx_; rfl) rfl rfl rfl ?_
          intro w20 b21 hx22 hn23 hb24
          have hd25 : b2 ≠ b21 := by have := hb5.lt; omega
          have hd26 : b7 ≠ b21 := by have := hb10.lt; omega
          replace hn23 := Nat.le_trans hx.size hn23
          replace hb5 := hb5.ext hx22
          replace hb10 := hb10.ext hx22
          replace hx := hx.trans hx22
          have own27 : Own w20 w20.heap.size 27 2 stc (.slice none 0 0) [] := Own.nil _ _ _ _ _
          have hbase28 : w.heap.size ≤ w20.heap.size := hx.size
          have hd29 := own27.ne hb5.lt
          have hd30 := own27.ne hb10.lt
          have hd31 := own27.ne hb24.lt
          have hz32 : w20.heap.size ≤ w20.heap.size := Nat.le_refl _
          refine go_app1 (f := stc) (2, 1) rfl rfl own27 hb24 rfl rfl ty_us_35 ty_in_27 rfl (by decide) (by repeat (first | exact one_nil | refine one_cons (by first | rfl | assumption) ?_)) (by decide) (by simp) hz32 rfl ?_
          intro v33 w34 own35 hg36 hbk37
          have hd38 := ne_append hb5.lt hd29 hbk37
          replace hb5 := hb5.grown hg36 hd29
          have hd39 := ne_append hb10.lt hd30 hbk37
          replace hb10 := hb10.grown hg36 hd30
          replace hz32 := Nat.le_trans hz32 hg36.size
          replace hx := own27.below hx hg36 hbase28
          replace own35 : Own w34 w20.heap.size 27 2 stc v33 [(2, 1)] := own35
          refine go_y (v := v33) (y_assign) rfl ?_
          refine go_ops_nil ?_
          refine go_blk ?_
          refine go_seq ?_
          refine go_region ?_
          refine go_y (v := v33) (y_move) rfl ?_
          refine go_y (v := v33) (y_assign) rfl ?_
          refine go_ops_nil ?_
          refine go_ret ?_
          exact ⟨by rw [show nextF u k h = [(2, 1)] from by unfold nextF; (repeat' split) <;> first | rfl | (exfalso; omega)]; exact own35.slr (fun _ => rfl), hx⟩
      · refine go_y (v := .bool false) (y_assign) rfl ?_
        refine go_ops_nil ?_
        refine go_cond_false rfl ?_
        refine go_seq ?_
        refine go_region ?_
        refine go_test (c := (k : Int) = 2) (y_eq rfl rfl) rfl (fun hc19 => ?_) (fun hc19 => ?_)
        · refine go_y (v := .bool true) (y_assign) rfl ?_
          refine go_ops_nil ?_
          refine go_cond_true rfl ?_
          refine go_seq ?_
          refine go_seq ?_
          refine go_region ?_
          refine go_y (v := .pointer (some ⟨b7, 1, none⟩)) (y_fieldAddr rfl ty_fl_27_1) rfl ?_
          refine go_y (v := .int .i64 h) (y_load_fld rfl hb10 ty_sc_3 rfl) rfl ?_
          refine go_y (v := .pointer (some ⟨b2, 10, none⟩)) (y_fieldAddr rfl ty_fl_25_10) rfl ?_
          refine go_y (v := .int .i64 u.up) (y_load_fld rfl hb5 ty_sc_3 rfl) rfl ?_
          refine go_test (c := (u.up : Int) ≤ h) (y_ge rfl rfl) rfl (fun hc20 => ?_) (fun hc20 => ?_)
          · refine go_ops_nil ?_
            refine go_cond_true rfl ?_
            refine go_region ?_
            refine go_y (v := .slice none 0 0) (y_move) rfl ?_
            refine go_y (v := .agg #[.int .i64 0, .int .i64 1]) (y_build (#[.int .i64 0, .int .i64 1]) ty_ze_27 ty_pl_27 (by kernel_rfl)) rfl ?_
            refine go_lit [.agg #[.int .i64 0, .int .i64 1]] (#[.int .i64 0, .int .i64 1]) ty_sl_35 ty_ze_27 (by decide) (by decide) rfl (by intro x hx_; simp only [List.mem_cons, List.not_mem_nil, or_false] at hx_; subst hx_; rfl) rfl rfl rfl ?_
            intro w21 b22 hx23 hn24 hb25
            have hd26 : b2 ≠ b22 := by have := hb5.lt; omega
            have hd27 : b7 ≠ b22 := by have := hb10.lt; omega
            replace hn24 := Nat.le_trans hx.size hn24
            replace hb5 := hb5.ext hx23
            replace hb10 := hb10.ext hx23
            replace hx := hx.trans hx23
            have own28 : Own w21 w21.heap.size 27 2 stc (.slice none 0 0) [] := Own.nil _ _ _ _ _
            have hbase29 : w.heap.size ≤ w21.heap.size := hx.size
            have hd30 := own28.ne hb5.lt
            have hd31 := own28.ne hb10.lt
            have hd32 := own28.ne hb25.lt
            have hz33 : w21.heap.size ≤ w21.heap.size := Nat.le_refl _
            refine go_app1 (f := stc) (0, 1) rfl rfl own28 hb25 rfl rfl ty_us_35 ty_in_27 rfl (by decide) (by repeat (first | exact one_nil | refine one_cons (by first | rfl | assumption) ?_)) (by decide) (by simp) hz33 rfl ?_
            intro v34 w35 own36 hg37 hbk38
            have hd39 := ne_append hb5.lt hd30 hbk38
            replace hb5 := hb5.grown hg37 hd30
            have hd40 := ne_append hb10.lt hd31 hbk38
            replace hb10 := hb10.grown hg37 hd31
            replace hz33 := Nat.le_trans hz33 hg37.size
            replace hx := own28.below hx hg37 hbase29
            replace own36 : Own w35 w21.heap.size 27 2 stc v34 [(0, 1)] := own36
            refine go_y (v := v34) (y_assign) rfl ?_
            refine go_ops_nil ?_
            refine go_region ?_
            refine go_y (v := v34) (y_move) rfl ?_
            refine go_y (v := .pointer (some ⟨b7, 1, none⟩)) (y_fieldAddr rfl ty_fl_27_1) rfl ?_
            refine go_y (v := .int .i64 h) (y_load_fld rfl hb10 ty_sc_3 rfl) rfl ?_
            refine go_y (v := .int .i64 (h + 1)) (y_add rfl rfl (by unfold in64; omega)) rfl ?_
            refine go_y (v := .int .i64 (capOn u)) (y_move) rfl ?_
            refine go_y (v := .int .i64 (min (h + 1) (capOn u))) (y_min2 rfl rfl) rfl ?_
            refine go_y (v := .agg #[.int .i64 2, .int .i64 (min (h + 1) (capOn u))]) (y_build (#[.int .i64 2, .int .i64 (min (h + 1) (capOn u))]) ty_ze_27 ty_pl_27 (by kernel_rfl)) rfl ?_
            refine go_lit [.agg #[.int .i64 2, .int .i64 (min (h + 1) (capOn u))]] (#[.int .i64 2, .int .i64 (min (h + 1) (capOn u))]) ty_sl_35 ty_ze_27 (by decide) (by decide) rfl (by intro x hx_; simp only [List.mem_cons, List.not_mem_nil, or_false] at hx_; subst hx_; rfl) rfl rfl rfl ?_
            intro w41 b42 hx43 hn44 hb45
            have hd46 : b2 ≠ b42 := by have := hb5.lt; omega
            have hd47 : b7 ≠ b42 := by have := hb10.lt; omega
            have hd48 := own36.ne_new hn44
            replace hn44 := Nat.le_trans hx.size hn44
            replace hb5 := hb5.ext hx43
            replace hb10 := hb10.ext hx43
            replace hz33 := Nat.le_trans hz33 hx43.size
            replace own36 := own36.ext hx43
            replace hx := hx.trans hx43
            refine go_app1 (f := stc) (2, min (h + 1) (capOn u)) rfl rfl own36 hb45 rfl rfl ty_us_35 ty_in_27 rfl (by decide) (by repeat (first | exact one_nil | refine one_cons (by first | rfl | assumption) ?_)) (by decide) (by simp) hz33 rfl ?_
            intro v49 w50 own51 hg52 hbk53
            have hd54 := ne_append hb5.lt hd39 hbk53
            replace hb5 := hb5.grown hg52 hd39
            have hd55 := ne_append hb10.lt hd40 hbk53
            replace hb10 := hb10.grown hg52 hd40
            replace hz33 := Nat.le_trans hz33 hg52.size
            replace hx := own36.below hx hg52 hbase29
            refine go_y (v := v49) (y_assign) rfl ?_
            refine go_ops_nil ?_
            refine go_blk ?_
            refine go_seq ?_
            refine go_region ?_
            refine go_y (v := v49) (y_move) rfl ?_
            refine go_y (v := v49) (y_assign) rfl ?_
            refine go_ops_nil ?_
            refine go_ret ?_
            exact ⟨by rw [show nextF u k h = [(0, 1)] ++ [(2, min (h + 1) (capOn u))] from by unfold nextF; (repeat' split) <;> first | rfl | (exfalso; omega)]; exact own51.slr (fun _ => rfl), hx⟩
          · refine go_ops_nil ?_
            refine go_cond_false rfl ?_
            refine go_skip ?_
            refine go_region ?_
            refine go_y (v := .slice none 0 0) (y_move) rfl ?_
            refine go_y (v := .pointer (some ⟨b7, 1, none⟩)) (y_fieldAddr rfl ty_fl_27_1) rfl ?_
            refine go_y (v := .int .i64 h) (y_load_fld rfl hb10 ty_sc_3 rfl) rfl ?_
            refine go_y (v := .int .i64 (h + 1)) (y_add rfl rfl (by unfold in64; omega)) rfl ?_
            refine go_y (v := .int .i64 (capOn u)) (y_move) rfl ?_
            refine go_y (v := .int .i64 (min (h + 1) (capOn u))) (y_min2 rfl rfl) rfl ?_
            refine go_y (v := .agg #[.int .i64 2, .int .i64 (min (h + 1) (capOn u))]) (y_build (#[.int .i64 2, .int .i64 (min (h + 1) (capOn u))]) ty_ze_27 ty_pl_27 (by kernel_rfl)) rfl ?_
            refine go_lit [.agg #[.int .i64 2, .int .i64 (min (h + 1) (capOn u))]] (#[.int .i64 2, .int .i64 (min (h + 1) (capOn u))]) ty_sl_35 ty_ze_27 (by decide) (by decide) rfl (by intro x hx_; simp only [List.mem_cons, List.not_mem_nil, or_false] at hx_; subst hx_; rfl) rfl rfl rfl ?_
            intro w21 b22 hx23 hn24 hb25
            have hd26 : b2 ≠ b22 := by have := hb5.lt; omega
            have hd27 : b7 ≠ b22 := by have := hb10.lt; omega
            replace hn24 := Nat.le_trans hx.size hn24
            replace hb5 := hb5.ext hx23
            replace hb10 := hb10.ext hx23
            replace hx := hx.trans hx23
            have own28 : Own w21 w21.heap.size 27 2 stc (.slice none 0 0) [] := Own.nil _ _ _ _ _
            have hbase29 : w.heap.size ≤ w21.heap.size := hx.size
            have hd30 := own28.ne hb5.lt
            have hd31 := own28.ne hb10.lt
            have hd32 := own28.ne hb25.lt
            have hz33 : w21.heap.size ≤ w21.heap.size := Nat.le_refl _
            refine go_app1 (f := stc) (2, min (h + 1) (capOn u)) rfl rfl own28 hb25 rfl rfl ty_us_35 ty_in_27 rfl (by decide) (by repeat (first | exact one_nil | refine one_cons (by first | rfl | assumption) ?_)) (by decide) (by simp) hz33 rfl ?_
            intro v34 w35 own36 hg37 hbk38
            have hd39 := ne_append hb5.lt hd30 hbk38
            replace hb5 := hb5.grown hg37 hd30
            have hd40 := ne_append hb10.lt hd31 hbk38
            replace hb10 := hb10.grown hg37 hd31
            replace hz33 := Nat.le_trans hz33 hg37.size
            replace hx := own28.below hx hg37 hbase29
            replace own36 : Own w35 w21.heap.size 27 2 stc v34 [(2, min (h + 1) (capOn u))] := own36
            refine go_y (v := v34) (y_assign) rfl ?_
            refine go_ops_nil ?_
            refine go_blk ?_
            refine go_seq ?_
            refine go_region ?_
            refine go_y (v := v34) (y_move) rfl ?_
            refine go_y (v := v34) (y_assign) rfl ?_
            refine go_ops_nil ?_
            refine go_ret ?_
            exact ⟨by rw [show nextF u k h = [(2, min (h + 1) (capOn u))] from by unfold nextF; (repeat' split) <;> first | rfl | (exfalso; omega)]; exact own36.slr (fun _ => rfl), hx⟩
        · refine go_y (v := .bool false) (y_assign) rfl ?_
          refine go_ops_nil ?_
          refine go_cond_false rfl ?_
          refine go_skip ?_
          refine go_blk ?_
          refine go_seq ?_
          refine go_region ?_
          refine go_y (v := .slice none 0 0) (y_move) rfl ?_
          refine go_y (v := .slice none 0 0) (y_assign) rfl ?_
          refine go_ops_nil ?_
          refine go_ret ?_
          exact ⟨by rw [show nextF u k h = [] from by unfold nextF; (repeat' split) <;> first | rfl | (exfalso; omega)]; exact SlR.nil _ _ _, hx⟩

set_option maxHeartbeats 4000000 in
set_option maxRecDepth 100000 in
theorem rnext_ret (u : U) (k h : Int) (w : World) : Ret Try.prog 22 [.agg u.cells, .agg #[.int .i64 k, .int .i64 h]] w (fun v w' => SlR w' 2 stc v (nextF u k h) ∧ Ext w w') := by
  refine calls_of_go Try.func22 rfl (by show _ ≤ _; exact Nat.le_of_ble_eq_true rfl) (by kernel_rfl) _ (res1 rfl) ?_
  have hx : Ext w w := Ext.refl w
  refine go_seq ?_
  refine go_region ?_
  refine go_box (.agg u.cells) u.cells rfl rfl rfl ?_
  intro w1 b2 hx3 hn4 hb5
  replace hn4 := Nat.le_trans hx.size hn4
  replace hx := hx.trans hx3
  refine go_box (.agg #[.int .i64 k, .int .i64 h]) (#[.int .i64 k, .int .i64 h]) rfl rfl rfl ?_
  intro w6 b7 hx8 hn9 hb10
  have hd11 : b2 ≠ b7 := by have := hb5.lt; omega
  replace hn9 := Nat.le_trans hx.size hn9
  replace hb5 := hb5.ext hx8
  replace hx := hx.trans hx8
  refine go_y (v := .slice none 0 0) (y_assign) rfl ?_
  refine go_ops_nil ?_
  refine go_seq ?_
  refine go_seq ?_
  refine go_region ?_
  refine go_y (v := .agg u.cells) (y_load_blk rfl hb5 ty_ag_25 rfl) rfl ?_
  refine go_y (v := .agg #[.int .i64 k, .int .i64 h]) (y_load_blk rfl hb10 ty_ag_27 rfl) rfl ?_
  refine go_c (enters_func ty_en_31 rfl) (is_ret u k h _) rfl ?_
  rintro _ w12 ⟨rfl, hx13⟩
  replace hb5 := hb5.ext hx13
  replace hb10 := hb10.ext hx13
  replace hx := hx.trans hx13
  cases his : isB u k h
  · have hp_ : ¬ 0 ≤ posF u k h := of_decide_eq_false his
    refine go_y (v := .bool true) (y_not_f rfl) rfl ?_
    refine go_ops_nil ?_
    refine go_cond_true rfl ?_
    refine go_seq ?_
    refine go_region ?_
    refine go_y (v := .slice none 0 0) (y_assign) rfl ?_
    refine go_ops_nil ?_
    refine go_ret ?_
    exact ⟨by rw [show nextF u k h = [] from by unfold nextF; (repeat' split) <;> first | rfl | (exfalso; omega)]; exact SlR.nil _ _ _, hx⟩
  · have hp0_ : 0 ≤ posF u k h := of_decide_eq_true his
    have hp_ := posF_in hp0_
    have hsd_u := sound_spec hp_.1
    have hcb_u := cap_bd hp_.1
    have hs_u := hp_.1
    refine go_y (v := .bool false) (y_not_t rfl) rfl ?_
    refine go_ops_nil ?_
    refine go_cond_false rfl ?_
    refine go_skip ?_
    refine go_seq ?_
    refine go_region ?_
    refine go_y (v := .agg u.cells) (y_load_blk rfl hb5 ty_ag_25 rfl) rfl ?_
    refine go_c (enters_func ty_en_10 rfl) (rcaps_ret u hs_u _) rfl ?_
    rintro _ w14 ⟨rfl, hx15⟩
    replace hb5 := hb5.ext hx15
    replace hb10 := hb10.ext hx15
    replace hx := hx.trans hx15
    refine go_y (v := .tuple #[.int .i64 (capOff u), .int .i64 (capOn u)]) (y_move) rfl ?_
    refine go_y (v := .int .i64 (capOff u)) (y_extract rfl rfl) rfl ?_
    refine go_y (v := .int .i64 (capOn u)) (y_extract rfl rfl) rfl ?_
    refine go_y (v := .int .i64 (capOff u)) (y_assign) rfl ?_
    refine go_y (v := .int .i64 (capOn u)) (y_assign) rfl ?_
    refine go_ops_nil ?_
    refine go_seq ?_
    refine go_seq ?_
    refine go_region ?_
    refine go_y (v := .pointer (some ⟨b7, 0, none⟩)) (y_fieldAddr rfl ty_fl_27_0) rfl ?_
    refine go_y (v := .int .i64 k) (y_load_fld rfl hb10 ty_sc_3 rfl) rfl ?_
    refine go_ops_nil ?_
    refine go_block ?_
    refine go_seq ?_
    refine go_region ?_
    refine go_test (c := (k : Int) = 0) (y_eq rfl rfl) rfl (fun hc16 => ?_) (fun hc16 => ?_)
    · refine go_y (v := .bool true) (y_assign) rfl ?_
      refine go_ops_nil ?_
      refine go_cond_true rfl ?_
      refine go_seq ?_
      refine go_region ?_
      refine go_y (v := .pointer (some ⟨b7, 1, none⟩)) (y_fieldAddr rfl ty_fl_27_1) rfl ?_
      refine go_y (v := .int .i64 h) (y_load_fld rfl hb10 ty_sc_3 rfl) rfl ?_
      refine go_y (v := .int .i64 (h + 1)) (y_add rfl rfl (by unfold in64; omega)) rfl ?_
      refine go_y (v := .int .i64 (capOff u)) (y_move) rfl ?_
      refine go_y (v := .int .i64 (min (h + 1) (capOff u))) (y_min2 rfl rfl) rfl ?_
      refine go_y (v := .agg #[.int .i64 0, .int .i64 (min (h + 1) (capOff u))]) (y_build (#[.int .i64 0, .int .i64 (min (h + 1) (capOff u))]) ty_ze_27 ty_pl_27 (by kernel_rfl)) rfl ?_
      refine go_lit [.agg #[.int .i64 0, .int .i64 (min (h + 1) (capOff u))]] (#[.int .i64 0, .int .i64 (min (h + 1) (capOff u))]) ty_sl_35 ty_ze_27 (by decide) (by decide) rfl (by intro x hx_; simp only [List.mem_cons, List.not_mem_nil, or_false] at hx_; subst hx_; rfl) rfl rfl rfl ?_
      intro w17 b18 hx19 hn20 hb21
      have hd22 : b2 ≠ b18 := by have := hb5.lt; omega
      have hd23 : b7 ≠ b18 := by have := hb10.lt; omega
      replace hn20 := Nat.le_trans hx.size hn20
      replace hb5 := hb5.ext hx19
      replace hb10 := hb10.ext hx19
      replace hx := hx.trans hx19
      refine go_y (v := .slice (some ⟨b18, 0, none⟩) 1 1) (y_assign) rfl ?_
      refine go_ops_nil ?_
      refine go_seq ?_
      refine go_seq ?_
      refine go_region ?_
      refine go_y (v := .pointer (some ⟨b7, 1, none⟩)) (y_fieldAddr rfl ty_fl_27_1) rfl ?_
      refine go_y (v := .int .i64 h) (y_load_fld rfl hb10 ty_sc_3 rfl) rfl ?_
      refine go_y (v := .pointer (some ⟨b2, 11, none⟩)) (y_fieldAddr rfl ty_fl_25_11) rfl ?_
      refine go_y (v := .int .i64 u.dn) (y_load_fld rfl hb5 ty_sc_3 rfl) rfl ?_
      refine go_test (c := (h : Int) < u.dn) (y_lt rfl rfl) rfl (fun hc24 => ?_) (fun hc24 => ?_)
      · refine go_ops_nil ?_
        refine go_cond_true rfl ?_
        refine go_seq ?_
        refine go_region ?_
        refine go_y (v := .slice (some ⟨b18, 0, none⟩) 1 1) (y_move) rfl ?_
        refine go_y (v := .slice (some ⟨b18, 0, none⟩) 1 1) (y_assign) rfl ?_
        refine go_ops_nil ?_
        refine go_ret ?_
        exact ⟨by rw [show nextF u k h = [(0, min (h + 1) (capOff u))] from by unfold nextF; (repeat' split) <;> first | rfl | (exfalso; omega)]; exact slr_lit (f := stc) [(0, min (h + 1) (capOff u))] hb21 rfl (fun _ => rfl) (by show _ ≤ _; exact Nat.le_of_ble_eq_true rfl), hx⟩
      · refine go_ops_nil ?_
        refine go_cond_false rfl ?_
        refine go_skip ?_
        refine go_seq ?_
        refine go_seq ?_
        refine go_region ?_
        refine go_y (v := .pointer (some ⟨b2, 12, none⟩)) (y_fieldAddr rfl ty_fl_25_12) rfl ?_
        refine go_y (v := .int .i64 u.st) (y_load_fld rfl hb5 ty_sc_3 rfl) rfl ?_
        refine go_test (c := (0 : Int) < u.st) (y_gt rfl rfl) rfl (fun hc25 => ?_) (fun hc25 => ?_)
        · refine go_ops_nil ?_
          refine go_cond_true rfl ?_
          refine go_seq ?_
          refine go_region ?_
          refine go_y (v := .slice (some ⟨b18, 0, none⟩) 1 1) (y_move) rfl ?_
          refine go_y (v := .agg #[.int .i64 1, .int .i64 1]) (y_build (#[.int .i64 1, .int .i64 1]) ty_ze_27 ty_pl_27 (by kernel_rfl)) rfl ?_
          refine go_lit [.agg #[.int .i64 1, .int .i64 1]] (#[.int .i64 1, .int .i64 1]) ty_sl_35 ty_ze_27 (by decide) (by decide) rfl (by intro x hx_; simp only [List.mem_cons, List.not_mem_nil, or_false] at hx_; subst hx_; rfl) rfl rfl rfl ?_
          intro w26 b27 hx28 hn29 hb30
          have hd31 : b2 ≠ b27 := by have := hb5.lt; omega
          have hd32 : b7 ≠ b27 := by have := hb10.lt; omega
          have hd33 : b18 ≠ b27 := by have := hb21.lt; omega
          replace hn29 := Nat.le_trans hx.size hn29
          replace hb5 := hb5.ext hx28
          replace hb10 := hb10.ext hx28
          replace hb21 := hb21.ext hx28
          replace hx := hx.trans hx28
          have own34 : Own w26 b18 27 2 stc (.slice (some ⟨b18, 0, none⟩) 1 1) [(0, min (h + 1) (capOff u))] := Own.lit hb21 rfl rfl (Nat.le_refl _)
          have hbase35 : w.heap.size ≤ b18 := hn20
          have hd36 : some b2 ≠ Value.ownBlock (.slice (some ⟨b18, 0, none⟩) 1 1) := by intro hh; cases hh; exact absurd rfl hd22
          have hd37 : some b7 ≠ Value.ownBlock (.slice (some ⟨b18, 0, none⟩) 1 1) := by intro hh; cases hh; exact absurd rfl hd23
          have hd38 : some b27 ≠ Value.ownBlock (.slice (some ⟨b18, 0, none⟩) 1 1) := by intro hh; cases hh; exact absurd rfl (Ne.symm hd33)
          have hz39 : b18 ≤ w26.heap.size := Nat.le_of_lt hb21.lt
          refine go_app1 (f := stc) (1, 1) rfl rfl own34 hb30 rfl rfl ty_us_35 ty_in_27 rfl (by decide) (by repeat (first | exact one_nil | refine one_cons (by first | rfl | assumption) ?_)) (by decide) (by simp) hz39 rfl ?_
          intro v40 w41 own42 hg43 hbk44
          have hd45 := ne_append hb5.lt hd36 hbk44
          replace hb5 := hb5.grown hg43 hd36
          have hd46 := ne_append hb10.lt hd37 hbk44
          replace hb10 := hb10.grown hg43 hd37
          replace hz39 := Nat.le_trans hz39 hg43.size
          replace hx := own34.below hx hg43 hbase35
          refine go_y (v := v40) (y_assign) rfl ?_
          refine go_ops_nil ?_
          refine go_ret ?_
          exact ⟨by rw [show nextF u k h = [(0, min (h + 1) (capOff u))] ++ [(1, 1)] from by unfold nextF; (repeat' split) <;> first | rfl | (exfalso; omega)]; exact own42.slr (fun _ => rfl), hx⟩
        · refine go_ops_nil ?_
          refine go_cond_false rfl ?_
          refine go_skip ?_
          refine go_seq ?_
          refine go_region ?_
          refine go_y (v := .slice (some ⟨b18, 0, none⟩) 1 1) (y_move) rfl ?_
          refine go_y (v := .agg #[.int .i64 2, .int .i64 1]) (y_build (#[.int .i64 2, .int .i64 1]) ty_ze_27 ty_pl_27 (by kernel_rfl)) rfl ?_
          refine go_lit [.agg #[.int .i64 2, .int .i64 1]] (#[.int .i64 2, .int .i64 1]) ty_sl_35 ty_ze_27 (by decide) (by decide) rfl (by intro x hx_; simp only [List.mem_cons, List.not_mem_nil, or_false] at hx_; subst hx_; rfl) rfl rfl rfl ?_
          intro w26 b27 hx28 hn29 hb30
          have hd31 : b2 ≠ b27 := by have := hb5.lt; omega
          have hd32 : b7 ≠ b27 := by have := hb10.lt; omega
          have hd33 : b18 ≠ b27 := by have := hb21.lt; omega
          replace hn29 := Nat.le_trans hx.size hn29
          replace hb5 := hb5.ext hx28
          replace hb10 := hb10.ext hx28
          replace hb21 := hb21.ext hx28
          replace hx := hx.trans hx28
          have own34 : Own w26 b18 27 2 stc (.slice (some ⟨b18, 0, none⟩) 1 1) [(0, min (h + 1) (capOff u))] := Own.lit hb21 rfl rfl (Nat.le_refl _)
          have hbase35 : w.heap.size ≤ b18 := hn20
          have hd36 : some b2 ≠ Value.ownBlock (.slice (some ⟨b18, 0, none⟩) 1 1) := by intro hh; cases hh; exact absurd rfl hd22
          have hd37 : some b7 ≠ Value.ownBlock (.slice (some ⟨b18, 0, none⟩) 1 1) := by intro hh; cases hh; exact absurd rfl hd23
          have hd38 : some b27 ≠ Value.ownBlock (.slice (some ⟨b18, 0, none⟩) 1 1) := by intro hh; cases hh; exact absurd rfl (Ne.symm hd33)
          have hz39 : b18 ≤ w26.heap.size := Nat.le_of_lt hb21.lt
          refine go_app1 (f := stc) (2, 1) rfl rfl own34 hb30 rfl rfl ty_us_35 ty_in_27 rfl (by decide) (by repeat (first | exact one_nil | refine one_cons (by first | rfl | assumption) ?_)) (by decide) (by simp) hz39 rfl ?_
          intro v40 w41 own42 hg43 hbk44
          have hd45 := ne_append hb5.lt hd36 hbk44
          replace hb5 := hb5.grown hg43 hd36
          have hd46 := ne_append hb10.lt hd37 hbk44
          replace hb10 := hb10.grown hg43 hd37
          replace hz39 := Nat.le_trans hz39 hg43.size
          replace hx := own34.below hx hg43 hbase35
          refine go_y (v := v40) (y_assign) rfl ?_
          refine go_ops_nil ?_
          refine go_ret ?_
          exact ⟨by rw [show nextF u k h = [(0, min (h + 1) (capOff u))] ++ [(2, 1)] from by unfold nextF; (repeat' split) <;> first | rfl | (exfalso; omega)]; exact own42.slr (fun _ => rfl), hx⟩
    · refine go_y (v := .bool false) (y_assign) rfl ?_
      refine go_ops_nil ?_
      refine go_cond_false rfl ?_
      refine go_seq ?_
      refine go_region ?_
      refine go_test (c := (k : Int) = 1) (y_eq rfl rfl) rfl (fun hc17 => ?_) (fun hc17 => ?_)
      · refine go_y (v := .bool true) (y_assign) rfl ?_
        refine go_ops_nil ?_
        refine go_cond_true rfl ?_
        refine go_seq ?_
        refine go_seq ?_
        refine go_region ?_
        refine go_y (v := .pointer (some ⟨b7, 1, none⟩)) (y_fieldAddr rfl ty_fl_27_1) rfl ?_
        refine go_y (v := .int .i64 h) (y_load_fld rfl hb10 ty_sc_3 rfl) rfl ?_
        refine go_y (v := .pointer (some ⟨b2, 12, none⟩)) (y_fieldAddr rfl ty_fl_25_12) rfl ?_
        refine go_y (v := .int .i64 u.st) (y_load_fld rfl hb5 ty_sc_3 rfl) rfl ?_
        refine go_test (c := (h : Int) < u.st) (y_lt rfl rfl) rfl (fun hc18 => ?_) (fun hc18 => ?_)
        · refine go_ops_nil ?_
          refine go_cond_true rfl ?_
          refine go_seq ?_
          refine go_region ?_
          refine go_y (v := .pointer (some ⟨b7, 1, none⟩)) (y_fieldAddr rfl ty_fl_27_1) rfl ?_
          refine go_y (v := .int .i64 h) (y_load_fld rfl hb10 ty_sc_3 rfl) rfl ?_
          refine go_y (v := .int .i64 (h + 1)) (y_add rfl rfl (by unfold in64; omega)) rfl ?_
          refine go_y (v := .agg #[.int .i64 1, .int .i64 (h + 1)]) (y_build (#[.int .i64 1, .int .i64 (h + 1)]) ty_ze_27 ty_pl_27 (by kernel_rfl)) rfl ?_
          refine go_lit [.agg #[.int .i64 1, .int .i64 (h + 1)]] (#[.int .i64 1, .int .i64 (h + 1)]) ty_sl_35 ty_ze_27 (by decide) (by decide) rfl (by intro x hx_; simp only [List.mem_cons, List.not_mem_nil, or_false] at hx_; subst hx_; rfl) rfl rfl rfl ?_
          intro w19 b20 hx21 hn22 hb23
          have hd24 : b2 ≠ b20 := by have := hb5.lt; omega
          have hd25 : b7 ≠ b20 := by have := hb10.lt; omega
          replace hn22 := Nat.le_trans hx.size hn22
          replace hb5 := hb5.ext hx21
          replace hb10 := hb10.ext hx21
          replace hx := hx.trans hx21
          refine go_y (v := .slice (some ⟨b20, 0, none⟩) 1 1) (y_assign) rfl ?_
          refine go_ops_nil ?_
          refine go_ret ?_
          exact ⟨by rw [show nextF u k h = [(1, h + 1)] from by unfold nextF; (repeat' split) <;> first | rfl | (exfalso; omega)]; exact slr_lit (f := stc) [(1, h + 1)] hb23 rfl (fun _ => rfl) (by show _ ≤ _; exact Nat.le_of_ble_eq_true rfl), hx⟩
        · refine go_ops_nil ?_
          refine go_cond_false rfl ?_
          refine go_skip ?_
          refine go_seq ?_
          refine go_region ?_
          refine go_y (v := .agg #[.int .i64 2, .int .i64 1]) (y_build (#[.int .i64 2, .int .i64 1]) ty_ze_27 ty_pl_27 (by kernel_rfl)) rfl ?_
          refine go_lit [.agg #[.int .i64 2, .int .i64 1]] (#[.int .i64 2, .int .i64 1]) ty_sl_35 ty_ze_27 (by decide) (by decide) rfl (by intro x hx_; simp only [List.mem_cons, List.not_mem_nil, or_false] at hx_; subst hx_; rfl) rfl rfl rfl ?_
          intro w19 b20 hx21 hn22 hb23
          have hd24 : b2 ≠ b20 := by have := hb5.lt; omega
          have hd25 : b7 ≠ b20 := by have := hb10.lt; omega
          replace hn22 := Nat.le_trans hx.size hn22
          replace hb5 := hb5.ext hx21
          replace hb10 := hb10.ext hx21
          replace hx := hx.trans hx21
          refine go_y (v := .slice (some ⟨b20, 0, none⟩) 1 1) (y_assign) rfl ?_
          refine go_ops_nil ?_
          refine go_ret ?_
          exact ⟨by rw [show nextF u k h = [(2, 1)] from by unfold nextF; (repeat' split) <;> first | rfl | (exfalso; omega)]; exact slr_lit (f := stc) [(2, 1)] hb23 rfl (fun _ => rfl) (by show _ ≤ _; exact Nat.le_of_ble_eq_true rfl), hx⟩
      · refine go_y (v := .bool false) (y_assign) rfl ?_
        refine go_ops_nil ?_
        refine go_cond_false rfl ?_
        refine go_skip ?_
        refine go_blk ?_
        refine go_seq ?_
        refine go_region ?_
        refine go_y (v := .pointer (some ⟨b7, 1, none⟩)) (y_fieldAddr rfl ty_fl_27_1) rfl ?_
        refine go_y (v := .int .i64 h) (y_load_fld rfl hb10 ty_sc_3 rfl) rfl ?_
        refine go_y (v := .int .i64 (h + 1)) (y_add rfl rfl (by unfold in64; omega)) rfl ?_
        refine go_y (v := .int .i64 (capOn u)) (y_move) rfl ?_
        refine go_y (v := .int .i64 (min (h + 1) (capOn u))) (y_min2 rfl rfl) rfl ?_
        refine go_y (v := .agg #[.int .i64 2, .int .i64 (min (h + 1) (capOn u))]) (y_build (#[.int .i64 2, .int .i64 (min (h + 1) (capOn u))]) ty_ze_27 ty_pl_27 (by kernel_rfl)) rfl ?_
        refine go_alloc (.agg #[.int .i64 0, .int .i64 0]) (#[.int .i64 0, .int .i64 0]) ty_ze_27 rfl rfl ?_
        intro w18 b19 hx20 hn21 hb22
        have hd23 : b2 ≠ b19 := by have := hb5.lt; omega
        have hd24 : b7 ≠ b19 := by have := hb10.lt; omega
        replace hn21 := Nat.le_trans hx.size hn21
        replace hb5 := hb5.ext hx20
        replace hb10 := hb10.ext hx20
        replace hx := hx.trans hx20
        refine go_store ((#[.int .i64 2, .int .i64 (min (h + 1) (capOn u))]).toList) (#[.int .i64 2, .int .i64 (min (h + 1) (capOn u))]) rfl rfl rfl ty_sz_27 rfl hb22 (by show _ ≤ _; exact Nat.le_of_ble_eq_true rfl) (by repeat (first | exact one_nil | refine one_cons (by first | rfl | assumption) ?_)) (by kernel_rfl) rfl ?_
        intro w25 hch26 hb22'
        replace hb5 := hb5.chg hch26 (hd23)
        replace hb10 := hb10.chg hch26 (hd24)
        replace hx := hx.chg hch26 hn21
        replace hb22 := hb22'
        refine go_ops_nil ?_
        refine go_seq ?_
        refine go_seq ?_
        refine go_region ?_
        refine go_y (v := .pointer (some ⟨b7, 1, none⟩)) (y_fieldAddr rfl ty_fl_27_1) rfl ?_
        refine go_y (v := .int .i64 h) (y_load_fld rfl hb10 ty_sc_3 rfl) rfl ?_
        refine go_y (v := .pointer (some ⟨b2, 10, none⟩)) (y_fieldAddr rfl ty_fl_25_10) rfl ?_
        refine go_y (v := .int .i64 u.up) (y_load_fld rfl hb5 ty_sc_3 rfl) rfl ?_
        refine go_test (c := (u.up : Int) ≤ h) (y_ge rfl rfl) rfl (fun hc27 => ?_) (fun hc27 => ?_)
        · refine go_ops_nil ?_
          refine go_cond_true rfl ?_
          refine go_seq ?_
          refine go_region ?_
          refine go_y (v := .agg #[.int .i64 0, .int .i64 1]) (y_build (#[.int .i64 0, .int .i64 1]) ty_ze_27 ty_pl_27 (by kernel_rfl)) rfl ?_
          refine go_y (v := .agg #[.int .i64 2, .int .i64 (min (h + 1) (capOn u))]) (y_load_blk rfl hb22 ty_ag_27 rfl) rfl ?_
          refine go_lit [.agg #[.int .i64 0, .int .i64 1], .agg #[.int .i64 2, .int .i64 (min (h + 1) (capOn u))]] (#[.int .i64 0, .int .i64 1, .int .i64 2, .int .i64 (min (h + 1) (capOn u))]) ty_sl_35 ty_ze_27 (by decide) (by decide) rfl (by intro x hx_; simp only [List.mem_cons, List.not_mem_nil, or_false] at hx_; rcases hx_ with rfl | rfl <;> rfl) rfl rfl rfl ?_
          intro w28 b29 hx30 hn31 hb32
          have hd33 : b2 ≠ b29 := by have := hb5.lt; omega
          have hd34 : b7 ≠ b29 := by have := hb10.lt; omega
          have hd35 : b19 ≠ b29 := by have := hb22.lt; omega
          replace hn31 := Nat.le_trans hx.size hn31
          replace hb5 := hb5.ext hx30
          replace hb10 := hb10.ext hx30
          replace hb22 := hb22.ext hx30
          replace hx := hx.trans hx30
          refine go_y (v := .slice (some ⟨b29, 0, none⟩) 2 2) (y_assign) rfl ?_
          refine go_ops_nil ?_
          refine go_ret ?_
          exact ⟨by rw [show nextF u k h = [(0, 1), (2, min (h + 1) (capOn u))] from by unfold nextF; (repeat' split) <;> first | rfl | (exfalso; omega)]; exact slr_lit (f := stc) [(0, 1), (2, min (h + 1) (capOn u))] hb32 rfl (fun _ => rfl) (by show _ ≤ _; exact Nat.le_of_ble_eq_true rfl), hx⟩
        · refine go_ops_nil ?_
          refine go_cond_false rfl ?_
          refine go_skip ?_
          refine go_seq ?_
          refine go_region ?_
          refine go_y (v := .agg #[.int .i64 2, .int .i64 (min (h + 1) (capOn u))]) (y_load_blk rfl hb22 ty_ag_27 rfl) rfl ?_
          refine go_lit [.agg #[.int .i64 2, .int .i64 (min (h + 1) (capOn u))]] (#[.int .i64 2, .int .i64 (min (h + 1) (capOn u))]) ty_sl_35 ty_ze_27 (by decide) (by decide) rfl (by intro x hx_; simp only [List.mem_cons, List.not_mem_nil, or_false] at hx_; subst hx_; rfl) rfl rfl rfl ?_
          intro w28 b29 hx30 hn31 hb32
          have hd33 : b2 ≠ b29 := by have := hb5.lt; omega
          have hd34 : b7 ≠ b29 := by have := hb10.lt; omega
          have hd35 : b19 ≠ b29 := by have := hb22.lt; omega
          replace hn31 := Nat.le_trans hx.size hn31
          replace hb5 := hb5.ext hx30
          replace hb10 := hb10.ext hx30
          replace hb22 := hb22.ext hx30
          replace hx := hx.trans hx30
          refine go_y (v := .slice (some ⟨b29, 0, none⟩) 1 1) (y_assign) rfl ?_
          refine go_ops_nil ?_
          refine go_ret ?_
          exact ⟨by rw [show nextF u k h = [(2, min (h + 1) (capOn u))] from by unfold nextF; (repeat' split) <;> first | rfl | (exfalso; omega)]; exact slr_lit (f := stc) [(2, min (h + 1) (capOn u))] hb32 rfl (fun _ => rfl) (by show _ ≤ _; exact Nat.le_of_ble_eq_true rfl), hx⟩

set_option maxHeartbeats 4000000 in
set_option maxRecDepth 100000 in
theorem follows_ret (u : U) (k h a b : Int) (w : World) : Ret Try.prog 34 [.agg u.cells, .agg #[.int .i64 k, .int .i64 h], .agg #[.int .i64 a, .int .i64 b]] w (fun v w' => v = .bool (follF u k h (a, b)) ∧ Ext w w') := by
  refine calls_of_go Try.func34 rfl (by show _ ≤ _; exact Nat.le_of_ble_eq_true rfl) (by kernel_rfl) _ (res1 rfl) ?_
  have hx : Ext w w := Ext.refl w
  refine go_seq ?_
  refine go_region ?_
  refine go_box (.agg u.cells) u.cells rfl rfl rfl ?_
  intro w1 b2 hx3 hn4 hb5
  replace hn4 := Nat.le_trans hx.size hn4
  replace hx := hx.trans hx3
  refine go_box (.agg #[.int .i64 k, .int .i64 h]) (#[.int .i64 k, .int .i64 h]) rfl rfl rfl ?_
  intro w6 b7 hx8 hn9 hb10
  have hd11 : b2 ≠ b7 := by have := hb5.lt; omega
  replace hn9 := Nat.le_trans hx.size hn9
  replace hb5 := hb5.ext hx8
  replace hx := hx.trans hx8
  refine go_box (.agg #[.int .i64 a, .int .i64 b]) (#[.int .i64 a, .int .i64 b]) rfl rfl rfl ?_
  intro w12 b13 hx14 hn15 hb16
  have hd17 : b2 ≠ b13 := by have := hb5.lt; omega
  have hd18 : b7 ≠ b13 := by have := hb10.lt; omega
  replace hn15 := Nat.le_trans hx.size hn15
  replace hb5 := hb5.ext hx14
  replace hb10 := hb10.ext hx14
  replace hx := hx.trans hx14
  refine go_y (v := .bool false) (y_assign) rfl ?_
  refine go_ops_nil ?_
  refine go_seq ?_
  refine go_region ?_
  refine go_y (v := .agg u.cells) (y_load_blk rfl hb5 ty_ag_25 rfl) rfl ?_
  refine go_y (v := .agg #[.int .i64 k, .int .i64 h]) (y_load_blk rfl hb10 ty_ag_27 rfl) rfl ?_
  refine go_c (enters_func ty_en_22 rfl) (rnext_ret u k h _) rfl ?_
  rintro v19 w21 ⟨hs20, hx22⟩
  replace hb5 := hb5.ext hx22
  replace hb10 := hb10.ext hx22
  replace hb16 := hb16.ext hx22
  replace hx := hx.trans hx22
  have hnlv19 := nextF_len u k h
  refine go_y (v := v19) (y_assign) rfl ?_
  refine go_ops_nil ?_
  refine go_seq ?_
  refine go_seq ?_
  refine go_region ?_
  refine go_y (v := .int .i64 0) (y_assign) rfl ?_
  refine go_ops_nil ?_
  refine go_block ?_
  refine go_loop (G := Nat) [6, 8, 12, 13, 14, 15, 16, 17, 18, 19, 20, 21, 22, 23] (fun g => [(8, .int .i64 (g : Int))]) (fun g w' => Ext w w' ∧ Blk w' b2 u.cells 25 ∧ Blk w' b7 (#[.int .i64 k, .int .i64 h]) 27 ∧ Blk w' b13 (#[.int .i64 a, .int .i64 b]) 27 ∧ SlR w' 2 stc v19 (nextF u k h) ∧ g ≤ (nextF u k h).length ∧ (∀ j x, j < g → (nextF u k h)[j]? = some x → (decide (x.1 = (a, b).1 ∧ x.2 = (a, b).2)) = false)) (fun g => (nextF u k h).length - g) 0 ⟨rfl, trivial⟩ ⟨hx, hb5, hb10, hb16, hs20, (by omega), (by intro j x hj; omega)⟩ ?_
  clear hx hb5 hb10 hb16 hs20
  intro g X24 w23 ⟨hx, hb5, hb10, hb16, hs20, hg, hbef⟩
  refine go_seq ?_
  refine go_seq ?_
  refine go_region ?_
  refine go_y (v := .int .i64 (g : Int)) (y_move) rfl ?_
  refine go_y (v := v19) (y_move) rfl ?_
  refine go_y (v := .int .i64 ((nextF u k h).length : Int)) (y_len_sl hs20 rfl ty_sl_35 _) rfl ?_
  refine go_test (c := ((g : Int) : Int) < ((nextF u k h).length : Int)) (y_lt rfl rfl) rfl (fun hc25 => ?_) (fun hc25 => ?_)
  · refine go_ops_nil ?_
    refine go_cond_true rfl ?_
    refine go_skip ?_
    refine go_seq ?_
    refine go_block ?_
    refine go_seq ?_
    refine go_drawn mixed [3, 4] [] (.p 0 (.p 1 (.p 2 (.q 3 (.q 4 (.p 5 .done)))))) (by kernel_rfl) ?_
    intro w26 hx27
    replace hb5 := hb5.ext hx27
    replace hb10 := hb10.ext hx27
    replace hb16 := hb16.ext hx27
    replace hs20 := hs20.ext hx27
    replace hx := hx.trans hx27
    refine go_dp (v := v19) rfl (fun w' => y_move) rfl ?_
    refine go_dp (v := .int .i64 (g : Int)) rfl (fun w' => y_move) rfl ?_
    obtain ⟨a28, ha29⟩ := el_some (l := nextF u k h) (i := g) (by omega)
    obtain ⟨bb30, oo31, cc32, hv33, hc34⟩ := hs20.at_ ha29
    refine go_dp (v := .pointer (some ⟨bb30, oo31 + g * 2, none⟩)) rfl (fun w' => y_idxn g rfl hv33 rfl (by omega) ty_sl_35 (el_lt ha29)) rfl ?_
    refine go_dq (v := .agg #[.int .i64 a28.1, .int .i64 a28.2]) rfl (fun w' hw' => y_load_el rfl (hc34.ext hw') ty_ag_27 rfl) rfl ?_
    refine go_dq (v := .agg #[.int .i64 a, .int .i64 b]) rfl (fun w' hw' => y_load_blk rfl (hb16.ext hw') ty_ag_27 rfl) rfl ?_
    refine go_dptest (c := (a28.1 = a ∧ a28.2 = b)) rfl (fun w' => y_eq2 rfl rfl ty_e2_27) rfl (fun hc35 => ?_) (fun hc35 => ?_)
    · refine go_dops_done ?_
      refine go_cond_true rfl ?_
      refine go_seq ?_
      refine go_region ?_
      refine go_y (v := .bool true) (y_assign) rfl ?_
      refine go_ops_nil ?_
      refine go_ret ?_
      exact ⟨congrArg Value.bool (any_hit (p := fun s : St => decide (s.1 = (a, b).1 ∧ s.2 = (a, b).2)) ha29 (by simpa using hc35)).symm, hx⟩
    · refine go_dops_done ?_
      refine go_cond_false rfl ?_
      refine go_skip ?_
      refine go_blk ?_
      refine go_region ?_
      refine go_y (v := .int .i64 (g : Int)) (y_move) rfl ?_
      refine go_y (v := .int .i64 ((g : Int) + 1)) (y_add rfl rfl (by unfold in64; omega)) rfl ?_
      refine go_y (v := .int .i64 ((g : Int) + 1)) (y_assign) rfl ?_
      refine go_ops_nil ?_
      refine go_upto ⟨g + 1, ?_, ⟨ie (by omega), trivial⟩, ⟨hx, hb5, hb10, hb16, hs20, (by have := el_lt ha29; omega), (bef_step (p := fun x => decide (x.1 = (a, b).1 ∧ x.2 = (a, b).2)) hbef ha29 (by simpa using hc35))⟩, (by have := el_lt ha29; omega)⟩
      repeat (refine Agree.upd rfl ?_)
      exact Agree.updL rfl (Agree.havoc rfl (Agree.refl _ _))
  · refine go_ops_nil ?_
    refine go_cond_false rfl ?_
    refine go_exit rfl ?_
    refine go_seq ?_
    refine go_region ?_
    refine go_y (v := .bool false) (y_assign) rfl ?_
    refine go_ops_nil ?_
    refine go_ret ?_
    exact ⟨congrArg Value.bool (any_miss (p := fun s : St => decide (s.1 = (a, b).1 ∧ s.2 = (a, b).2)) hbef (by omega)).symm, hx⟩

set_option maxHeartbeats 4000000 in
set_option maxRecDepth 100000 in
theorem rcost_ret (u : U) (k h a b : Int) (w : World) : Ret Try.prog 24 [.agg u.cells, .agg #[.int .i64 k, .int .i64 h], .agg #[.int .i64 a, .int .i64 b]] w (fun v w' => v = .int .i64 (costF u k h (a, b)) ∧ Ext w w') := by
  refine calls_of_go Try.func24 rfl (by show _ ≤ _; exact Nat.le_of_ble_eq_true rfl) (by kernel_rfl) _ (res1 rfl) ?_
  have hx : Ext w w := Ext.refl w
  refine go_seq ?_
  refine go_region ?_
  refine go_box (.agg u.cells) u.cells rfl rfl rfl ?_
  intro w1 b2 hx3 hn4 hb5
  replace hn4 := Nat.le_trans hx.size hn4
  replace hx := hx.trans hx3
  refine go_box (.agg #[.int .i64 k, .int .i64 h]) (#[.int .i64 k, .int .i64 h]) rfl rfl rfl ?_
  intro w6 b7 hx8 hn9 hb10
  have hd11 : b2 ≠ b7 := by have := hb5.lt; omega
  replace hn9 := Nat.le_trans hx.size hn9
  replace hb5 := hb5.ext hx8
  replace hx := hx.trans hx8
  refine go_box (.agg #[.int .i64 a, .int .i64 b]) (#[.int .i64 a, .int .i64 b]) rfl rfl rfl ?_
  intro w12 b13 hx14 hn15 hb16
  have hd17 : b2 ≠ b13 := by have := hb5.lt; omega
  have hd18 : b7 ≠ b13 := by have := hb10.lt; omega
  replace hn15 := Nat.le_trans hx.size hn15
  replace hb5 := hb5.ext hx14
  replace hb10 := hb10.ext hx14
  replace hx := hx.trans hx14
  refine go_y (v := .int .i64 0) (y_assign) rfl ?_
  refine go_ops_nil ?_
  refine go_seq ?_
  refine go_seq ?_
  refine go_region ?_
  refine go_y (v := .agg u.cells) (y_load_blk rfl hb5 ty_ag_25 rfl) rfl ?_
  refine go_y (v := .agg #[.int .i64 k, .int .i64 h]) (y_load_blk rfl hb10 ty_ag_27 rfl) rfl ?_
  refine go_y (v := .agg #[.int .i64 a, .int .i64 b]) (y_load_blk rfl hb16 ty_ag_27 rfl) rfl ?_
  refine go_c (enters_func ty_en_34 rfl) (follows_ret u k h a b _) rfl ?_
  rintro _ w19 ⟨rfl, hx20⟩
  replace hb5 := hb5.ext hx20
  replace hb10 := hb10.ext hx20
  replace hb16 := hb16.ext hx20
  replace hx := hx.trans hx20
  cases hfol : follF u k h (a, b)
  · refine go_y (v := .bool true) (y_not_f rfl) rfl ?_
    refine go_y (v := .bool true) (y_move) rfl ?_
    refine go_off (off_of (t := 12) (b' := true) rfl rfl rfl) ?_
    refine go_off (off_of (t := 12) (b' := true) rfl rfl rfl) ?_
    refine go_off (off_of (t := 12) (b' := true) rfl rfl rfl) ?_
    refine go_y (v := .bool true) (y_pick_t rfl) rfl ?_
    refine go_y (v := .bool true) (y_move) rfl ?_
    refine go_off (off_of (t := 17) (b' := true) rfl rfl rfl) ?_
    refine go_off (off_of (t := 17) (b' := true) rfl rfl rfl) ?_
    refine go_off (off_of (t := 17) (b' := true) rfl rfl rfl) ?_
    refine go_y (v := .bool true) (y_pick_t rfl) rfl ?_
    refine go_ops_nil ?_
    refine go_cond_true rfl ?_
    refine go_seq ?_
    refine go_region ?_
    refine go_y (v := .int .i64 0) (y_assign) rfl ?_
    refine go_ops_nil ?_
    refine go_ret ?_
    exact ⟨ie (Eq.symm (by first | exact cost_k (by omega) | exact cost_t (show a = 0 by omega) | exact cost_f hfol | exact cost_hot (by omega) (show a ≠ 0 by omega) hfol (by omega) | exact cost_cold (by omega) (show a ≠ 0 by omega) hfol (by omega))), hx⟩
  · refine go_y (v := .bool false) (y_not_t rfl) rfl ?_
    refine go_y (v := .bool false) (y_move) rfl ?_
    refine go_y (v := .pointer (some ⟨b7, 0, none⟩)) (y_fieldAddr rfl ty_fl_27_0) (on_of (t := 12) rfl rfl) ?_
    refine go_y (v := .int .i64 k) (y_load_fld rfl hb10 ty_sc_3 rfl) (on_of (t := 12) rfl rfl) ?_
    refine go_test (c := (k : Int) ≠ 0) (y_ne rfl rfl) (on_of (t := 12) rfl rfl) (fun hc21 => ?_) (fun hc21 => ?_)
    · refine go_y (v := .bool true) (y_pick_f rfl) rfl ?_
      refine go_y (v := .bool true) (y_move) rfl ?_
      refine go_off (off_of (t := 17) (b' := true) rfl rfl rfl) ?_
      refine go_off (off_of (t := 17) (b' := true) rfl rfl rfl) ?_
      refine go_off (off_of (t := 17) (b' := true) rfl rfl rfl) ?_
      refine go_y (v := .bool true) (y_pick_t rfl) rfl ?_
      refine go_ops_nil ?_
      refine go_cond_true rfl ?_
      refine go_seq ?_
      refine go_region ?_
      refine go_y (v := .int .i64 0) (y_assign) rfl ?_
      refine go_ops_nil ?_
      refine go_ret ?_
      exact ⟨ie (Eq.symm (by first | exact cost_k (by omega) | exact cost_t (show a = 0 by omega) | exact cost_f hfol | exact cost_hot (by omega) (show a ≠ 0 by omega) hfol (by omega) | exact cost_cold (by omega) (show a ≠ 0 by omega) hfol (by omega))), hx⟩
    · refine go_y (v := .bool false) (y_pick_f rfl) rfl ?_
      refine go_y (v := .bool false) (y_move) rfl ?_
      refine go_y (v := .pointer (some ⟨b13, 0, none⟩)) (y_fieldAddr rfl ty_fl_27_0) (on_of (t := 17) rfl rfl) ?_
      refine go_y (v := .int .i64 a) (y_load_fld rfl hb16 ty_sc_3 rfl) (on_of (t := 17) rfl rfl) ?_
      refine go_test (c := (a : Int) = 0) (y_eq rfl rfl) (on_of (t := 17) rfl rfl) (fun hc22 => ?_) (fun hc22 => ?_)
      · refine go_y (v := .bool true) (y_pick_f rfl) rfl ?_
        refine go_ops_nil ?_
        refine go_cond_true rfl ?_
        refine go_seq ?_
        refine go_region ?_
        refine go_y (v := .int .i64 0) (y_assign) rfl ?_
        refine go_ops_nil ?_
        refine go_ret ?_
        exact ⟨ie (Eq.symm (by first | exact cost_k (by omega) | exact cost_t (show a = 0 by omega) | exact cost_f hfol | exact cost_hot (by omega) (show a ≠ 0 by omega) hfol (by omega) | exact cost_cold (by omega) (show a ≠ 0 by omega) hfol (by omega))), hx⟩
      · refine go_y (v := .bool false) (y_pick_f rfl) rfl ?_
        refine go_ops_nil ?_
        refine go_cond_false rfl ?_
        refine go_skip ?_
        refine go_seq ?_
        refine go_seq ?_
        refine go_region ?_
        refine go_y (v := .pointer (some ⟨b7, 1, none⟩)) (y_fieldAddr rfl ty_fl_27_1) rfl ?_
        refine go_y (v := .int .i64 h) (y_load_fld rfl hb10 ty_sc_3 rfl) rfl ?_
        refine go_y (v := .pointer (some ⟨b2, 15, none⟩)) (y_fieldAddr rfl ty_fl_25_15) rfl ?_
        refine go_y (v := .int .i64 u.hh) (y_load_fld rfl hb5 ty_sc_3 rfl) rfl ?_
        refine go_test (c := (h : Int) ≤ u.hh) (y_le rfl rfl) rfl (fun hc23 => ?_) (fun hc23 => ?_)
        · refine go_ops_nil ?_
          refine go_cond_true rfl ?_
          refine go_seq ?_
          refine go_region ?_
          refine go_y (v := .pointer (some ⟨b2, 13, none⟩)) (y_fieldAddr rfl ty_fl_25_13) rfl ?_
          refine go_y (v := .int .i64 u.hc) (y_load_fld rfl hb5 ty_sc_3 rfl) rfl ?_
          refine go_y (v := .int .i64 u.hc) (y_assign) rfl ?_
          refine go_ops_nil ?_
          refine go_ret ?_
          exact ⟨ie (Eq.symm (by first | exact cost_k (by omega) | exact cost_t (show a = 0 by omega) | exact cost_f hfol | exact cost_hot (by omega) (show a ≠ 0 by omega) hfol (by omega) | exact cost_cold (by omega) (show a ≠ 0 by omega) hfol (by omega))), hx⟩
        · refine go_ops_nil ?_
          refine go_cond_false rfl ?_
          refine go_skip ?_
          refine go_seq ?_
          refine go_region ?_
          refine go_y (v := .pointer (some ⟨b2, 14, none⟩)) (y_fieldAddr rfl ty_fl_25_14) rfl ?_
          refine go_y (v := .int .i64 u.cc) (y_load_fld rfl hb5 ty_sc_3 rfl) rfl ?_
          refine go_y (v := .int .i64 u.cc) (y_assign) rfl ?_
          refine go_ops_nil ?_
          refine go_ret ?_
          exact ⟨ie (Eq.symm (by first | exact cost_k (by omega) | exact cost_t (show a = 0 by omega) | exact cost_f hfol | exact cost_hot (by omega) (show a ≠ 0 by omega) hfol (by omega) | exact cost_cold (by omega) (show a ≠ 0 by omega) hfol (by omega))), hx⟩

set_option maxHeartbeats 4000000 in
set_option maxRecDepth 100000 in
theorem cost_ret (u : U) (k h a b : Int) (hk1 : -9223372036854775808 ≤ h) (hk2 : h ≤ 9223372036854775807) (w : World) : Ret Try.prog 23 [.agg u.cells, .agg #[.int .i64 k, .int .i64 h], .agg #[.int .i64 a, .int .i64 b]] w (fun v w' => v = .int .i64 (costF u k h (a, b)) ∧ Ext w w') := by
  refine calls_of_go Try.func23 rfl (by show _ ≤ _; exact Nat.le_of_ble_eq_true rfl) (by kernel_rfl) _ (res1 rfl) ?_
  have hx : Ext w w := Ext.refl w
  refine go_seq ?_
  refine go_region ?_
  refine go_box (.agg u.cells) u.cells rfl rfl rfl ?_
  intro w1 b2 hx3 hn4 hb5
  replace hn4 := Nat.le_trans hx.size hn4
  replace hx := hx.trans hx3
  refine go_box (.agg #[.int .i64 k, .int .i64 h]) (#[.int .i64 k, .int .i64 h]) rfl rfl rfl ?_
  intro w6 b7 hx8 hn9 hb10
  have hd11 : b2 ≠ b7 := by have := hb5.lt; omega
  replace hn9 := Nat.le_trans hx.size hn9
  replace hb5 := hb5.ext hx8
  replace hx := hx.trans hx8
  refine go_box (.agg #[.int .i64 a, .int .i64 b]) (#[.int .i64 a, .int .i64 b]) rfl rfl rfl ?_
  intro w12 b13 hx14 hn15 hb16
  have hd17 : b2 ≠ b13 := by have := hb5.lt; omega
  have hd18 : b7 ≠ b13 := by have := hb10.lt; omega
  replace hn15 := Nat.le_trans hx.size hn15
  replace hb5 := hb5.ext hx14
  replace hb10 := hb10.ext hx14
  replace hx := hx.trans hx14
  refine go_y (v := .int .i64 0) (y_assign) rfl ?_
  refine go_ops_nil ?_
  refine go_seq ?_
  refine go_region ?_
  refine go_y (v := .func (.func 32) #[] #[.pointer (some ⟨b13, 0, none⟩)]) (y_mkf rfl) rfl ?_
  refine go_y (v := .func (.func 32) #[] #[.pointer (some ⟨b13, 0, none⟩)]) (y_assign) rfl ?_
  refine go_ops_nil ?_
  refine go_seq ?_
  refine go_seq ?_
  refine go_region ?_
  refine go_y (v := .pointer (some ⟨b7, 0, none⟩)) (y_fieldAddr rfl ty_fl_27_0) rfl ?_
  refine go_y (v := .int .i64 k) (y_load_fld rfl hb10 ty_sc_3 rfl) rfl ?_
  refine go_test (c := (k : Int) ≠ 0) (y_ne rfl rfl) rfl (fun hc19 => ?_) (fun hc19 => ?_)
  · refine go_y (v := .bool true) (y_move) rfl ?_
    refine go_off (off_of (t := 12) (b' := true) rfl rfl rfl) ?_
    refine go_off (off_of (t := 12) (b' := true) rfl rfl rfl) ?_
    refine go_off (off_of (t := 12) (b' := true) rfl rfl rfl) ?_
    refine go_y (v := .bool true) (y_pick_t rfl) rfl ?_
    refine go_y (v := .bool true) (y_move) rfl ?_
    refine go_off (off_of (t := 17) (b' := true) rfl rfl rfl) ?_
    refine go_off (off_of (t := 17) (b' := true) rfl rfl rfl) ?_
    refine go_off (off_of (t := 17) (b' := true) rfl rfl rfl) ?_
    refine go_off (off_of (t := 17) (b' := true) rfl rfl rfl) ?_
    refine go_off (off_of (t := 17) (b' := true) rfl rfl rfl) ?_
    refine go_off (off_of (t := 17) (b' := true) rfl rfl rfl) ?_
    refine go_y (v := .bool true) (y_pick_t rfl) rfl ?_
    refine go_ops_nil ?_
    refine go_cond_true rfl ?_
    refine go_seq ?_
    refine go_region ?_
    refine go_y (v := .int .i64 0) (y_assign) rfl ?_
    refine go_ops_nil ?_
    refine go_ret ?_
    exact ⟨ie (Eq.symm (by first | exact cost_k (by omega) | exact cost_t (show a = 0 by omega) | exact cost_f hfol | exact cost_hot (by omega) (show a ≠ 0 by omega) hfol (by omega) | exact cost_cold (by omega) (show a ≠ 0 by omega) hfol (by omega))), hx⟩
  · refine go_y (v := .bool false) (y_move) rfl ?_
    refine go_y (v := .pointer (some ⟨b13, 0, none⟩)) (y_fieldAddr rfl ty_fl_27_0) (on_of (t := 12) rfl rfl) ?_
    refine go_y (v := .int .i64 a) (y_load_fld rfl hb16 ty_sc_3 rfl) (on_of (t := 12) rfl rfl) ?_
    refine go_test (c := (a : Int) = 0) (y_eq rfl rfl) (on_of (t := 12) rfl rfl) (fun hc20 => ?_) (fun hc20 => ?_)
    · refine go_y (v := .bool true) (y_pick_f rfl) rfl ?_
      refine go_y (v := .bool true) (y_move) rfl ?_
      refine go_off (off_of (t := 17) (b' := true) rfl rfl rfl) ?_
      refine go_off (off_of (t := 17) (b' := true) rfl rfl rfl) ?_
      refine go_off (off_of (t := 17) (b' := true) rfl rfl rfl) ?_
      refine go_off (off_of (t := 17) (b' := true) rfl rfl rfl) ?_
      refine go_off (off_of (t := 17) (b' := true) rfl rfl rfl) ?_
      refine go_off (off_of (t := 17) (b' := true) rfl rfl rfl) ?_
      refine go_y (v := .bool true) (y_pick_t rfl) rfl ?_
      refine go_ops_nil ?_
      refine go_cond_true rfl ?_
      refine go_seq ?_
      refine go_region ?_
      refine go_y (v := .int .i64 0) (y_assign) rfl ?_
      refine go_ops_nil ?_
      refine go_ret ?_
      exact ⟨ie (Eq.symm (by first | exact cost_k (by omega) | exact cost_t (show a = 0 by omega) | exact cost_f hfol | exact cost_hot (by omega) (show a ≠ 0 by omega) hfol (by omega) | exact cost_cold (by omega) (show a ≠ 0 by omega) hfol (by omega))), hx⟩
    · refine go_y (v := .bool false) (y_pick_f rfl) rfl ?_
      refine go_y (v := .bool false) (y_move) rfl ?_
      refine go_y (v := .agg u.cells) (y_load_blk rfl hb5 ty_ag_25 rfl) (on_of (t := 17) rfl rfl) ?_
      refine go_y (v := .agg #[.int .i64 k, .int .i64 h]) (y_load_blk rfl hb10 ty_ag_27 rfl) (on_of (t := 17) rfl rfl) ?_
      refine go_c (enters_func ty_en_21 rfl) (next_ret u k h (by omega) (by omega) _) (on_of (t := 17) rfl rfl) ?_
      rintro v21 w23 ⟨hs22, hx24⟩
      replace hb5 := hb5.ext hx24
      replace hb10 := hb10.ext hx24
      replace hb16 := hb16.ext hx24
      replace hx := hx.trans hx24
      have hnlv21 := nextF_len u k h
      refine go_y (v := .func (.func 32) #[] #[.pointer (some ⟨b13, 0, none⟩)]) (y_move) (on_of (t := 17) rfl rfl) ?_
      refine go_c (enters_func ty_en_33 rfl) (containsFunc_ret v21 (nextF u k h) 32 [.pointer (some ⟨b13, 0, none⟩)] (fun s : St => decide (s.1 = a ∧ s.2 = b)) _ hs22 (by have := nextF_len u k h; omega) ty_en_32 (fun s w1 h1 => sc1_ret s a b b13 w1 (hb16.ext h1))) (on_of (t := 17) rfl rfl) ?_
      rintro _ w25 ⟨rfl, hx26⟩
      replace hb5 := hb5.ext hx26
      replace hb10 := hb10.ext hx26
      replace hb16 := hb16.ext hx26
      replace hs22 := hs22.ext hx26
      replace hx := hx.trans hx26
      cases hfol : (nextF u k h).any (fun s : St => decide (s.1 = a ∧ s.2 = b))
      · refine go_y (v := .bool true) (y_not_f rfl) (on_of (t := 17) rfl rfl) ?_
        refine go_y (v := .bool true) (y_pick_f rfl) rfl ?_
        refine go_ops_nil ?_
        refine go_cond_true rfl ?_
        refine go_seq ?_
        refine go_region ?_
        refine go_y (v := .int .i64 0) (y_assign) rfl ?_
        refine go_ops_nil ?_
        refine go_ret ?_
        exact ⟨ie (Eq.symm (by first | exact cost_k (by omega) | exact cost_t (show a = 0 by omega) | exact cost_f hfol | exact cost_hot (by omega) (show a ≠ 0 by omega) hfol (by omega) | exact cost_cold (by omega) (show a ≠ 0 by omega) hfol (by omega))), hx⟩
      · refine go_y (v := .bool false) (y_not_t rfl) (on_of (t := 17) rfl rfl) ?_
        refine go_y (v := .bool false) (y_pick_f rfl) rfl ?_
        refine go_ops_nil ?_
        refine go_cond_false rfl ?_
        refine go_skip ?_
        refine go_seq ?_
        refine go_seq ?_
        refine go_region ?_
        refine go_y (v := .pointer (some ⟨b7, 1, none⟩)) (y_fieldAddr rfl ty_fl_27_1) rfl ?_
        refine go_y (v := .int .i64 h) (y_load_fld rfl hb10 ty_sc_3 rfl) rfl ?_
        refine go_y (v := .pointer (some ⟨b2, 15, none⟩)) (y_fieldAddr rfl ty_fl_25_15) rfl ?_
        refine go_y (v := .int .i64 u.hh) (y_load_fld rfl hb5 ty_sc_3 rfl) rfl ?_
        refine go_test (c := (h : Int) ≤ u.hh) (y_le rfl rfl) rfl (fun hc27 => ?_) (fun hc27 => ?_)
        · refine go_ops_nil ?_
          refine go_cond_true rfl ?_
          refine go_seq ?_
          refine go_region ?_
          refine go_y (v := .pointer (some ⟨b2, 13, none⟩)) (y_fieldAddr rfl ty_fl_25_13) rfl ?_
          refine go_y (v := .int .i64 u.hc) (y_load_fld rfl hb5 ty_sc_3 rfl) rfl ?_
          refine go_y (v := .int .i64 u.hc) (y_assign) rfl ?_
          refine go_ops_nil ?_
          refine go_ret ?_
          exact ⟨ie (Eq.symm (by first | exact cost_k (by omega) | exact cost_t (show a = 0 by omega) | exact cost_f hfol | exact cost_hot (by omega) (show a ≠ 0 by omega) hfol (by omega) | exact cost_cold (by omega) (show a ≠ 0 by omega) hfol (by omega))), hx⟩
        · refine go_ops_nil ?_
          refine go_cond_false rfl ?_
          refine go_skip ?_
          refine go_seq ?_
          refine go_region ?_
          refine go_y (v := .pointer (some ⟨b2, 14, none⟩)) (y_fieldAddr rfl ty_fl_25_14) rfl ?_
          refine go_y (v := .int .i64 u.cc) (y_load_fld rfl hb5 ty_sc_3 rfl) rfl ?_
          refine go_y (v := .int .i64 u.cc) (y_assign) rfl ?_
          refine go_ops_nil ?_
          refine go_ret ?_
          exact ⟨ie (Eq.symm (by first | exact cost_k (by omega) | exact cost_t (show a = 0 by omega) | exact cost_f hfol | exact cost_hot (by omega) (show a ≠ 0 by omega) hfol (by omega) | exact cost_cold (by omega) (show a ≠ 0 by omega) hfol (by omega))), hx⟩

set_option maxHeartbeats 4000000 in
set_option maxRecDepth 100000 in
theorem away_ret (u : U) (aw : List Int) (w : World) (hl : SlR w 1 ic u.away aw) (hlen : aw.length ≤ 9223372036854775806) : Ret Try.prog 36 [.agg u.cells] w (fun v w' => (∃ b, v = .map (some b) ∧ SetAt iv w' b (keysOf aw)) ∧ Ext w w') := by
  refine calls_of_go Try.func36 rfl (by show _ ≤ _; exact Nat.le_of_ble_eq_true rfl) (by kernel_rfl) _ (res1 rfl) ?_
  have hx : Ext w w := Ext.refl w
  refine go_seq ?_
  refine go_region ?_
  refine go_box (.agg u.cells) u.cells rfl rfl rfl ?_
  intro w1 b2 hx3 hn4 hb5
  replace hn4 := Nat.le_trans hx.size hn4
  replace hx := hx.trans hx3
  refine go_y (v := .map none) (y_assign) rfl ?_
  refine go_ops_nil ?_
  refine go_seq ?_
  refine go_region ?_
  refine go_makeMap iv rfl ?_
  intro w6 b7 hx8 hn9 hm10
  have hd11 : b2 ≠ b7 := by have := hb5.lt; omega
  replace hn9 := Nat.le_trans hx.size hn9
  replace hb5 := hb5.ext hx8
  replace hx := hx.trans hx8
  refine go_y (v := .map (some b7)) (y_assign) rfl ?_
  refine go_ops_nil ?_
  refine go_seq ?_
  refine go_seq ?_
  refine go_region ?_
  refine go_y (v := .pointer (some ⟨b2, 18, none⟩)) (y_fieldAddr rfl ty_fl_25_18) rfl ?_
  refine go_y (v := u.away) (y_load_fld rfl hb5 ty_sc_23 rfl) rfl ?_
  refine go_y (v := .int .i64 (aw.length : Int)) (y_len_sl hl rfl ty_sl_23 _) rfl ?_
  refine go_y (v := .int .i64 0) (y_move) rfl ?_
  refine go_ops_nil ?_
  refine go_block ?_
  refine go_loop (G := Nat) [5, 10, 11, 12, 13, 14, 15, 16] (fun g => [(10, .int .i64 (g : Int))]) (fun g w' => Ext w w' ∧ Blk w' b2 u.cells 25 ∧ SetAt iv w' b7 (keysOf (aw.take g)) ∧ g ≤ aw.length) (fun g => aw.length - g) 0 ⟨rfl, trivial⟩ ⟨hx, hb5, hm10, (by omega)⟩ ?_
  clear hx hb5 hm10
  intro g X13 w12 ⟨hx, hb5, hm10, hg⟩
  refine go_seq ?_
  refine go_region ?_
  refine go_test (c := ((g : Int) : Int) < (aw.length : Int)) (y_lt rfl rfl) rfl (fun hc14 => ?_) (fun hc14 => ?_)
  · refine go_ops_nil ?_
    refine go_seq ?_
    refine go_cond_true rfl ?_
    refine go_skip ?_
    refine go_seq ?_
    refine go_block ?_
    refine go_seq ?_
    refine go_region ?_
    obtain ⟨a15, ha16⟩ := el_some (l := aw) (i := g) (by omega)
    obtain ⟨bb17, oo18, cc19, hv20, hc21⟩ := (hl.ext hx).at_ ha16
    refine go_y (v := .pointer (some ⟨bb17, oo18 + g * 1, none⟩)) (y_idxn g rfl hv20 rfl (by omega) ty_sl_23 (el_lt ha16)) rfl ?_
    refine go_y (v := .int .i64 a15) (y_load_el0 rfl hc21 ty_sc_3) rfl ?_
    refine go_y (v := .int .i64 a15) (y_assign) rfl ?_
    refine go_ops_nil ?_
    refine go_region ?_
    refine go_y (v := .map (some b7)) (y_move) rfl ?_
    refine go_y (v := .int .i64 a15) (y_move) rfl ?_
    refine go_mapset (kk := a15) rfl rfl rfl hm10 ty_ki_3 ty_mp_59 rfl ?_
    intro w22 hch23 hm10'
    replace hb5 := hb5.chg hch23 (hd11)
    replace hx := hx.chg hch23 hn9
    replace hm10 := hm10'
    refine go_ops_nil ?_
    refine go_blk ?_
    refine go_region ?_
    refine go_y (v := .int .i64 ((g : Int) + 1)) (y_add rfl rfl (by unfold in64; omega)) rfl ?_
    refine go_y (v := .int .i64 ((g : Int) + 1)) (y_move) rfl ?_
    refine go_ops_nil ?_
    refine go_upto ⟨g + 1, ?_, ⟨ie (by omega), trivial⟩, ⟨hx, hb5, (by rw [keysOf_step ha16]; exact hm10), (by omega)⟩, (by omega)⟩
    repeat (refine Agree.upd rfl ?_)
    exact Agree.updL rfl (Agree.havoc rfl (Agree.refl _ _))
  · refine go_ops_nil ?_
    refine go_seq ?_
    refine go_cond_false rfl ?_
    refine go_exit rfl ?_
    refine go_seq ?_
    refine go_region ?_
    refine go_y (v := .map (some b7)) (y_move) rfl ?_
    refine go_y (v := .map (some b7)) (y_assign) rfl ?_
    refine go_ops_nil ?_
    refine go_ret ?_
    exact ⟨⟨_, rfl, by have e : aw.take g = aw := List.take_of_length_le (by omega); rw [e] at hm10; exact hm10⟩, hx⟩
end Go.Proofs.Ytedfiemhfpcggaa
