/- The walks of the automaton, part 2. -/
import Derived.Test.YtedfiemhfpcggaaW1
import Derived.Test.YtedfiemhfpcggaaData3
namespace Go.Proofs.Ytedfiemhfpcggaa
open Go.Gw Go.RowKit
set_option maxHeartbeats 4000000 in
set_option maxRecDepth 100000 in
theorem states_ret (u : U) (w : World) : Ret Try.prog 17 [.agg u.cells] w (fun v w' => SlR w' 2 stc v (statesF u) ∧ Ext w w') := by
  refine calls_of_go Try.func17 rfl (by show _ ≤ _; exact Nat.le_of_ble_eq_true rfl) (by kernel_rfl) _ (res1 rfl) ?_
  have hx : Ext w w := Ext.refl w
  refine go_seq ?_
  refine go_region ?_
  refine go_box (.agg u.cells) u.cells rfl rfl rfl ?_
  intro w1 b2 hx3 hn4 hb5
  replace hn4 := Nat.le_trans hx.size hn4
  replace hx := hx.trans hx3
  refine go_y (v := .slice none 0 0) (y_assign) rfl ?_
  refine go_ops_nil ?_
  refine go_seq ?_
  refine go_seq ?_
  refine go_region ?_
  refine go_y (v := .agg u.cells) (y_load_blk rfl hb5 ty_ag_25 rfl) rfl ?_
  refine go_c (enters_func ty_en_12 rfl) (sound_ret u _) rfl ?_
  rintro _ w6 ⟨rfl, hx7⟩
  replace hb5 := hb5.ext hx7
  replace hx := hx.trans hx7
  cases hs_u : soundB u
  · refine go_y (v := .bool true) (y_not_f rfl) rfl ?_
    refine go_ops_nil ?_
    refine go_cond_true rfl ?_
    refine go_seq ?_
    refine go_region ?_
    refine go_y (v := .slice none 0 0) (y_assign) rfl ?_
    refine go_ops_nil ?_
    refine go_ret ?_
    exact ⟨by rw [statesF, if_neg (by simp [hs_u])]; exact SlR.nil _ _ _, hx⟩
  · have hsd_u := sound_spec hs_u
    have hcb_u := cap_bd hs_u
    refine go_y (v := .bool false) (y_not_t rfl) rfl ?_
    refine go_ops_nil ?_
    refine go_cond_false rfl ?_
    refine go_skip ?_
    refine go_seq ?_
    refine go_region ?_
    refine go_y (v := .agg u.cells) (y_load_blk rfl hb5 ty_ag_25 rfl) rfl ?_
    refine go_c (enters_func ty_en_9 rfl) (caps_ret u hs_u _) rfl ?_
    rintro _ w8 ⟨rfl, hx9⟩
    replace hb5 := hb5.ext hx9
    replace hx := hx.trans hx9
    refine go_y (v := .tuple #[.int .i64 (capOff u), .int .i64 (capOn u)]) (y_move) rfl ?_
    refine go_y (v := .int .i64 (capOff u)) (y_extract rfl rfl) rfl ?_
    refine go_y (v := .int .i64 (capOn u)) (y_extract rfl rfl) rfl ?_
    refine go_y (v := .int .i64 (capOff u)) (y_assign) rfl ?_
    refine go_y (v := .int .i64 (capOn u)) (y_assign) rfl ?_
    refine go_ops_nil ?_
    refine go_seq ?_
    refine go_region ?_
    refine go_y (v := .int .i64 (capOff u)) (y_move) rfl ?_
    refine go_y (v := .pointer (some ⟨b2, 12, none⟩)) (y_fieldAddr rfl ty_fl_25_12) rfl ?_
    refine go_y (v := .int .i64 u.st) (y_load_fld rfl hb5 ty_sc_3 rfl) rfl ?_
    refine go_y (v := .int .i64 ((capOff u) + u.st)) (y_add rfl rfl (by unfold in64; omega)) rfl ?_
    refine go_y (v := .int .i64 (capOn u)) (y_move) rfl ?_
    refine go_y (v := .int .i64 (((capOff u) + u.st) + (capOn u))) (y_add rfl rfl (by unfold in64; omega)) rfl ?_
    refine go_mk (c := (((capOff u) + u.st) + (capOn u)).toNat) stc rfl rfl (by omega) ty_us_35 ty_in_27 (by omega) (by omega) rfl ?_
    intro v11 w10 own13 hx12
    have hbase14 : w.heap.size ≤ w8.heap.size := hx.size
    have hd15 := own13.ne hb5.lt
    replace hb5 := hb5.ext hx12
    replace hx := hx.trans hx12
    have hz16 : w8.heap.size ≤ w10.heap.size := hx12.size
    refine go_y (v := v11) (y_assign) rfl ?_
    refine go_ops_nil ?_
    refine go_seq ?_
    refine go_seq ?_
    refine go_region ?_
    refine go_y (v := .int .i64 (capOff u)) (y_move) rfl ?_
    refine go_y (v := .int .i64 0) (y_move) rfl ?_
    refine go_ops_nil ?_
    refine go_block ?_
    refine go_loop2 (G := Nat ) (H := Value) [5, 6, 25, 26, 27, 28, 29, 30, 31, 32, 33, 34] (fun g vs => [(25, .int .i64 (g : Int)), (5, vs)]) (fun g vs w' => Ext w w' ∧ Blk w' b2 u.cells 25 ∧ Own w' w8.heap.size 27 2 stc vs (run 0 g) ∧ w8.heap.size ≤ w'.heap.size ∧ some b2 ≠ Value.ownBlock vs ∧ g ≤ (capOff u).toNat) (fun g vs => (capOff u).toNat - g) 0 v11 ⟨rfl, rfl, trivial⟩ ⟨hx, hb5, own13, hz16, hd15, (by omega)⟩ ?_
    clear hx hb5 own13 hz16 hd15
    intro g vs X18 w17 ⟨hx, hb5, own13, hz16, hd15, hg0⟩
    refine go_seq ?_
    refine go_region ?_
    refine go_test (c := ((g : Int) : Int) < (capOff u)) (y_lt rfl rfl) rfl (fun hc19 => ?_) (fun hc19 => ?_)
    · refine go_ops_nil ?_
      refine go_seq ?_
      refine go_cond_true rfl ?_
      refine go_skip ?_
      refine go_seq ?_
      refine go_block ?_
      refine go_seq ?_
      refine go_region ?_
      refine go_y (v := .int .i64 (g : Int)) (y_move) rfl ?_
      refine go_y (v := .int .i64 (g : Int)) (y_assign) rfl ?_
      refine go_ops_nil ?_
      refine go_region ?_
      refine go_y (v := vs) (y_move) rfl ?_
      refine go_y (v := .int .i64 (g : Int)) (y_move) rfl ?_
      refine go_y (v := .int .i64 ((g : Int) + 1)) (y_add rfl rfl (by unfold in64; omega)) rfl ?_
      refine go_y (v := .agg #[.int .i64 0, .int .i64 ((g : Int) + 1)]) (y_build (#[.int .i64 0, .int .i64 ((g : Int) + 1)]) ty_ze_27 ty_pl_27 (by kernel_rfl)) rfl ?_
      refine go_lit [.agg #[.int .i64 0, .int .i64 ((g : Int) + 1)]] (#[.int .i64 0, .int .i64 ((g : Int) + 1)]) ty_sl_35 ty_ze_27 (by decide) (by decide) rfl (by intro x hx_; simp only [List.mem_cons, List.not_mem_nil, or_false] at hx_; subst hx_; rfl) rfl rfl rfl ?_
      intro w20 b21 hx22 hn23 hb24
      have hd25 : b2 ≠ b21 := by have := hb5.lt; omega
      have hd26 := own13.ne_new hn23
      replace hn23 := Nat.le_trans hx.size hn23
      replace hb5 := hb5.ext hx22
      replace own13 := own13.ext hx22
      replace hz16 := Nat.le_trans hz16 hx22.size
      replace hx := hx.trans hx22
      refine go_app1 (f := stc) (0, (g : Int) + 1) rfl rfl own13 hb24 rfl rfl ty_us_35 ty_in_27 rfl (by decide) (by repeat (first | exact one_nil | refine one_cons (by first | rfl | assumption) ?_)) (by decide) (by simp; omega) hz16 rfl ?_
      intro v27 w28 own29 hg30 hbk31
      have hd32 := ne_append hb5.lt hd15 hbk31
      replace hb5 := hb5.grown hg30 hd15
      replace hz16 := Nat.le_trans hz16 hg30.size
      replace hx := own13.below hx hg30 hbase14
      refine go_y (v := v27) (y_assign) rfl ?_
      refine go_ops_nil ?_
      refine go_blk ?_
      refine go_region ?_
      refine go_y (v := .int .i64 ((g : Int) + 1)) (y_add rfl rfl (by unfold in64; omega)) rfl ?_
      refine go_y (v := .int .i64 ((g : Int) + 1)) (y_move) rfl ?_
      refine go_ops_nil ?_
      refine go_upto ⟨g + 1, v27, ?_, ⟨ie (by omega), rfl, trivial⟩, ⟨hx, hb5, (by rw [run_succ]; exact own29), hz16, hd32, (by omega)⟩, (by omega)⟩
      repeat (refine Agree.upd rfl ?_)
      exact Agree.updL rfl (Agree.havoc rfl (Agree.refl _ _))
    · refine go_ops_nil ?_
      refine go_seq ?_
      refine go_cond_false rfl ?_
      refine go_exit rfl ?_
      refine go_seq ?_
      refine go_seq ?_
      refine go_region ?_
      refine go_y (v := .pointer (some ⟨b2, 12, none⟩)) (y_fieldAddr rfl ty_fl_25_12) rfl ?_
      refine go_y (v := .int .i64 u.st) (y_load_fld rfl hb5 ty_sc_3 rfl) rfl ?_
      refine go_y (v := .int .i64 0) (y_move) rfl ?_
      refine go_ops_nil ?_
      refine go_block ?_
      obtain rfl : g = (capOff u).toNat := by omega
      refine go_loop2 (G := Nat ) (H := Value) [5, 7, 37, 38, 39, 40, 41, 42, 43, 44, 45, 46] (fun g vs => [(37, .int .i64 (g : Int)), (5, vs)]) (fun g vs w' => Ext w w' ∧ Blk w' b2 u.cells 25 ∧ Own w' w8.heap.size 27 2 stc vs (run 0 (capOff u).toNat ++ run 1 g) ∧ w8.heap.size ≤ w'.heap.size ∧ some b2 ≠ Value.ownBlock vs ∧ g ≤ (u.st).toNat) (fun g vs => (u.st).toNat - g) 0 vs ⟨rfl, rfl, trivial⟩ ⟨hx, hb5, (by rw [run_zero]; rw [List.append_nil]; exact own13), hz16, hd15, (by omega)⟩ ?_
      clear hx hb5 hz16 hd15
      intro g vs X21 w20 ⟨hx, hb5, own13, hz16, hd15, hg1⟩
      refine go_seq ?_
      refine go_region ?_
      refine go_test (c := ((g : Int) : Int) < u.st) (y_lt rfl rfl) rfl (fun hc22 => ?_) (fun hc22 => ?_)
      · refine go_ops_nil ?_
        refine go_seq ?_
        refine go_cond_true rfl ?_
        refine go_skip ?_
        refine go_seq ?_
        refine go_block ?_
        refine go_seq ?_
        refine go_region ?_
        refine go_y (v := .int .i64 (g : Int)) (y_move) rfl ?_
        refine go_y (v := .int .i64 (g : Int)) (y_assign) rfl ?_
        refine go_ops_nil ?_
        refine go_region ?_
        refine go_y (v := vs) (y_move) rfl ?_
        refine go_y (v := .int .i64 (g : Int)) (y_move) rfl ?_
        refine go_y (v := .int .i64 ((g : Int) + 1)) (y_add rfl rfl (by unfold in64; omega)) rfl ?_
        refine go_y (v := .agg #[.int .i64 1, .int .i64 ((g : Int) + 1)]) (y_build (#[.int .i64 1, .int .i64 ((g : Int) + 1)]) ty_ze_27 ty_pl_27 (by kernel_rfl)) rfl ?_
        refine go_lit [.agg #[.int .i64 1, .int .i64 ((g : Int) + 1)]] (#[.int .i64 1, .int .i64 ((g : Int) + 1)]) ty_sl_35 ty_ze_27 (by decide) (by decide) rfl (by intro x hx_; simp only [List.mem_cons, List.not_mem_nil, or_false] at hx_; subst hx_; rfl) rfl rfl rfl ?_
        intro w23 b24 hx25 hn26 hb27
        have hd28 : b2 ≠ b24 := by have := hb5.lt; omega
        have hd29 := own13.ne_new hn26
        replace hn26 := Nat.le_trans hx.size hn26
        replace hb5 := hb5.ext hx25
        replace own13 := own13.ext hx25
        replace hz16 := Nat.le_trans hz16 hx25.size
        replace hx := hx.trans hx25
        refine go_app1 (f := stc) (1, (g : Int) + 1) rfl rfl own13 hb27 rfl rfl ty_us_35 ty_in_27 rfl (by decide) (by repeat (first | exact one_nil | refine one_cons (by first | rfl | assumption) ?_)) (by decide) (by simp; omega) hz16 rfl ?_
        intro v30 w31 own32 hg33 hbk34
        have hd35 := ne_append hb5.lt hd15 hbk34
        replace hb5 := hb5.grown hg33 hd15
        replace hz16 := Nat.le_trans hz16 hg33.size
        replace hx := own13.below hx hg33 hbase14
        refine go_y (v := v30) (y_assign) rfl ?_
        refine go_ops_nil ?_
        refine go_blk ?_
        refine go_region ?_
        refine go_y (v := .int .i64 ((g : Int) + 1)) (y_add rfl rfl (by unfold in64; omega)) rfl ?_
        refine go_y (v := .int .i64 ((g : Int) + 1)) (y_move) rfl ?_
        refine go_ops_nil ?_
        refine go_upto ⟨g + 1, v30, ?_, ⟨ie (by omega), rfl, trivial⟩, ⟨hx, hb5, (by rw [run_succ, ← List.append_assoc]; exact own32), hz16, hd35, (by omega)⟩, (by omega)⟩
        repeat (refine Agree.upd rfl ?_)
        exact Agree.updL rfl (Agree.havoc rfl (Agree.refl _ _))
      · refine go_ops_nil ?_
        refine go_seq ?_
        refine go_cond_false rfl ?_
        refine go_exit rfl ?_
        refine go_seq ?_
        refine go_seq ?_
        refine go_region ?_
        refine go_y (v := .int .i64 (capOn u)) (y_move) rfl ?_
        refine go_y (v := .int .i64 0) (y_move) rfl ?_
        refine go_ops_nil ?_
        refine go_block ?_
        obtain rfl : g = (u.st).toNat := by omega
        refine go_loop2 (G := Nat ) (H := Value) [5, 8, 48, 49, 50, 51, 52, 53, 54, 55, 56, 57] (fun g vs => [(48, .int .i64 (g : Int)), (5, vs)]) (fun g vs w' => Ext w w' ∧ Blk w' b2 u.cells 25 ∧ Own w' w8.heap.size 27 2 stc vs (run 0 (capOff u).toNat ++ run 1 u.st.toNat ++ run 2 g) ∧ w8.heap.size ≤ w'.heap.size ∧ some b2 ≠ Value.ownBlock vs ∧ g ≤ (capOn u).toNat) (fun g vs => (capOn u).toNat - g) 0 vs ⟨rfl, rfl, trivial⟩ ⟨hx, hb5, (by rw [run_zero]; rw [List.append_nil]; exact own13), hz16, hd15, (by omega)⟩ ?_
        clear hx hb5 hz16 hd15
        intro g vs X24 w23 ⟨hx, hb5, own13, hz16, hd15, hg2⟩
        refine go_seq ?_
        refine go_region ?_
        refine go_test (c := ((g : Int) : Int) < (capOn u)) (y_lt rfl rfl) rfl (fun hc25 => ?_) (fun hc25 => ?_)
        · refine go_ops_nil ?_
          refine go_seq ?_
          refine go_cond_true rfl ?_
          refine go_skip ?_
          refine go_seq ?_
          refine go_block ?_
          refine go_seq ?_
          refine go_region ?_
          refine go_y (v := .int .i64 (g : Int)) (y_move) rfl ?_
          refine go_y (v := .int .i64 (g : Int)) (y_assign) rfl ?_
          refine go_ops_nil ?_
          refine go_region ?_
          refine go_y (v := vs) (y_move) rfl ?_
          refine go_y (v := .int .i64 (g : Int)) (y_move) rfl ?_
          refine go_y (v := .int .i64 ((g : Int) + 1)) (y_add rfl rfl (by unfold in64; omega)) rfl ?_
          refine go_y (v := .agg #[.int .i64 2, .int .i64 ((g : Int) + 1)]) (y_build (#[.int .i64 2, .int .i64 ((g : Int) + 1)]) ty_ze_27 ty_pl_27 (by kernel_rfl)) rfl ?_
          refine go_lit [.agg #[.int .i64 2, .int .i64 ((g : Int) + 1)]] (#[.int .i64 2, .int .i64 ((g : Int) + 1)]) ty_sl_35 ty_ze_27 (by decide) (by decide) rfl (by intro x hx_; simp only [List.mem_cons, List.not_mem_nil, or_false] at hx_; subst hx_; rfl) rfl rfl rfl ?_
          intro w26 b27 hx28 hn29 hb30
          have hd31 : b2 ≠ b27 := by have := hb5.lt; omega
          have hd32 := own13.ne_new hn29
          replace hn29 := Nat.le_trans hx.size hn29
          replace hb5 := hb5.ext hx28
          replace own13 := own13.ext hx28
          replace hz16 := Nat.le_trans hz16 hx28.size
          replace hx := hx.trans hx28
          refine go_app1 (f := stc) (2, (g : Int) + 1) rfl rfl own13 hb30 rfl rfl ty_us_35 ty_in_27 rfl (by decide) (by repeat (first | exact one_nil | refine one_cons (by first | rfl | assumption) ?_)) (by decide) (by simp; omega) hz16 rfl ?_
          intro v33 w34 own35 hg36 hbk37
          have hd38 := ne_append hb5.lt hd15 hbk37
          replace hb5 := hb5.grown hg36 hd15
          replace hz16 := Nat.le_trans hz16 hg36.size
          replace hx := own13.below hx hg36 hbase14
          refine go_y (v := v33) (y_assign) rfl ?_
          refine go_ops_nil ?_
          refine go_blk ?_
          refine go_region ?_
          refine go_y (v := .int .i64 ((g : Int) + 1)) (y_add rfl rfl (by unfold in64; omega)) rfl ?_
          refine go_y (v := .int .i64 ((g : Int) + 1)) (y_move) rfl ?_
          refine go_ops_nil ?_
          refine go_upto ⟨g + 1, v33, ?_, ⟨ie (by omega), rfl, trivial⟩, ⟨hx, hb5, (by rw [run_succ, ← List.append_assoc]; exact own35), hz16, hd38, (by omega)⟩, (by omega)⟩
          repeat (refine Agree.upd rfl ?_)
          exact Agree.updL rfl (Agree.havoc rfl (Agree.refl _ _))
        · refine go_ops_nil ?_
          refine go_seq ?_
          refine go_cond_false rfl ?_
          refine go_exit rfl ?_
          refine go_seq ?_
          refine go_region ?_
          refine go_y (v := vs) (y_move) rfl ?_
          refine go_y (v := vs) (y_assign) rfl ?_
          refine go_ops_nil ?_
          obtain rfl : g = (capOn u).toNat := by omega
          refine go_ret ?_
          exact ⟨by rw [statesF, if_pos hs_u, statesL]; exact own13.slr (fun _ => rfl), hx⟩

set_option maxHeartbeats 4000000 in
set_option maxRecDepth 100000 in
theorem rstates_ret (u : U) (w : World) : Ret Try.prog 18 [.agg u.cells] w (fun v w' => SlR w' 2 stc v (statesF u) ∧ Ext w w') := by
  refine calls_of_go Try.func18 rfl (by show _ ≤ _; exact Nat.le_of_ble_eq_true rfl) (by kernel_rfl) _ (res1 rfl) ?_
  have hx : Ext w w := Ext.refl w
  cases hs_u : soundB u
  · refine go_seq ?_
    refine go_region ?_
    refine go_box (.agg u.cells) u.cells rfl rfl rfl ?_
    intro w1 b2 hx3 hn4 hb5
    replace hn4 := Nat.le_trans hx.size hn4
    replace hx := hx.trans hx3
    refine go_y (v := .slice none 0 0) (y_assign) rfl ?_
    refine go_ops_nil ?_
    refine go_seq ?_
    refine go_region ?_
    refine go_y (v := .slice none 0 0) (y_assign) rfl ?_
    refine go_ops_nil ?_
    refine go_seq ?_
    refine go_region ?_
    refine go_y (v := .agg u.cells) (y_load_blk rfl hb5 ty_ag_25 rfl) rfl ?_
    refine go_c (enters_func ty_en_10 rfl) (rcaps_ret0 u hs_u _) rfl ?_
    rintro _ w6 ⟨rfl, hx7⟩
    replace hb5 := hb5.ext hx7
    replace hx := hx.trans hx7
    refine go_y (v := .tuple #[.int .i64 0, .int .i64 0]) (y_move) rfl ?_
    refine go_y (v := .int .i64 0) (y_extract rfl rfl) rfl ?_
    refine go_y (v := .int .i64 0) (y_extract rfl rfl) rfl ?_
    refine go_y (v := .int .i64 0) (y_assign) rfl ?_
    refine go_y (v := .int .i64 0) (y_assign) rfl ?_
    refine go_ops_nil ?_
    refine go_seq ?_
    refine go_seq ?_
    refine go_region ?_
    refine go_y (v := .agg u.cells) (y_load_blk rfl hb5 ty_ag_25 rfl) rfl ?_
    refine go_c (enters_func ty_en_13 rfl) (Ret.mono (rsound_ret u _) (fun v w' h => (⟨h.1.trans (congrArg Value.bool hs_u), h.2⟩ : v = .bool false ∧ Ext _ w'))) rfl ?_
    rintro _ w8 ⟨rfl, hx9⟩
    replace hb5 := hb5.ext hx9
    replace hx := hx.trans hx9
    refine go_y (v := .bool true) (y_not_f rfl) rfl ?_
    refine go_ops_nil ?_
    refine go_cond_true rfl ?_
    refine go_seq ?_
    refine go_region ?_
    refine go_y (v := .slice none 0 0) (y_assign) rfl ?_
    refine go_ops_nil ?_
    refine go_ret ?_
    exact ⟨by rw [statesF, if_neg (by simp [hs_u])]; exact SlR.nil _ _ _, hx⟩
  · have hsd_u := sound_spec hs_u
    have hcb_u := cap_bd hs_u
    refine go_seq ?_
    refine go_region ?_
    refine go_box (.agg u.cells) u.cells rfl rfl rfl ?_
    intro w1 b2 hx3 hn4 hb5
    replace hn4 := Nat.le_trans hx.size hn4
    replace hx := hx.trans hx3
    refine go_y (v := .slice none 0 0) (y_assign) rfl ?_
    refine go_ops_nil ?_
    refine go_seq ?_
    refine go_region ?_
    refine go_y (v := .slice none 0 0) (y_assign) rfl ?_
    refine go_ops_nil ?_
    refine go_seq ?_
    refine go_region ?_
    refine go_y (v := .agg u.cells) (y_load_blk rfl hb5 ty_ag_25 rfl) rfl ?_
    refine go_c (enters_func ty_en_10 rfl) (rcaps_ret u hs_u _) rfl ?_
    rintro _ w6 ⟨rfl, hx7⟩
    replace hb5 := hb5.ext hx7
    replace hx := hx.trans hx7
    refine go_y (v := .tuple #[.int .i64 (capOff u), .int .i64 (capOn u)]) (y_move) rfl ?_
    refine go_y (v := .int .i64 (capOff u)) (y_extract rfl rfl) rfl ?_
    refine go_y (v := .int .i64 (capOn u)) (y_extract rfl rfl) rfl ?_
    refine go_y (v := .int .i64 (capOff u)) (y_assign) rfl ?_
    refine go_y (v := .int .i64 (capOn u)) (y_assign) rfl ?_
    refine go_ops_nil ?_
    refine go_seq ?_
    refine go_seq ?_
    refine go_region ?_
    refine go_y (v := .agg u.cells) (y_load_blk rfl hb5 ty_ag_25 rfl) rfl ?_
    refine go_c (enters_func ty_en_13 rfl) (Ret.mono (rsound_ret u _) (fun v w' h => (⟨h.1.trans (congrArg Value.bool hs_u), h.2⟩ : v = .bool true ∧ Ext _ w'))) rfl ?_
    rintro _ w8 ⟨rfl, hx9⟩
    replace hb5 := hb5.ext hx9
    replace hx := hx.trans hx9
    refine go_y (v := .bool false) (y_not_t rfl) rfl ?_
    refine go_ops_nil ?_
    refine go_cond_false rfl ?_
    refine go_skip ?_
    refine go_seq ?_
    refine go_seq ?_
    refine go_region ?_
    refine go_y (v := .int .i64 1) (y_assign) rfl ?_
    refine go_ops_nil ?_
    refine go_block ?_
    have own10 : Own w8 w8.heap.size 27 2 stc (.slice none 0 0) [] := Own.nil _ _ _ _ _
    have hbase11 : w.heap.size ≤ w8.heap.size := hx.size
    skip
    have hz12 : w8.heap.size ≤ w8.heap.size := Nat.le_refl _
    have hd13 := own10.ne hb5.lt
    refine go_loop2 (G := Nat ) (H := Value) [3, 6, 17, 18, 19, 20, 21, 22, 23, 24, 25, 26] (fun g vs => [(6, .int .i64 ((g : Int) + 1)), (3, vs)]) (fun g vs w' => Ext w w' ∧ Blk w' b2 u.cells 25 ∧ w8.heap.size ≤ w'.heap.size ∧ Own w' w8.heap.size 27 2 stc vs (run 0 g) ∧ some b2 ≠ Value.ownBlock vs ∧ g ≤ (capOff u).toNat) (fun g vs => (capOff u).toNat - g) 0 (.slice none 0 0) ⟨rfl, rfl, trivial⟩ ⟨hx, hb5, hz12, own10, hd13, (by omega)⟩ ?_
    clear hx hb5 hz12 own10 hd13
    intro g vs X15 w14 ⟨hx, hb5, hz12, own10, hd13, hg0⟩
    refine go_seq ?_
    refine go_seq ?_
    refine go_region ?_
    refine go_y (v := .int .i64 ((g : Int) + 1)) (y_move) rfl ?_
    refine go_y (v := .int .i64 (capOff u)) (y_move) rfl ?_
    refine go_test (c := (((g : Int) + 1) : Int) ≤ (capOff u)) (y_le rfl rfl) rfl (fun hc16 => ?_) (fun hc16 => ?_)
    · refine go_ops_nil ?_
      refine go_cond_true rfl ?_
      refine go_skip ?_
      refine go_seq ?_
      refine go_block ?_
      refine go_region ?_
      refine go_y (v := vs) (y_move) rfl ?_
      refine go_y (v := .int .i64 ((g : Int) + 1)) (y_move) rfl ?_
      refine go_y (v := .agg #[.int .i64 0, .int .i64 ((g : Int) + 1)]) (y_build (#[.int .i64 0, .int .i64 ((g : Int) + 1)]) ty_ze_27 ty_pl_27 (by kernel_rfl)) rfl ?_
      refine go_lit [.agg #[.int .i64 0, .int .i64 ((g : Int) + 1)]] (#[.int .i64 0, .int .i64 ((g : Int) + 1)]) ty_sl_35 ty_ze_27 (by decide) (by decide) rfl (by intro x hx_; simp only [List.mem_cons, List.not_mem_nil, or_false] at hx_; subst hx_; rfl) rfl rfl rfl ?_
      intro w17 b18 hx19 hn20 hb21
      have hd22 : b2 ≠ b18 := by have := hb5.lt; omega
      have hd23 := own10.ne_new hn20
      replace hn20 := Nat.le_trans hx.size hn20
      replace hb5 := hb5.ext hx19
      replace hz12 := Nat.le_trans hz12 hx19.size
      replace own10 := own10.ext hx19
      replace hx := hx.trans hx19
      refine go_app1 (f := stc) (0, (g : Int) + 1) rfl rfl own10 hb21 rfl rfl ty_us_35 ty_in_27 rfl (by decide) (by repeat (first | exact one_nil | refine one_cons (by first | rfl | assumption) ?_)) (by decide) (by simp; omega) hz12 rfl ?_
      intro v24 w25 own26 hg27 hbk28
      have hd29 := ne_append hb5.lt hd13 hbk28
      replace hb5 := hb5.grown hg27 hd13
      replace hz12 := Nat.le_trans hz12 hg27.size
      replace hx := own10.below hx hg27 hbase11
      refine go_y (v := v24) (y_assign) rfl ?_
      refine go_ops_nil ?_
      refine go_blk ?_
      refine go_region ?_
      refine go_y (v := .int .i64 ((g : Int) + 1)) (y_move) rfl ?_
      refine go_y (v := .int .i64 (((g : Int) + 1) + 1)) (y_add rfl rfl (by unfold in64; omega)) rfl ?_
      refine go_y (v := .int .i64 (((g : Int) + 1) + 1)) (y_assign) rfl ?_
      refine go_ops_nil ?_
      refine go_upto ⟨g + 1, v24, ?_, ⟨ie (by omega), rfl, trivial⟩, ⟨hx, hb5, hz12, (by rw [run_succ]; exact own26), hd29, (by omega)⟩, (by omega)⟩
      repeat (refine Agree.upd rfl ?_)
      exact Agree.updL rfl (Agree.havoc rfl (Agree.refl _ _))
    · refine go_ops_nil ?_
      refine go_cond_false rfl ?_
      refine go_exit rfl ?_
      refine go_seq ?_
      refine go_seq ?_
      refine go_region ?_
      refine go_y (v := .int .i64 1) (y_assign) rfl ?_
      refine go_ops_nil ?_
      refine go_block ?_
      obtain rfl : g = (capOff u).toNat := by omega
      refine go_loop2 (G := Nat ) (H := Value) [3, 7, 27, 28, 29, 30, 31, 32, 33, 34, 35, 36, 37] (fun g vs => [(7, .int .i64 ((g : Int) + 1)), (3, vs)]) (fun g vs w' => Ext w w' ∧ Blk w' b2 u.cells 25 ∧ w8.heap.size ≤ w'.heap.size ∧ Own w' w8.heap.size 27 2 stc vs (run 0 (capOff u).toNat ++ run 1 g) ∧ some b2 ≠ Value.ownBlock vs ∧ g ≤ (u.st).toNat) (fun g vs => (u.st).toNat - g) 0 vs ⟨rfl, rfl, trivial⟩ ⟨hx, hb5, hz12, (by rw [run_zero]; rw [List.append_nil]; exact own10), hd13, (by omega)⟩ ?_
      clear hx hb5 hz12 hd13
      intro g vs X18 w17 ⟨hx, hb5, hz12, own10, hd13, hg1⟩
      refine go_seq ?_
      refine go_seq ?_
      refine go_region ?_
      refine go_y (v := .int .i64 ((g : Int) + 1)) (y_move) rfl ?_
      refine go_y (v := .pointer (some ⟨b2, 12, none⟩)) (y_fieldAddr rfl ty_fl_25_12) rfl ?_
      refine go_y (v := .int .i64 u.st) (y_load_fld rfl hb5 ty_sc_3 rfl) rfl ?_
      refine go_test (c := (((g : Int) + 1) : Int) ≤ u.st) (y_le rfl rfl) rfl (fun hc19 => ?_) (fun hc19 => ?_)
      · refine go_ops_nil ?_
        refine go_cond_true rfl ?_
        refine go_skip ?_
        refine go_seq ?_
        refine go_block ?_
        refine go_region ?_
        refine go_y (v := vs) (y_move) rfl ?_
        refine go_y (v := .int .i64 ((g : Int) + 1)) (y_move) rfl ?_
        refine go_y (v := .agg #[.int .i64 1, .int .i64 ((g : Int) + 1)]) (y_build (#[.int .i64 1, .int .i64 ((g : Int) + 1)]) ty_ze_27 ty_pl_27 (by kernel_rfl)) rfl ?_
        refine go_lit [.agg #[.int .i64 1, .int .i64 ((g : Int) + 1)]] (#[.int .i64 1, .int .i64 ((g : Int) + 1)]) ty_sl_35 ty_ze_27 (by decide) (by decide) rfl (by intro x hx_; simp only [List.mem_cons, List.not_mem_nil, or_false] at hx_; subst hx_; rfl) rfl rfl rfl ?_
        intro w20 b21 hx22 hn23 hb24
        have hd25 : b2 ≠ b21 := by have := hb5.lt; omega
        have hd26 := own10.ne_new hn23
        replace hn23 := Nat.le_trans hx.size hn23
        replace hb5 := hb5.ext hx22
        replace hz12 := Nat.le_trans hz12 hx22.size
        replace own10 := own10.ext hx22
        replace hx := hx.trans hx22
        refine go_app1 (f := stc) (1, (g : Int) + 1) rfl rfl own10 hb24 rfl rfl ty_us_35 ty_in_27 rfl (by decide) (by repeat (first | exact one_nil | refine one_cons (by first | rfl | assumption) ?_)) (by decide) (by simp; omega) hz12 rfl ?_
        intro v27 w28 own29 hg30 hbk31
        have hd32 := ne_append hb5.lt hd13 hbk31
        replace hb5 := hb5.grown hg30 hd13
        replace hz12 := Nat.le_trans hz12 hg30.size
        replace hx := own10.below hx hg30 hbase11
        refine go_y (v := v27) (y_assign) rfl ?_
        refine go_ops_nil ?_
        refine go_blk ?_
        refine go_region ?_
        refine go_y (v := .int .i64 ((g : Int) + 1)) (y_move) rfl ?_
        refine go_y (v := .int .i64 (((g : Int) + 1) + 1)) (y_add rfl rfl (by unfold in64; omega)) rfl ?_
        refine go_y (v := .int .i64 (((g : Int) + 1) + 1)) (y_assign) rfl ?_
        refine go_ops_nil ?_
        refine go_upto ⟨g + 1, v27, ?_, ⟨ie (by omega), rfl, trivial⟩, ⟨hx, hb5, hz12, (by rw [run_succ, ← List.append_assoc]; exact own29), hd32, (by omega)⟩, (by omega)⟩
        repeat (refine Agree.upd rfl ?_)
        exact Agree.updL rfl (Agree.havoc rfl (Agree.refl _ _))
      · refine go_ops_nil ?_
        refine go_cond_false rfl ?_
        refine go_exit rfl ?_
        refine go_seq ?_
        refine go_seq ?_
        refine go_region ?_
        refine go_y (v := .int .i64 1) (y_assign) rfl ?_
        refine go_ops_nil ?_
        refine go_block ?_
        obtain rfl : g = (u.st).toNat := by omega
        refine go_loop2 (G := Nat ) (H := Value) [3, 8, 38, 39, 40, 41, 42, 43, 44, 45, 46, 47] (fun g vs => [(8, .int .i64 ((g : Int) + 1)), (3, vs)]) (fun g vs w' => Ext w w' ∧ Blk w' b2 u.cells 25 ∧ w8.heap.size ≤ w'.heap.size ∧ Own w' w8.heap.size 27 2 stc vs (run 0 (capOff u).toNat ++ run 1 u.st.toNat ++ run 2 g) ∧ some b2 ≠ Value.ownBlock vs ∧ g ≤ (capOn u).toNat) (fun g vs => (capOn u).toNat - g) 0 vs ⟨rfl, rfl, trivial⟩ ⟨hx, hb5, hz12, (by rw [run_zero]; rw [List.append_nil]; exact own10), hd13, (by omega)⟩ ?_
        clear hx hb5 hz12 hd13
        intro g vs X21 w20 ⟨hx, hb5, hz12, own10, hd13, hg2⟩
        refine go_seq ?_
        refine go_seq ?_
        refine go_region ?_
        refine go_y (v := .int .i64 ((g : Int) + 1)) (y_move) rfl ?_
        refine go_y (v := .int .i64 (capOn u)) (y_move) rfl ?_
        refine go_test (c := (((g : Int) + 1) : Int) ≤ (capOn u)) (y_le rfl rfl) rfl (fun hc22 => ?_) (fun hc22 => ?_)
        · refine go_ops_nil ?_
          refine go_cond_true rfl ?_
          refine go_skip ?_
          refine go_seq ?_
          refine go_block ?_
          refine go_region ?_
          refine go_y (v := vs) (y_move) rfl ?_
          refine go_y (v := .int .i64 ((g : Int) + 1)) (y_move) rfl ?_
          refine go_y (v := .agg #[.int .i64 2, .int .i64 ((g : Int) + 1)]) (y_build (#[.int .i64 2, .int .i64 ((g : Int) + 1)]) ty_ze_27 ty_pl_27 (by kernel_rfl)) rfl ?_
          refine go_lit [.agg #[.int .i64 2, .int .i64 ((g : Int) + 1)]] (#[.int .i64 2, .int .i64 ((g : Int) + 1)]) ty_sl_35 ty_ze_27 (by decide) (by decide) rfl (by intro x hx_; simp only [List.mem_cons, List.not_mem_nil, or_false] at hx_; subst hx_; rfl) rfl rfl rfl ?_
          intro w23 b24 hx25 hn26 hb27
          have hd28 : b2 ≠ b24 := by have := hb5.lt; omega
          have hd29 := own10.ne_new hn26
          replace hn26 := Nat.le_trans hx.size hn26
          replace hb5 := hb5.ext hx25
          replace hz12 := Nat.le_trans hz12 hx25.size
          replace own10 := own10.ext hx25
          replace hx := hx.trans hx25
          refine go_app1 (f := stc) (2, (g : Int) + 1) rfl rfl own10 hb27 rfl rfl ty_us_35 ty_in_27 rfl (by decide) (by repeat (first | exact one_nil | refine one_cons (by first | rfl | assumption) ?_)) (by decide) (by simp; omega) hz12 rfl ?_
          intro v30 w31 own32 hg33 hbk34
          have hd35 := ne_append hb5.lt hd13 hbk34
          replace hb5 := hb5.grown hg33 hd13
          replace hz12 := Nat.le_trans hz12 hg33.size
          replace hx := own10.below hx hg33 hbase11
          refine go_y (v := v30) (y_assign) rfl ?_
          refine go_ops_nil ?_
          refine go_blk ?_
          refine go_region ?_
          refine go_y (v := .int .i64 ((g : Int) + 1)) (y_move) rfl ?_
          refine go_y (v := .int .i64 (((g : Int) + 1) + 1)) (y_add rfl rfl (by unfold in64; omega)) rfl ?_
          refine go_y (v := .int .i64 (((g : Int) + 1) + 1)) (y_assign) rfl ?_
          refine go_ops_nil ?_
          refine go_upto ⟨g + 1, v30, ?_, ⟨ie (by omega), rfl, trivial⟩, ⟨hx, hb5, hz12, (by rw [run_succ, ← List.append_assoc]; exact own32), hd35, (by omega)⟩, (by omega)⟩
          repeat (refine Agree.upd rfl ?_)
          exact Agree.updL rfl (Agree.havoc rfl (Agree.refl _ _))
        · refine go_ops_nil ?_
          refine go_cond_false rfl ?_
          refine go_exit rfl ?_
          refine go_seq ?_
          refine go_region ?_
          refine go_y (v := vs) (y_move) rfl ?_
          refine go_y (v := vs) (y_assign) rfl ?_
          refine go_ops_nil ?_
          obtain rfl : g = (capOn u).toNat := by omega
          refine go_ret ?_
          exact ⟨by rw [statesF, if_pos hs_u, statesL]; exact own10.slr (fun _ => rfl), hx⟩

set_option maxHeartbeats 4000000 in
set_option maxRecDepth 100000 in
theorem rposition_ret0 (u : U) (k h : Int) (w : World) : Ret Try.prog 20 [.agg u.cells, .agg #[.int .i64 k, .int .i64 h]] w (fun v w' => v = .int .i64 (idxF (fun s : St => decide (s.1 = k ∧ s.2 = h)) (statesF u)) ∧ Ext w w') := by
  have hlen := statesF_len u
  refine calls_of_go Try.func20 rfl (by show _ ≤ _; exact Nat.le_of_ble_eq_true rfl) (by kernel_rfl) _ (res1 rfl) ?_
  have hx : Ext w w := Ext.refl w
  refine go_seq ?_
  refine go_region ?_
  refine go_box (.agg u.cells) u.cells rfl rfl rfl ?_
  intro w1 b2 hx3 hn4 hb5
  replace hn4 := Nat.le_trans hx.size hn4
  replace hx := hx.trans hx3
  refine go_box (.agg #[.int .i64 k, .int .i64 h]) (#[.int .i64 k, .int .i64 h]) rfl rfl rfl ?_
  intro w6 b7 hx8 hn9 hb10
  have hd11 : b2 ≠ b7 := by have := hb5.lt; omega
  replace hn9 := Nat.le_trans hx.size hn9
  replace hb5 := hb5.ext hx8
  replace hx := hx.trans hx8
  refine go_y (v := .int .i64 0) (y_assign) rfl ?_
  refine go_ops_nil ?_
  refine go_seq ?_
  refine go_region ?_
  refine go_y (v := .agg u.cells) (y_load_blk rfl hb5 ty_ag_25 rfl) rfl ?_
  refine go_c (enters_func ty_en_18 rfl) (rstates_ret u _) rfl ?_
  rintro v12 w14 ⟨hs13, hx15⟩
  replace hb5 := hb5.ext hx15
  replace hb10 := hb10.ext hx15
  replace hx := hx.trans hx15
  refine go_y (v := v12) (y_assign) rfl ?_
  refine go_ops_nil ?_
  refine go_seq ?_
  refine go_seq ?_
  refine go_region ?_
  refine go_y (v := .int .i64 0) (y_assign) rfl ?_
  refine go_ops_nil ?_
  refine go_block ?_
  refine go_loop (G := Nat) [4, 6, 9, 10, 11, 12, 13, 14, 15, 16, 17, 18, 19, 20, 21] (fun g => [(6, .int .i64 (g : Int))]) (fun g w' => Ext w w' ∧ Blk w' b2 u.cells 25 ∧ Blk w' b7 (#[.int .i64 k, .int .i64 h]) 27 ∧ SlR w' 2 stc v12 (statesF u) ∧ g ≤ (statesF u).length ∧ (∀ j x, j < g → (statesF u)[j]? = some x → (decide (x.1 = k ∧ x.2 = h)) = false)) (fun g => (statesF u).length - g) 0 ⟨rfl, trivial⟩ ⟨hx, hb5, hb10, hs13, (by omega), (by intro j x hj; omega)⟩ ?_
  clear hx hb5 hb10 hs13
  intro g X17 w16 ⟨hx, hb5, hb10, hs13, hg, hbef⟩
  refine go_seq ?_
  refine go_seq ?_
  refine go_region ?_
  refine go_y (v := .int .i64 (g : Int)) (y_move) rfl ?_
  refine go_y (v := v12) (y_move) rfl ?_
  refine go_y (v := .int .i64 ((statesF u).length : Int)) (y_len_sl hs13 rfl ty_sl_35 _) rfl ?_
  refine go_test (c := ((g : Int) : Int) < ((statesF u).length : Int)) (y_lt rfl rfl) rfl (fun hc18 => ?_) (fun hc18 => ?_)
  · refine go_ops_nil ?_
    refine go_cond_true rfl ?_
    refine go_skip ?_
    refine go_seq ?_
    refine go_block ?_
    refine go_seq ?_
    refine go_drawn mixed [3, 4] [] (.p 0 (.p 1 (.p 2 (.q 3 (.q 4 (.p 5 .done)))))) (by kernel_rfl) ?_
    intro w19 hx20
    replace hb5 := hb5.ext hx20
    replace hb10 := hb10.ext hx20
    replace hs13 := hs13.ext hx20
    replace hx := hx.trans hx20
    refine go_dp (v := v12) rfl (fun w' => y_move) rfl ?_
    refine go_dp (v := .int .i64 (g : Int)) rfl (fun w' => y_move) rfl ?_
    obtain ⟨a21, ha22⟩ := el_some (l := statesF u) (i := g) (by omega)
    obtain ⟨bb23, oo24, cc25, hv26, hc27⟩ := hs13.at_ ha22
    refine go_dp (v := .pointer (some ⟨bb23, oo24 + g * 2, none⟩)) rfl (fun w' => y_idxn g rfl hv26 rfl (by omega) ty_sl_35 (el_lt ha22)) rfl ?_
    refine go_dq (v := .agg #[.int .i64 a21.1, .int .i64 a21.2]) rfl (fun w' hw' => y_load_el rfl (hc27.ext hw') ty_ag_27 rfl) rfl ?_
    refine go_dq (v := .agg #[.int .i64 k, .int .i64 h]) rfl (fun w' hw' => y_load_blk rfl (hb10.ext hw') ty_ag_27 rfl) rfl ?_
    refine go_dptest (c := (a21.1 = k ∧ a21.2 = h)) rfl (fun w' => y_eq2 rfl rfl ty_e2_27) rfl (fun hc28 => ?_) (fun hc28 => ?_)
    · refine go_dops_done ?_
      refine go_cond_true rfl ?_
      refine go_seq ?_
      refine go_region ?_
      refine go_y (v := .int .i64 (g : Int)) (y_move) rfl ?_
      refine go_y (v := .int .i64 (g : Int)) (y_assign) rfl ?_
      refine go_ops_nil ?_
      refine go_ret ?_
      exact ⟨ie (idxF_hit (p := fun s : St => decide (s.1 = k ∧ s.2 = h)) hbef ha22 (by simpa using hc28)).symm, hx⟩
    · refine go_dops_done ?_
      refine go_cond_false rfl ?_
      refine go_skip ?_
      refine go_blk ?_
      refine go_region ?_
      refine go_y (v := .int .i64 (g : Int)) (y_move) rfl ?_
      refine go_y (v := .int .i64 ((g : Int) + 1)) (y_add rfl rfl (by unfold in64; omega)) rfl ?_
      refine go_y (v := .int .i64 ((g : Int) + 1)) (y_assign) rfl ?_
      refine go_ops_nil ?_
      refine go_upto ⟨g + 1, ?_, ⟨ie (by omega), trivial⟩, ⟨hx, hb5, hb10, hs13, (by have := el_lt ha22; omega), (bef_step (p := fun x => decide (x.1 = k ∧ x.2 = h)) hbef ha22 (by simpa using hc28))⟩, (by have := el_lt ha22; omega)⟩
      repeat (refine Agree.upd rfl ?_)
      exact Agree.updL rfl (Agree.havoc rfl (Agree.refl _ _))
  · refine go_ops_nil ?_
    refine go_cond_false rfl ?_
    refine go_exit rfl ?_
    refine go_seq ?_
    refine go_region ?_
    refine go_y (v := .int .i64 (-1)) (y_assign) rfl ?_
    refine go_ops_nil ?_
    refine go_ret ?_
    exact ⟨ie (idxF_miss (p := fun s : St => decide (s.1 = k ∧ s.2 = h)) hbef (by omega)).symm, hx⟩

theorem rposition_ret (u : U) (k h : Int) (w : World) : Ret Try.prog 20 [.agg u.cells, .agg #[.int .i64 k, .int .i64 h]] w (fun v w' => v = .int .i64 (posF u k h) ∧ Ext w w') :=
  Ret.mono (rposition_ret0 u k h w) (fun v w' h => ⟨h.1.trans (ie (idx_pos u _ _)), h.2⟩)

set_option maxHeartbeats 4000000 in
set_option maxRecDepth 100000 in
theorem is_ret (u : U) (k h : Int) (w : World) : Ret Try.prog 31 [.agg u.cells, .agg #[.int .i64 k, .int .i64 h]] w (fun v w' => v = .bool (isB u k h) ∧ Ext w w') := by
  refine calls_of_go Try.func31 rfl (by show _ ≤ _; exact Nat.le_of_ble_eq_true rfl) (by kernel_rfl) _ (res1 rfl) ?_
  have hx : Ext w w := Ext.refl w
  refine go_seq ?_
  refine go_region ?_
  refine go_box (.agg u.cells) u.cells rfl rfl rfl ?_
  intro w1 b2 hx3 hn4 hb5
  replace hn4 := Nat.le_trans hx.size hn4
  replace hx := hx.trans hx3
  refine go_box (.agg #[.int .i64 k, .int .i64 h]) (#[.int .i64 k, .int .i64 h]) rfl rfl rfl ?_
  intro w6 b7 hx8 hn9 hb10
  have hd11 : b2 ≠ b7 := by have := hb5.lt; omega
  replace hn9 := Nat.le_trans hx.size hn9
  replace hb5 := hb5.ext hx8
  replace hx := hx.trans hx8
  refine go_y (v := .bool false) (y_assign) rfl ?_
  refine go_ops_nil ?_
  refine go_seq ?_
  refine go_region ?_
  refine go_y (v := .agg u.cells) (y_load_blk rfl hb5 ty_ag_25 rfl) rfl ?_
  refine go_y (v := .agg #[.int .i64 k, .int .i64 h]) (y_load_blk rfl hb10 ty_ag_27 rfl) rfl ?_
  refine go_c (enters_func ty_en_20 rfl) (rposition_ret u k h _) rfl ?_
  rintro _ w12 ⟨rfl, hx13⟩
  replace hb5 := hb5.ext hx13
  replace hb10 := hb10.ext hx13
  replace hx := hx.trans hx13
  refine go_test (c := (0 : Int) ≤ (posF u k h)) (y_ge rfl rfl) rfl (fun hc14 => ?_) (fun hc14 => ?_)
  · refine go_y (v := .bool true) (y_assign) rfl ?_
    refine go_ops_nil ?_
    refine go_ret ?_
    exact ⟨congrArg Value.bool (decide_eq_true hc14).symm, hx⟩
  · refine go_y (v := .bool false) (y_assign) rfl ?_
    refine go_ops_nil ?_
    refine go_ret ?_
    exact ⟨congrArg Value.bool (decide_eq_false hc14).symm, hx⟩

set_option maxHeartbeats 4000000 in
set_option maxRecDepth 100000 in
theorem in_ret (vl : Value) (l : List Int) (x_ : Int) (w : World) (hl : SlR w 1 ic vl l) (hlen : l.length ≤ 9223372036854775806) : Ret Try.prog 41 [vl, .int .i64 x_] w (fun v w' => v = .bool (decide (x_ ∈ l)) ∧ Ext w w') := by
  refine calls_of_go Try.func41 rfl (by show _ ≤ _; exact Nat.le_of_ble_eq_true rfl) (by kernel_rfl) _ (res1 rfl) ?_
  have hx : Ext w w := Ext.refl w
  refine go_seq ?_
  refine go_region ?_
  refine go_y (v := .bool false) (y_assign) rfl ?_
  refine go_ops_nil ?_
  refine go_seq ?_
  refine go_seq ?_
  refine go_region ?_
  refine go_y (v := .int .i64 0) (y_assign) rfl ?_
  refine go_ops_nil ?_
  refine go_block ?_
  refine go_loop (G := Nat) [4, 5, 6, 7, 8, 9, 10, 11, 12, 13, 14, 15, 16, 17] (fun g => [(5, .int .i64 (g : Int))]) (fun g w' => Ext w w' ∧ g ≤ (l).length ∧ (∀ j x, j < g → (l)[j]? = some x → (decide ((x : Int) = x_)) = false)) (fun g => (l).length - g) 0 ⟨rfl, trivial⟩ ⟨hx, (by omega), (by intro j x hj; omega)⟩ ?_
  clear hx
  intro g X2 w1 ⟨hx, hg, hbef⟩
  refine go_seq ?_
  refine go_seq ?_
  refine go_region ?_
  refine go_y (v := .int .i64 (g : Int)) (y_move) rfl ?_
  refine go_y (v := vl) (y_move) rfl ?_
  refine go_y (v := .int .i64 (l.length : Int)) (y_len_sl hl rfl ty_sl_23 _) rfl ?_
  refine go_test (c := ((g : Int) : Int) < (l.length : Int)) (y_lt rfl rfl) rfl (fun hc3 => ?_) (fun hc3 => ?_)
  · refine go_ops_nil ?_
    refine go_cond_true rfl ?_
    refine go_skip ?_
    refine go_seq ?_
    refine go_block ?_
    refine go_seq ?_
    refine go_region ?_
    refine go_y (v := vl) (y_move) rfl ?_
    refine go_y (v := .int .i64 (g : Int)) (y_move) rfl ?_
    obtain ⟨a4, ha5⟩ := el_some (l := l) (i := g) (by omega)
    obtain ⟨bb6, oo7, cc8, hv9, hc10⟩ := (hl.ext hx).at_ ha5
    refine go_y (v := .pointer (some ⟨bb6, oo7 + g * 1, none⟩)) (y_idxn g rfl hv9 rfl (by omega) ty_sl_23 (el_lt ha5)) rfl ?_
    refine go_y (v := .int .i64 a4) (y_load_el0 rfl hc10 ty_sc_3) rfl ?_
    refine go_y (v := .int .i64 x_) (y_move) rfl ?_
    refine go_test (c := (a4 : Int) = x_) (y_eq rfl rfl) rfl (fun hc11 => ?_) (fun hc11 => ?_)
    · refine go_ops_nil ?_
      refine go_cond_true rfl ?_
      refine go_seq ?_
      refine go_region ?_
      refine go_y (v := .bool true) (y_assign) rfl ?_
      refine go_ops_nil ?_
      refine go_ret ?_
      exact ⟨congrArg Value.bool (decide_eq_true (by have := List.mem_of_getElem? ha5; rw [hc11] at this; exact this)).symm, hx⟩
    · refine go_ops_nil ?_
      refine go_cond_false rfl ?_
      refine go_skip ?_
      refine go_blk ?_
      refine go_region ?_
      refine go_y (v := .int .i64 (g : Int)) (y_move) rfl ?_
      refine go_y (v := .int .i64 ((g : Int) + 1)) (y_add rfl rfl (by unfold in64; omega)) rfl ?_
      refine go_y (v := .int .i64 ((g : Int) + 1)) (y_assign) rfl ?_
      refine go_ops_nil ?_
      refine go_upto ⟨g + 1, ?_, ⟨ie (by omega), trivial⟩, ⟨hx, (by have := el_lt ha5; omega), (bef_step (p := fun x => decide ((x : Int) = x_)) hbef ha5 (by simpa using hc11))⟩, (by have := el_lt ha5; omega)⟩
      repeat (refine Agree.upd rfl ?_)
      exact Agree.updL rfl (Agree.havoc rfl (Agree.refl _ _))
  · refine go_ops_nil ?_
    refine go_cond_false rfl ?_
    refine go_exit rfl ?_
    refine go_seq ?_
    refine go_region ?_
    refine go_y (v := .bool false) (y_assign) rfl ?_
    refine go_ops_nil ?_
    refine go_ret ?_
    exact ⟨congrArg Value.bool (decide_eq_false (fun hm => by have := any_miss (p := fun z : Int => decide (z = x_)) hbef (by omega); rw [List.any_eq_false] at this; exact this x_ hm (by simp))).symm, hx⟩

set_option maxHeartbeats 4000000 in
set_option maxRecDepth 100000 in
theorem same_ret (va vb : Value) (la lb : List St) (w : World) (ha : SlR w 2 stc va la) (hb : SlR w 2 stc vb lb) (hla : la.length ≤ 9223372036854775806) (hlb : lb.length ≤ 9223372036854775806) : Ret Try.prog 16 [va, vb] w (fun v w' => v = .bool (decide (la = lb)) ∧ Ext w w') := by
  refine calls_of_go Try.func16 rfl (by show _ ≤ _; exact Nat.le_of_ble_eq_true rfl) (by kernel_rfl) _ (res1 rfl) ?_
  have hx : Ext w w := Ext.refl w
  refine go_seq ?_
  refine go_region ?_
  refine go_y (v := .bool false) (y_assign) rfl ?_
  refine go_ops_nil ?_
  refine go_seq ?_
  refine go_seq ?_
  refine go_region ?_
  refine go_y (v := va) (y_move) rfl ?_
  refine go_y (v := .int .i64 (la.length : Int)) (y_len_sl ha rfl ty_sl_35 _) rfl ?_
  refine go_y (v := vb) (y_move) rfl ?_
  refine go_y (v := .int .i64 (lb.length : Int)) (y_len_sl hb rfl ty_sl_35 _) rfl ?_
  refine go_test (c := ((la.length : Int) : Int) ≠ (lb.length : Int)) (y_ne rfl rfl) rfl (fun hc1 => ?_) (fun hc1 => ?_)
  · refine go_ops_nil ?_
    refine go_cond_true rfl ?_
    refine go_seq ?_
    refine go_region ?_
    refine go_y (v := .bool false) (y_assign) rfl ?_
    refine go_ops_nil ?_
    refine go_ret ?_
    exact ⟨congrArg Value.bool (decide_eq_false (fun e => by subst e; omega)).symm, hx⟩
  · refine go_ops_nil ?_
    refine go_cond_false rfl ?_
    refine go_skip ?_
    refine go_seq ?_
    refine go_seq ?_
    refine go_region ?_
    refine go_y (v := .int .i64 0) (y_assign) rfl ?_
    refine go_ops_nil ?_
    refine go_block ?_
    refine go_loop (G := Nat) [4, 5, 11, 12, 13, 14, 15, 16, 17, 18, 19, 20, 21, 22, 23, 24, 25] (fun g => [(5, .int .i64 (g : Int))]) (fun g w' => Ext w w' ∧ g ≤ la.length ∧ la.length = lb.length ∧ (∀ j, j < g → la[j]? = lb[j]?)) (fun g => la.length - g) 0 ⟨rfl, trivial⟩ ⟨hx, (by omega), (by omega), (by intro j hj; omega)⟩ ?_
    clear hx
    intro g X3 w2 ⟨hx, hg, heq, hbef⟩
    refine go_seq ?_
    refine go_seq ?_
    refine go_region ?_
    refine go_y (v := .int .i64 (g : Int)) (y_move) rfl ?_
    refine go_y (v := va) (y_move) rfl ?_
    refine go_y (v := .int .i64 (la.length : Int)) (y_len_sl ha rfl ty_sl_35 _) rfl ?_
    refine go_test (c := ((g : Int) : Int) < (la.length : Int)) (y_lt rfl rfl) rfl (fun hc4 => ?_) (fun hc4 => ?_)
    · refine go_ops_nil ?_
      refine go_cond_true rfl ?_
      refine go_skip ?_
      refine go_seq ?_
      refine go_block ?_
      refine go_seq ?_
      refine go_drawn mixed [3, 7] [] (.p 0 (.p 1 (.p 2 (.q 3 (.p 4 (.p 5 (.p 6 (.q 7 (.p 8 .done))))))))) (by kernel_rfl) ?_
      intro w5 hx6
      replace hx := hx.trans hx6
      refine go_dp (v := va) rfl (fun w' => y_move) rfl ?_
      refine go_dp (v := .int .i64 (g : Int)) rfl (fun w' => y_move) rfl ?_
      obtain ⟨a7, ha8⟩ := el_some (l := la) (i := g) (by omega)
      obtain ⟨bb9, oo10, cc11, hv12, hc13⟩ := (ha.ext hx).at_ ha8
      refine go_dp (v := .pointer (some ⟨bb9, oo10 + g * 2, none⟩)) rfl (fun w' => y_idxn g rfl hv12 rfl (by omega) ty_sl_35 (el_lt ha8)) rfl ?_
      refine go_dq (v := .agg #[.int .i64 a7.1, .int .i64 a7.2]) rfl (fun w' hw' => y_load_el rfl (hc13.ext hw') ty_ag_27 rfl) rfl ?_
      refine go_dp (v := vb) rfl (fun w' => y_move) rfl ?_
      refine go_dp (v := .int .i64 (g : Int)) rfl (fun w' => y_move) rfl ?_
      obtain ⟨a14, ha15⟩ := el_some (l := lb) (i := g) (by omega)
      obtain ⟨bb16, oo17, cc18, hv19, hc20⟩ := (hb.ext hx).at_ ha15
      refine go_dp (v := .pointer (some ⟨bb16, oo17 + g * 2, none⟩)) rfl (fun w' => y_idxn g rfl hv19 rfl (by omega) ty_sl_35 (el_lt ha15)) rfl ?_
      refine go_dq (v := .agg #[.int .i64 a14.1, .int .i64 a14.2]) rfl (fun w' hw' => y_load_el rfl (hc20.ext hw') ty_ag_27 rfl) rfl ?_
      refine go_dptest (c := ¬ (a7.1 = a14.1 ∧ a7.2 = a14.2)) rfl (fun w' => y_ne2 rfl rfl ty_e2_27) rfl (fun hc21 => ?_) (fun hc21 => ?_)
      · refine go_dops_done ?_
        refine go_cond_true rfl ?_
        refine go_seq ?_
        refine go_region ?_
        refine go_y (v := .bool false) (y_assign) rfl ?_
        refine go_ops_nil ?_
        refine go_ret ?_
        exact ⟨congrArg Value.bool (decide_eq_false (fun e => by subst e; have e1 := ha8; have e2 := ha15; rw [e1] at e2; cases e2; exact hc21 ⟨rfl, rfl⟩)).symm, hx⟩
      · refine go_dops_done ?_
        refine go_cond_false rfl ?_
        refine go_skip ?_
        refine go_blk ?_
        refine go_region ?_
        refine go_y (v := .int .i64 (g : Int)) (y_move) rfl ?_
        refine go_y (v := .int .i64 ((g : Int) + 1)) (y_add rfl rfl (by unfold in64; omega)) rfl ?_
        refine go_y (v := .int .i64 ((g : Int) + 1)) (y_assign) rfl ?_
        refine go_ops_nil ?_
        refine go_upto ⟨g + 1, ?_, ⟨ie (by omega), trivial⟩, ⟨hx, (by omega), heq, (same_step hbef ha8 ha15 (Decidable.not_not.1 hc21))⟩, (by omega)⟩
        repeat (refine Agree.upd rfl ?_)
        exact Agree.updL rfl (Agree.havoc rfl (Agree.refl _ _))
    · refine go_ops_nil ?_
      refine go_cond_false rfl ?_
      refine go_exit rfl ?_
      refine go_seq ?_
      refine go_region ?_
      refine go_y (v := .bool true) (y_assign) rfl ?_
      refine go_ops_nil ?_
      refine go_ret ?_
      exact ⟨congrArg Value.bool (decide_eq_true (same_all hbef heq (by omega))).symm, hx⟩

set_option maxHeartbeats 4000000 in
set_option maxRecDepth 100000 in
theorem allowed_ret (u : U) (aw : List Int) (hour kind : Int) (w : World) (hl : SlR w 1 ic u.away aw) (hlen : aw.length ≤ 9223372036854775806) : Ret Try.prog 39 [.agg u.cells, .int .i64 hour, .int .i64 kind] w (fun v w' => v = .bool (allowF aw hour kind) ∧ Ext w w') := by
  refine calls_of_go Try.func39 rfl (by show _ ≤ _; exact Nat.le_of_ble_eq_true rfl) (by kernel_rfl) _ (res1 rfl) ?_
  have hx : Ext w w := Ext.refl w
  refine go_seq ?_
  refine go_region ?_
  refine go_box (.agg u.cells) u.cells rfl rfl rfl ?_
  intro w1 b2 hx3 hn4 hb5
  replace hn4 := Nat.le_trans hx.size hn4
  replace hx := hx.trans hx3
  refine go_y (v := .bool false) (y_assign) rfl ?_
  refine go_ops_nil ?_
  refine go_seq ?_
  refine go_region ?_
  refine go_y (v := .int .i64 kind) (y_move) rfl ?_
  refine go_test (c := (kind : Int) = 0) (y_eq rfl rfl) rfl (fun hc6 => ?_) (fun hc6 => ?_)
  · refine go_y (v := .bool true) (y_move) rfl ?_
    refine go_off (off_of (t := 9) (b' := true) rfl rfl rfl) ?_
    refine go_off (off_of (t := 9) (b' := true) rfl rfl rfl) ?_
    refine go_off (off_of (t := 9) (b' := true) rfl rfl rfl) ?_
    refine go_off (off_undef (t := 12) rfl rfl) ?_
    refine go_off (off_undef (t := 12) rfl rfl) ?_
    refine go_off (off_of (t := 9) (b' := true) rfl rfl rfl) ?_
    refine go_off (off_of (t := 9) (b' := true) rfl rfl rfl) ?_
    refine go_off (off_undef (t := 16) rfl rfl) ?_
    refine go_off (off_undef (t := 16) rfl rfl) ?_
    refine go_off (off_undef (t := 16) rfl rfl) ?_
    refine go_off (off_undef (t := 16) rfl rfl) ?_
    refine go_off (off_undef (t := 16) rfl rfl) ?_
    refine go_off (off_of (t := 9) (b' := true) rfl rfl rfl) ?_
    refine go_y (v := .bool true) (y_pick_t rfl) rfl ?_
    refine go_y (v := .bool true) (y_assign) rfl ?_
    refine go_ops_nil ?_
    refine go_ret ?_
    exact ⟨congrArg Value.bool (decide_eq_true (by omega)).symm, hx⟩
  · refine go_y (v := .bool false) (y_move) rfl ?_
    refine go_y (v := .int .i64 kind) (y_move) (on_of (t := 9) rfl rfl) ?_
    refine go_test (c := (kind : Int) = 1) (y_eq rfl rfl) (on_of (t := 9) rfl rfl) (fun hc7 => ?_) (fun hc7 => ?_)
    · refine go_y (v := .bool true) (y_move) (on_of (t := 9) rfl rfl) ?_
      refine go_off (off_of (t := 12) (b' := true) rfl rfl rfl) ?_
      refine go_off (off_of (t := 12) (b' := true) rfl rfl rfl) ?_
      refine go_y (v := .bool true) (y_pick_t rfl) (on_of (t := 9) rfl rfl) ?_
      refine go_y (v := .bool true) (y_move) (on_of (t := 9) rfl rfl) ?_
      refine go_y (v := .pointer (some ⟨b2, 18, none⟩)) (y_fieldAddr rfl ty_fl_25_18) (on_of (t := 16) rfl rfl) ?_
      refine go_y (v := u.away) (y_load_fld rfl hb5 ty_sc_23 rfl) (on_of (t := 16) rfl rfl) ?_
      refine go_y (v := .int .i64 hour) (y_move) (on_of (t := 16) rfl rfl) ?_
      refine go_c (enters_func ty_en_41 rfl) (in_ret u.away aw hour _ (hl.ext hx) hlen) (on_of (t := 16) rfl rfl) ?_
      rintro _ w8 ⟨rfl, hx9⟩
      replace hb5 := hb5.ext hx9
      replace hx := hx.trans hx9
      cases hin : decide (hour ∈ aw)
      · refine go_y (v := .bool true) (y_not_f rfl) (on_of (t := 16) rfl rfl) ?_
        refine go_y (v := .bool true) (y_pick_t rfl) (on_of (t := 9) rfl rfl) ?_
        refine go_y (v := .bool true) (y_pick_f rfl) rfl ?_
        refine go_y (v := .bool true) (y_assign) rfl ?_
        refine go_ops_nil ?_
        refine go_ret ?_
        exact ⟨congrArg Value.bool (decide_eq_true (by have h_in := of_decide_eq_false hin; simp_all)).symm, hx⟩
      · refine go_y (v := .bool false) (y_not_t rfl) (on_of (t := 16) rfl rfl) ?_
        refine go_y (v := .bool false) (y_pick_t rfl) (on_of (t := 9) rfl rfl) ?_
        refine go_y (v := .bool false) (y_pick_f rfl) rfl ?_
        refine go_y (v := .bool false) (y_assign) rfl ?_
        refine go_ops_nil ?_
        refine go_ret ?_
        exact ⟨congrArg Value.bool (decide_eq_false (by have h_in := of_decide_eq_true hin; simp_all)).symm, hx⟩
    · refine go_y (v := .bool false) (y_move) (on_of (t := 9) rfl rfl) ?_
      refine go_y (v := .int .i64 kind) (y_move) (on_of (t := 12) rfl rfl) ?_
      refine go_test (c := (kind : Int) = 2) (y_eq rfl rfl) (on_of (t := 12) rfl rfl) (fun hc8 => ?_) (fun hc8 => ?_)
      · refine go_y (v := .bool true) (y_pick_f rfl) (on_of (t := 9) rfl rfl) ?_
        refine go_y (v := .bool true) (y_move) (on_of (t := 9) rfl rfl) ?_
        refine go_y (v := .pointer (some ⟨b2, 18, none⟩)) (y_fieldAddr rfl ty_fl_25_18) (on_of (t := 16) rfl rfl) ?_
        refine go_y (v := u.away) (y_load_fld rfl hb5 ty_sc_23 rfl) (on_of (t := 16) rfl rfl) ?_
        refine go_y (v := .int .i64 hour) (y_move) (on_of (t := 16) rfl rfl) ?_
        refine go_c (enters_func ty_en_41 rfl) (in_ret u.away aw hour _ (hl.ext hx) hlen) (on_of (t := 16) rfl rfl) ?_
        rintro _ w9 ⟨rfl, hx10⟩
        replace hb5 := hb5.ext hx10
        replace hx := hx.trans hx10
        cases hin : decide (hour ∈ aw)
        · refine go_y (v := .bool true) (y_not_f rfl) (on_of (t := 16) rfl rfl) ?_
          refine go_y (v := .bool true) (y_pick_t rfl) (on_of (t := 9) rfl rfl) ?_
          refine go_y (v := .bool true) (y_pick_f rfl) rfl ?_
          refine go_y (v := .bool true) (y_assign) rfl ?_
          refine go_ops_nil ?_
          refine go_ret ?_
          exact ⟨congrArg Value.bool (decide_eq_true (by have h_in := of_decide_eq_false hin; simp_all)).symm, hx⟩
        · refine go_y (v := .bool false) (y_not_t rfl) (on_of (t := 16) rfl rfl) ?_
          refine go_y (v := .bool false) (y_pick_t rfl) (on_of (t := 9) rfl rfl) ?_
          refine go_y (v := .bool false) (y_pick_f rfl) rfl ?_
          refine go_y (v := .bool false) (y_assign) rfl ?_
          refine go_ops_nil ?_
          refine go_ret ?_
          exact ⟨congrArg Value.bool (decide_eq_false (by have h_in := of_decide_eq_true hin; simp_all)).symm, hx⟩
      · refine go_y (v := .bool false) (y_pick_f rfl) (on_of (t := 9) rfl rfl) ?_
        refine go_y (v := .bool false) (y_move) (on_of (t := 9) rfl rfl) ?_
        refine go_off (off_of (t := 16) (b' := false) rfl rfl rfl) ?_
        refine go_off (off_of (t := 16) (b' := false) rfl rfl rfl) ?_
        refine go_off (off_of (t := 16) (b' := false) rfl rfl rfl) ?_
        refine go_off (off_of (t := 16) (b' := false) rfl rfl rfl) ?_
        refine go_off (off_of (t := 16) (b' := false) rfl rfl rfl) ?_
        refine go_y (v := .bool false) (y_pick_f rfl) (on_of (t := 9) rfl rfl) ?_
        refine go_y (v := .bool false) (y_pick_f rfl) rfl ?_
        refine go_y (v := .bool false) (y_assign) rfl ?_
        refine go_ops_nil ?_
        refine go_ret ?_
        exact ⟨congrArg Value.bool (decide_eq_false (by omega)).symm, hx⟩
end Go.Proofs.Ytedfiemhfpcggaa
