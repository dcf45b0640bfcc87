/- The law AutomatonTimes, walked. -/
import Derived.Test.YtedfiemhfpcggaaW6
import Derived.Test.YtedfiemhfpcggaaData6
namespace Go.Proofs.Ytedfiemhfpcggaa
open Go.Gw Go.RowKit
theorem near_ret2 (u : U) (aw : List Int) (hok : u.ok) (w : World) (hl : SlR w 1 ic u.away aw) (hlen : aw.length ≤ 9223372036854775806) : Ret Try.prog 25 [.agg u.cells] w (fun v w' => (∃ (u2 : U) (aw2 : List Int), v = .agg u2.cells ∧ u2.ok ∧ soundB u2 = true ∧ SlR w' 1 ic u2.away aw2 ∧ aw2.length ≤ 40 ∧ Frs w.heap.size u2.away ∧ u2.hc = u.hc ∧ u2.cc = u.cc) ∧ Ext w w') :=
  Ret.mono (near_ret u aw hok w hl hlen) (fun v w' h => by
    obtain ⟨⟨av, hv, hs, hf⟩, hx⟩ := h
    exact ⟨⟨nearU u av, nearA aw, hv, near_ok hok hs, near_sound u av, hs, near_len aw, hf, rfl, rfl⟩, hx⟩)

set_option maxHeartbeats 4000000 in
set_option maxRecDepth 100000 in
theorem times_law (u : U) (aw kinds : List Int) (vk : Value) (hok : u.ok) (w : World) (hl : SlR w 1 ic u.away aw) (hk : SlR w 1 ic vk kinds) : Ret Try.prog 5 [.agg u.cells, vk] w (fun v w' => v = .bool true ∧ Ext w w') := by
  refine calls_of_go Try.func5 rfl (by show _ ≤ _; exact Nat.le_of_ble_eq_true rfl) (by kernel_rfl) _ (res1 rfl) ?_
  have hx : Ext w w := Ext.refl w
  refine go_seq ?_
  refine go_region ?_
  refine go_box (.agg u.cells) u.cells rfl rfl rfl ?_
  intro w1 b2 hx3 hn4 hb5
  replace hn4 := Nat.le_trans hx.size hn4
  replace hx := hx.trans hx3
  refine go_y (v := .bool false) (y_assign) rfl ?_
  refine go_ops_nil ?_
  refine go_seq ?_
  refine go_seq ?_
  refine go_region ?_
  refine go_y (v := .pointer (some ⟨b2, 18, none⟩)) (y_fieldAddr rfl ty_fl_25_18) rfl ?_
  refine go_y (v := u.away) (y_load_fld rfl hb5 ty_sc_23 rfl) rfl ?_
  refine go_y (v := .int .i64 (aw.length : Int)) (y_len_sl hl rfl ty_sl_23 _) rfl ?_
  refine go_test (c := (40 : Int) < (aw.length : Int)) (y_gt rfl rfl) rfl (fun hc6 => ?_) (fun hc6 => ?_)
  · refine go_y (v := .bool true) (y_move) rfl ?_
    refine go_off (off_of (t := 15) (b' := true) rfl rfl rfl) ?_
    refine go_off (off_of (t := 15) (b' := true) rfl rfl rfl) ?_
    refine go_off (off_of (t := 15) (b' := true) rfl rfl rfl) ?_
    refine go_y (v := .bool true) (y_pick_t rfl) rfl ?_
    refine go_ops_nil ?_
    refine go_cond_true rfl ?_
    refine go_seq ?_
    refine go_region ?_
    refine go_y (v := .bool true) (y_assign) rfl ?_
    refine go_ops_nil ?_
    refine go_ret ?_
    exact ⟨rfl, hx⟩
  · refine go_y (v := .bool false) (y_move) rfl ?_
    refine go_y (v := vk) (y_move) (on_of (t := 15) rfl rfl) ?_
    refine go_y (v := .int .i64 (kinds.length : Int)) (y_len_sl hk rfl ty_sl_23 _) (on_of (t := 15) rfl rfl) ?_
    refine go_test (c := (30 : Int) < (kinds.length : Int)) (y_gt rfl rfl) (on_of (t := 15) rfl rfl) (fun hc7 => ?_) (fun hc7 => ?_)
    · refine go_y (v := .bool true) (y_pick_f rfl) rfl ?_
      refine go_ops_nil ?_
      refine go_cond_true rfl ?_
      refine go_seq ?_
      refine go_region ?_
      refine go_y (v := .bool true) (y_assign) rfl ?_
      refine go_ops_nil ?_
      refine go_ret ?_
      exact ⟨rfl, hx⟩
    · refine go_y (v := .bool false) (y_pick_f rfl) rfl ?_
      refine go_ops_nil ?_
      refine go_cond_false rfl ?_
      refine go_skip ?_
      refine go_seq ?_
      refine go_region ?_
      refine go_y (v := .agg u.cells) (y_load_blk rfl hb5 ty_ag_25 rfl) rfl ?_
      have hlt8 := hb5.lt
      refine go_c (enters_func ty_en_25 rfl) (near_ret2 u aw hok _ (hl.ext hx) (by omega)) rfl ?_
      rintro _ w10 ⟨⟨u2, aw2, rfl, hok2, hs_u2, hsa9, hlen2, hfr2, hhc2, hcc2⟩, hx11⟩
      replace hb5 := hb5.ext hx11
      replace hx := hx.trans hx11
      have hd12 : ∀ g, Value.ownBlock u2.away = some g → g ≠ b2 := fun g hg => by have := hfr2 g hg; omega
      have hok2_ := hok2
      obtain ⟨ok1, ok2, ok3, ok4, ok5, ok6, ok7, ok8, ok9, ok10, ok11, ok12, ok13, ok14⟩ := hok2
      have hsd_u2 := sound_spec hs_u2
      have hcb_u2 := cap_bd hs_u2
      refine go_store u2.cells.toList u2.cells rfl rfl rfl ty_sz_25 rfl hb5 (by show _ ≤ _; exact Nat.le_of_ble_eq_true rfl) (by repeat (first | exact one_nil | refine one_cons (by first | rfl | assumption) ?_)) (by kernel_rfl) rfl ?_
      intro w13 hch14 hb5'
      replace hsa9 := hsa9.chg hch14 hd12
      replace hx := hx.chg hch14 hn4
      replace hb5 := hb5'
      refine go_ops_nil ?_
      refine go_seq ?_
      refine go_region ?_
      refine go_y (v := .agg u2.cells) (y_load_blk rfl hb5 ty_ag_25 rfl) rfl ?_
      refine go_y (v := vk) (y_move) rfl ?_
      refine go_c (enters_func ty_en_26 rfl) (walk_ret u2 aw2 kinds hs_u2 vk _ hsa9 (by omega) (hk.ext hx) (by omega)) rfl ?_
      rintro v w15 ⟨hwp17, hx16⟩
      replace hb5 := hb5.ext hx16
      replace hsa9 := hsa9.ext hx16
      replace hx := hx.trans hx16
      rcases hwp17 with ⟨g0, p0, hg0, hr0, hn0, rfl⟩ | ⟨p0, vs0, hr0, rfl, hs0⟩
      · refine go_y (v := .tuple #[.slice none 0 0, .int .i64 (g0 : Int), .int .i64 16]) (y_move) rfl ?_
        refine go_y (v := .slice none 0 0) (y_extract rfl rfl) rfl ?_
        refine go_y (v := .int .i64 (g0 : Int)) (y_extract rfl rfl) rfl ?_
        refine go_y (v := .int .i64 16) (y_extract rfl rfl) rfl ?_
        refine go_y (v := .slice none 0 0) (y_assign) rfl ?_
        refine go_y (v := .int .i64 (g0 : Int)) (y_assign) rfl ?_
        refine go_y (v := .int .i64 16) (y_assign) rfl ?_
        refine go_ops_nil ?_
        refine go_seq ?_
        refine go_seq ?_
        refine go_region ?_
        refine go_c (enters_func ty_en_11 rfl) (awake_ret _) rfl ?_
        rintro _ w18 ⟨rfl, hx19⟩
        replace hb5 := hb5.ext hx19
        replace hsa9 := hsa9.ext hx19
        replace hx := hx.trans hx19
        refine go_y (v := .bool false) (y_not_t rfl) rfl ?_
        refine go_y (v := .bool false) (y_move) rfl ?_
        refine go_y (v := .int .i64 16) (y_move) (on_of (t := 31) rfl rfl) ?_
        refine go_y (v := .bool false) (y_dec_f (c := (16 : Int) = 0) (y_eq rfl rfl) (by decide)) (on_of (t := 31) rfl rfl) ?_
        refine go_y (v := .bool false) (y_move) (on_of (t := 31) rfl rfl) ?_
        refine go_off (off_of (t := 34) (b' := false) rfl rfl rfl) ?_
        refine go_off (off_of (t := 34) (b' := false) rfl rfl rfl) ?_
        refine go_off (off_of (t := 34) (b' := false) rfl rfl rfl) ?_
        refine go_off (off_of (t := 34) (b' := false) rfl rfl rfl) ?_
        refine go_off (off_of (t := 34) (b' := false) rfl rfl rfl) ?_
        refine go_off (off_of (t := 34) (b' := false) rfl rfl rfl) ?_
        refine go_off (off_undef (t := 40) rfl rfl) ?_
        refine go_off (off_undef (t := 40) rfl rfl) ?_
        refine go_off (off_undef (t := 40) rfl rfl) ?_
        refine go_off (off_undef (t := 40) rfl rfl) ?_
        refine go_off (off_of (t := 34) (b' := false) rfl rfl rfl) ?_
        refine go_y (v := .bool false) (y_pick_f rfl) (on_of (t := 31) rfl rfl) ?_
        refine go_y (v := .bool false) (y_pick_f rfl) rfl ?_
        refine go_ops_nil ?_
        refine go_cond_false rfl ?_
        refine go_skip ?_
        refine go_seq ?_
        refine go_seq ?_
        refine go_region ?_
        refine go_y (v := .int .i64 16) (y_move) rfl ?_
        refine go_y (v := .bool true) (y_dec_t (c := (16 : Int) ≠ 0) (y_ne rfl rfl) (by decide)) rfl ?_
        refine go_ops_nil ?_
        refine go_cond_true rfl ?_
        refine go_seq ?_
        refine go_region ?_
        refine go_y (v := .int .i64 16) (y_move) rfl ?_
        refine go_y (v := .bool true) (y_dec_t (c := (16 : Int) = 16) (y_eq rfl rfl) (by decide)) rfl ?_
        refine go_y (v := .bool true) (y_move) rfl ?_
        refine go_y (v := .int .i64 (g0 : Int)) (y_move) (on_of (t := 52) rfl rfl) ?_
        refine go_test (c := (0 : Int) ≤ (g0 : Int)) (y_ge rfl rfl) (on_of (t := 52) rfl rfl) (fun hc20 => ?_) (fun hc20 => ?_)
        · refine go_y (v := .bool true) (y_pick_t rfl) rfl ?_
          refine go_y (v := .bool true) (y_move) rfl ?_
          refine go_y (v := .int .i64 (g0 : Int)) (y_move) (on_of (t := 56) rfl rfl) ?_
          refine go_y (v := vk) (y_move) (on_of (t := 56) rfl rfl) ?_
          refine go_y (v := .int .i64 (kinds.length : Int)) (y_len_sl hk rfl ty_sl_23 _) (on_of (t := 56) rfl rfl) ?_
          refine go_test (c := ((g0 : Int) : Int) < (kinds.length : Int)) (y_lt rfl rfl) (on_of (t := 56) rfl rfl) (fun hc21 => ?_) (fun hc21 => ?_)
          · refine go_y (v := .bool true) (y_pick_t rfl) rfl ?_
            refine go_y (v := .bool true) (y_assign) rfl ?_
            refine go_ops_nil ?_
            refine go_ret ?_
            exact ⟨rfl, hx⟩
          · refine go_y (v := .bool false) (y_pick_t rfl) rfl ?_
            refine go_y (v := .bool false) (y_assign) rfl ?_
            refine go_ops_nil ?_
            refine go_ret ?_
            exfalso; omega
        · refine go_y (v := .bool false) (y_pick_t rfl) rfl ?_
          refine go_y (v := .bool false) (y_move) rfl ?_
          refine go_off (off_of (t := 56) (b' := false) rfl rfl rfl) ?_
          refine go_off (off_of (t := 56) (b' := false) rfl rfl rfl) ?_
          refine go_off (off_of (t := 56) (b' := false) rfl rfl rfl) ?_
          refine go_off (off_of (t := 56) (b' := false) rfl rfl rfl) ?_
          refine go_y (v := .bool false) (y_pick_f rfl) rfl ?_
          refine go_y (v := .bool false) (y_assign) rfl ?_
          refine go_ops_nil ?_
          refine go_ret ?_
          exfalso; omega
      · have hpl := run_len hr0
        have hall : (runTo u2 aw2 kinds (kinds).length).isSome = true := by rw [hr0]; rfl
        refine go_y (v := .tuple #[vs0, .int .i64 ((kinds).length : Int), .int .i64 0]) (y_move) rfl ?_
        refine go_y (v := vs0) (y_extract rfl rfl) rfl ?_
        refine go_y (v := .int .i64 ((kinds).length : Int)) (y_extract rfl rfl) rfl ?_
        refine go_y (v := .int .i64 0) (y_extract rfl rfl) rfl ?_
        refine go_y (v := vs0) (y_assign) rfl ?_
        refine go_y (v := .int .i64 ((kinds).length : Int)) (y_assign) rfl ?_
        refine go_y (v := .int .i64 0) (y_assign) rfl ?_
        refine go_ops_nil ?_
        refine go_seq ?_
        refine go_seq ?_
        refine go_region ?_
        refine go_c (enters_func ty_en_11 rfl) (awake_ret _) rfl ?_
        rintro _ w18 ⟨rfl, hx19⟩
        replace hb5 := hb5.ext hx19
        replace hsa9 := hsa9.ext hx19
        replace hs0 := hs0.ext hx19
        replace hx := hx.trans hx19
        refine go_y (v := .bool false) (y_not_t rfl) rfl ?_
        refine go_y (v := .bool false) (y_move) rfl ?_
        refine go_y (v := .int .i64 0) (y_move) (on_of (t := 31) rfl rfl) ?_
        refine go_y (v := .bool true) (y_dec_t (c := (0 : Int) = 0) (y_eq rfl rfl) (by decide)) (on_of (t := 31) rfl rfl) ?_
        refine go_y (v := .bool true) (y_move) (on_of (t := 31) rfl rfl) ?_
        refine go_y (v := vs0) (y_move) (on_of (t := 34) rfl rfl) ?_
        refine go_y (v := .int .i64 (p0.1.length : Int)) (y_len_sl hs0 rfl ty_sl_35 _) (on_of (t := 34) rfl rfl) ?_
        refine go_y (v := vk) (y_move) (on_of (t := 34) rfl rfl) ?_
        refine go_y (v := .int .i64 (kinds.length : Int)) (y_len_sl hk rfl ty_sl_23 _) (on_of (t := 34) rfl rfl) ?_
        refine go_y (v := .bool false) (y_dec_f (c := ((p0.1.length : Int) : Int) ≠ (kinds.length : Int)) (y_ne rfl rfl) (by omega)) (on_of (t := 34) rfl rfl) ?_
        refine go_y (v := .bool false) (y_move) (on_of (t := 34) rfl rfl) ?_
        refine go_y (v := .int .i64 ((kinds).length : Int)) (y_move) (on_of (t := 40) rfl rfl) ?_
        refine go_y (v := vk) (y_move) (on_of (t := 40) rfl rfl) ?_
        refine go_y (v := .int .i64 (kinds.length : Int)) (y_len_sl hk rfl ty_sl_23 _) (on_of (t := 40) rfl rfl) ?_
        refine go_test (c := (((kinds).length : Int) : Int) ≠ (kinds.length : Int)) (y_ne rfl rfl) (on_of (t := 40) rfl rfl) (fun hc20 => ?_) (fun hc20 => ?_)
        · refine go_y (v := .bool true) (y_pick_f rfl) (on_of (t := 34) rfl rfl) ?_
          refine go_y (v := .bool true) (y_pick_t rfl) (on_of (t := 31) rfl rfl) ?_
          refine go_y (v := .bool true) (y_pick_f rfl) rfl ?_
          refine go_ops_nil ?_
          refine go_cond_true rfl ?_
          refine go_seq ?_
          refine go_region ?_
          refine go_y (v := .bool false) (y_assign) rfl ?_
          refine go_ops_nil ?_
          refine go_ret ?_
          exfalso; omega
        · refine go_y (v := .bool false) (y_pick_f rfl) (on_of (t := 34) rfl rfl) ?_
          refine go_y (v := .bool false) (y_pick_t rfl) (on_of (t := 31) rfl rfl) ?_
          refine go_y (v := .bool false) (y_pick_f rfl) rfl ?_
          refine go_ops_nil ?_
          refine go_cond_false rfl ?_
          refine go_skip ?_
          refine go_seq ?_
          refine go_seq ?_
          refine go_region ?_
          refine go_y (v := .int .i64 0) (y_move) rfl ?_
          refine go_y (v := .bool false) (y_dec_f (c := (0 : Int) ≠ 0) (y_ne rfl rfl) (by decide)) rfl ?_
          refine go_ops_nil ?_
          refine go_cond_false rfl ?_
          refine go_skip ?_
          refine go_seq ?_
          refine go_drawn mixed [1, 3] [] (.p 0 (.q 1 (.p 2 (.q 3 (.p 4 (.p 5 .done)))))) (by kernel_rfl) ?_
          intro w21 hx22
          replace hb5 := hb5.ext hx22
          replace hsa9 := hsa9.ext hx22
          replace hs0 := hs0.ext hx22
          replace hx := hx.trans hx22
          refine go_dp (v := .pointer (some ⟨b2, 19, none⟩)) rfl (fun w' => y_fieldAddr rfl ty_fl_25_19) rfl ?_
          refine go_dq (v := .int .i64 u2.state) rfl (fun w' hw' => y_load_fld rfl (hb5.ext hw') ty_sc_3 rfl) rfl ?_
          refine go_dp (v := .pointer (some ⟨b2, 20, none⟩)) rfl (fun w' => y_fieldAddr rfl ty_fl_25_20) rfl ?_
          refine go_dq (v := .int .i64 u2.hours) rfl (fun w' hw' => y_load_fld rfl (hb5.ext hw') ty_sc_3 rfl) rfl ?_
          refine go_dp (v := .int .i64 u2.state) rfl (fun w' => y_assign) rfl ?_
          refine go_dp (v := .int .i64 u2.hours) rfl (fun w' => y_assign) rfl ?_
          refine go_dops_done ?_
          refine go_seq ?_
          refine go_seq ?_
          refine go_region ?_
          refine go_y (v := .int .i64 0) (y_assign) rfl ?_
          refine go_ops_nil ?_
          refine go_block ?_
          refine go_loop3 (G := Nat ) (H := Int ) (L := Int) [4, 8, 9, 10, 66, 67, 68, 69, 70, 71, 72, 73, 74, 75, 76, 77, 78, 79, 80, 81, 82, 83, 84, 85, 86, 87, 88, 89, 90, 91, 92, 93, 94, 95, 96, 97, 98, 99, 100, 101, 102, 103, 104, 105, 106, 107, 108, 109, 110, 111, 112, 113, 114, 115, 116, 117, 118, 119, 120, 121, 122, 123, 124, 125, 126, 127, 128, 129, 130, 131, 132, 133, 134, 135, 136, 137, 138, 139, 140, 141, 142, 143, 144, 145, 146, 147, 148, 149, 150, 151, 152, 153, 154, 155, 156] (fun g kind run_ => [(10, .int .i64 (g : Int)), (8, .int .i64 kind), (9, .int .i64 run_)]) (fun g kind run_ w' => Ext w w' ∧ Blk w' b2 u2.cells 25 ∧ SlR w' 1 ic u2.away aw2 ∧ SlR w' 2 stc vs0 p0.1 ∧ g ≤ kinds.length ∧ RelAt u2 aw2 kinds g kind run_ ∧ run_ ≤ 48 + g) (fun g kind run_ => kinds.length - g) 0 u2.state u2.hours ⟨rfl, rfl, rfl, trivial⟩ ⟨hx, hb5, hsa9, hs0, (by omega), (rel_init hs_u2 aw2 kinds), (by omega)⟩ ?_
          clear hx hb5 hsa9 hs0
          intro g kind run_ X24 w23 ⟨hx, hb5, hsa9, hs0, hg, hrel, hrb⟩
          refine go_seq ?_
          refine go_seq ?_
          refine go_region ?_
          refine go_y (v := .int .i64 (g : Int)) (y_move) rfl ?_
          refine go_y (v := vk) (y_move) rfl ?_
          refine go_y (v := .int .i64 (kinds.length : Int)) (y_len_sl hk rfl ty_sl_23 _) rfl ?_
          refine go_test (c := ((g : Int) : Int) < (kinds.length : Int)) (y_lt rfl rfl) rfl (fun hc25 => ?_) (fun hc25 => ?_)
          · refine go_ops_nil ?_
            refine go_cond_true rfl ?_
            refine go_skip ?_
            refine go_seq ?_
            refine go_block ?_
            refine go_seq ?_
            refine go_seq ?_
            refine go_region ?_
            refine go_y (v := vk) (y_move) rfl ?_
            refine go_y (v := .int .i64 (g : Int)) (y_move) rfl ?_
            obtain ⟨a26, ha27⟩ := el_some (l := kinds) (i := g) (by omega)
            obtain ⟨hst, hsame, hother⟩ := relAt_step hs_u2 hall hrel ha27
            obtain ⟨bb28, oo29, cc30, hv31, hc32⟩ := (hk.ext hx).at_ ha27
            refine go_y (v := .pointer (some ⟨bb28, oo29 + g * 1, none⟩)) (y_idxn g rfl hv31 rfl (by omega) ty_sl_23 (el_lt ha27)) rfl ?_
            refine go_y (v := .int .i64 a26) (y_load_el0 rfl hc32 ty_sc_3) rfl ?_
            refine go_y (v := .int .i64 kind) (y_move) rfl ?_
            refine go_test (c := (a26 : Int) = kind) (y_eq rfl rfl) rfl (fun hc33 => ?_) (fun hc33 => ?_)
            · refine go_ops_nil ?_
              refine go_cond_true rfl ?_
              refine go_seq ?_
              refine go_region ?_
              refine go_y (v := .int .i64 run_) (y_move) rfl ?_
              refine go_y (v := .int .i64 (run_ + 1)) (y_add rfl rfl (by unfold in64; omega)) rfl ?_
              refine go_y (v := .int .i64 (run_ + 1)) (y_assign) rfl ?_
              refine go_ops_nil ?_
              refine go_seq ?_
              refine go_seq ?_
              refine go_region ?_
              refine go_y (v := .int .i64 kind) (y_move) rfl ?_
              refine go_test (c := (kind : Int) = 1) (y_eq rfl rfl) rfl (fun hc34 => ?_) (fun hc34 => ?_)
              · refine go_y (v := .bool true) (y_move) rfl ?_
                refine go_y (v := .int .i64 (run_ + 1)) (y_move) (on_of (t := 82) rfl rfl) ?_
                refine go_y (v := .pointer (some ⟨b2, 12, none⟩)) (y_fieldAddr rfl ty_fl_25_12) (on_of (t := 82) rfl rfl) ?_
                refine go_y (v := .int .i64 u2.st) (y_load_fld rfl hb5 ty_sc_3 rfl) (on_of (t := 82) rfl rfl) ?_
                refine go_test (c := (u2.st : Int) < (run_ + 1)) (y_gt rfl rfl) (on_of (t := 82) rfl rfl) (fun hc35 => ?_) (fun hc35 => ?_)
                · refine go_y (v := .bool true) (y_pick_t rfl) rfl ?_
                  refine go_ops_nil ?_
                  refine go_cond_true rfl ?_
                  refine go_seq ?_
                  refine go_region ?_
                  refine go_y (v := .bool false) (y_assign) rfl ?_
                  refine go_ops_nil ?_
                  refine go_ret ?_
                  exfalso; omega
                · refine go_y (v := .bool false) (y_pick_t rfl) rfl ?_
                  refine go_ops_nil ?_
                  refine go_cond_false rfl ?_
                  refine go_skip ?_
                  refine go_exit rfl ?_
                  refine go_region ?_
                  refine go_y (v := .int .i64 (g : Int)) (y_move) rfl ?_
                  refine go_y (v := .int .i64 ((g : Int) + 1)) (y_add rfl rfl (by unfold in64; omega)) rfl ?_
                  refine go_y (v := .int .i64 ((g : Int) + 1)) (y_assign) rfl ?_
                  refine go_ops_nil ?_
                  refine go_upto ⟨g + 1, kind, run_ + 1, ?_, ⟨ie (by omega), ie (by omega), ie (by omega), trivial⟩, ⟨hx, hb5, hsa9, hs0, (by omega), (hsame hc33), (by omega)⟩, (by omega)⟩
                  repeat (refine Agree.upd rfl ?_)
                  exact Agree.updL rfl (Agree.havoc rfl (Agree.refl _ _))
              · refine go_y (v := .bool false) (y_move) rfl ?_
                refine go_off (off_of (t := 82) (b' := false) rfl rfl rfl) ?_
                refine go_off (off_of (t := 82) (b' := false) rfl rfl rfl) ?_
                refine go_off (off_of (t := 82) (b' := false) rfl rfl rfl) ?_
                refine go_off (off_of (t := 82) (b' := false) rfl rfl rfl) ?_
                refine go_y (v := .bool false) (y_pick_f rfl) rfl ?_
                refine go_ops_nil ?_
                refine go_cond_false rfl ?_
                refine go_skip ?_
                refine go_exit rfl ?_
                refine go_region ?_
                refine go_y (v := .int .i64 (g : Int)) (y_move) rfl ?_
                refine go_y (v := .int .i64 ((g : Int) + 1)) (y_add rfl rfl (by unfold in64; omega)) rfl ?_
                refine go_y (v := .int .i64 ((g : Int) + 1)) (y_assign) rfl ?_
                refine go_ops_nil ?_
                refine go_upto ⟨g + 1, kind, run_ + 1, ?_, ⟨ie (by omega), ie (by omega), ie (by omega), trivial⟩, ⟨hx, hb5, hsa9, hs0, (by omega), (hsame hc33), (by omega)⟩, (by omega)⟩
                repeat (refine Agree.upd rfl ?_)
                exact Agree.updL rfl (Agree.havoc rfl (Agree.refl _ _))
            · refine go_ops_nil ?_
              refine go_cond_false rfl ?_
              refine go_skip ?_
              refine go_seq ?_
              refine go_block ?_
              refine go_seq ?_
              refine go_region ?_
              refine go_y (v := .int .i64 kind) (y_move) rfl ?_
              refine go_test (c := (kind : Int) = 0) (y_eq rfl rfl) rfl (fun hc34 => ?_) (fun hc34 => ?_)
              · refine go_y (v := .bool true) (y_move) rfl ?_
                refine go_y (v := .int .i64 run_) (y_move) (on_of (t := 91) rfl rfl) ?_
                refine go_y (v := .pointer (some ⟨b2, 11, none⟩)) (y_fieldAddr rfl ty_fl_25_11) (on_of (t := 91) rfl rfl) ?_
                refine go_y (v := .int .i64 u2.dn) (y_load_fld rfl hb5 ty_sc_3 rfl) (on_of (t := 91) rfl rfl) ?_
                refine go_test (c := (run_ : Int) < u2.dn) (y_lt rfl rfl) (on_of (t := 91) rfl rfl) (fun hc35 => ?_) (fun hc35 => ?_)
                · refine go_y (v := .bool true) (y_move) (on_of (t := 91) rfl rfl) ?_
                  refine go_off (off_of (t := 96) (b' := true) rfl rfl rfl) ?_
                  refine go_off (off_of (t := 96) (b' := true) rfl rfl rfl) ?_
                  refine go_off (off_of (t := 96) (b' := true) rfl rfl rfl) ?_
                  refine go_off (off_of (t := 96) (b' := true) rfl rfl rfl) ?_
                  refine go_off (off_of (t := 96) (b' := true) rfl rfl rfl) ?_
                  refine go_off (off_of (t := 96) (b' := true) rfl rfl rfl) ?_
                  refine go_off (off_undef (t := 102) rfl rfl) ?_
                  refine go_off (off_undef (t := 102) rfl rfl) ?_
                  refine go_off (off_undef (t := 102) rfl rfl) ?_
                  refine go_off (off_of (t := 96) (b' := true) rfl rfl rfl) ?_
                  refine go_y (v := .bool true) (y_pick_t rfl) (on_of (t := 91) rfl rfl) ?_
                  refine go_y (v := .bool true) (y_move) (on_of (t := 91) rfl rfl) ?_
                  refine go_off (off_of (t := 108) (b' := true) rfl rfl rfl) ?_
                  refine go_off (off_of (t := 108) (b' := true) rfl rfl rfl) ?_
                  refine go_off (off_of (t := 108) (b' := true) rfl rfl rfl) ?_
                  refine go_off (off_of (t := 108) (b' := true) rfl rfl rfl) ?_
                  refine go_off (off_of (t := 108) (b' := true) rfl rfl rfl) ?_
                  refine go_off (off_of (t := 108) (b' := true) rfl rfl rfl) ?_
                  refine go_off (off_undef (t := 114) rfl rfl) ?_
                  refine go_off (off_undef (t := 114) rfl rfl) ?_
                  refine go_off (off_undef (t := 114) rfl rfl) ?_
                  refine go_off (off_of (t := 108) (b' := true) rfl rfl rfl) ?_
                  refine go_y (v := .bool true) (y_pick_t rfl) (on_of (t := 91) rfl rfl) ?_
                  refine go_y (v := .bool true) (y_pick_t rfl) rfl ?_
                  refine go_y (v := .bool true) (y_assign) rfl ?_
                  refine go_ops_nil ?_
                  refine go_cond_true rfl ?_
                  refine go_seq ?_
                  refine go_region ?_
                  refine go_y (v := .bool false) (y_assign) rfl ?_
                  refine go_ops_nil ?_
                  refine go_ret ?_
                  exfalso; omega
                · refine go_y (v := .bool false) (y_move) (on_of (t := 91) rfl rfl) ?_
                  refine go_y (v := vk) (y_move) (on_of (t := 96) rfl rfl) ?_
                  refine go_y (v := .int .i64 (g : Int)) (y_move) (on_of (t := 96) rfl rfl) ?_
                  obtain ⟨bb38, oo39, cc40, hv41, hc42⟩ := (hk.ext hx).at_ ha27
                  refine go_y (v := .pointer (some ⟨bb38, oo39 + g * 1, none⟩)) (y_idxn g rfl hv41 rfl (by omega) ty_sl_23 (el_lt ha27)) (on_of (t := 96) rfl rfl) ?_
                  refine go_y (v := .int .i64 a26) (y_load_el0 rfl hc42 ty_sc_3) (on_of (t := 96) rfl rfl) ?_
                  refine go_test (c := (a26 : Int) = 2) (y_eq rfl rfl) (on_of (t := 96) rfl rfl) (fun hc43 => ?_) (fun hc43 => ?_)
                  · refine go_y (v := .bool true) (y_move) (on_of (t := 96) rfl rfl) ?_
                    refine go_y (v := .pointer (some ⟨b2, 12, none⟩)) (y_fieldAddr rfl ty_fl_25_12) (on_of (t := 102) rfl rfl) ?_
                    refine go_y (v := .int .i64 u2.st) (y_load_fld rfl hb5 ty_sc_3 rfl) (on_of (t := 102) rfl rfl) ?_
                    refine go_test (c := (0 : Int) < u2.st) (y_gt rfl rfl) (on_of (t := 102) rfl rfl) (fun hc44 => ?_) (fun hc44 => ?_)
                    · refine go_y (v := .bool true) (y_pick_t rfl) (on_of (t := 96) rfl rfl) ?_
                      refine go_y (v := .bool true) (y_pick_f rfl) (on_of (t := 91) rfl rfl) ?_
                      refine go_y (v := .bool true) (y_move) (on_of (t := 91) rfl rfl) ?_
                      refine go_off (off_of (t := 108) (b' := true) rfl rfl rfl) ?_
                      refine go_off (off_of (t := 108) (b' := true) rfl rfl rfl) ?_
                      refine go_off (off_of (t := 108) (b' := true) rfl rfl rfl) ?_
                      refine go_off (off_of (t := 108) (b' := true) rfl rfl rfl) ?_
                      refine go_off (off_of (t := 108) (b' := true) rfl rfl rfl) ?_
                      refine go_off (off_of (t := 108) (b' := true) rfl rfl rfl) ?_
                      refine go_off (off_undef (t := 114) rfl rfl) ?_
                      refine go_off (off_undef (t := 114) rfl rfl) ?_
                      refine go_off (off_undef (t := 114) rfl rfl) ?_
                      refine go_off (off_of (t := 108) (b' := true) rfl rfl rfl) ?_
                      refine go_y (v := .bool true) (y_pick_t rfl) (on_of (t := 91) rfl rfl) ?_
                      refine go_y (v := .bool true) (y_pick_t rfl) rfl ?_
                      refine go_y (v := .bool true) (y_assign) rfl ?_
                      refine go_ops_nil ?_
                      refine go_cond_true rfl ?_
                      refine go_seq ?_
                      refine go_region ?_
                      refine go_y (v := .bool false) (y_assign) rfl ?_
                      refine go_ops_nil ?_
                      refine go_ret ?_
                      exfalso; omega
                    · refine go_y (v := .bool false) (y_pick_t rfl) (on_of (t := 96) rfl rfl) ?_
                      refine go_y (v := .bool false) (y_pick_f rfl) (on_of (t := 91) rfl rfl) ?_
                      refine go_y (v := .bool false) (y_move) (on_of (t := 91) rfl rfl) ?_
                      refine go_y (v := vk) (y_move) (on_of (t := 108) rfl rfl) ?_
                      refine go_y (v := .int .i64 (g : Int)) (y_move) (on_of (t := 108) rfl rfl) ?_
                      obtain ⟨bb47, oo48, cc49, hv50, hc51⟩ := (hk.ext hx).at_ ha27
                      refine go_y (v := .pointer (some ⟨bb47, oo48 + g * 1, none⟩)) (y_idxn g rfl hv50 rfl (by omega) ty_sl_23 (el_lt ha27)) (on_of (t := 108) rfl rfl) ?_
                      refine go_y (v := .int .i64 a26) (y_load_el0 rfl hc51 ty_sc_3) (on_of (t := 108) rfl rfl) ?_
                      refine go_test (c := (a26 : Int) = 1) (y_eq rfl rfl) (on_of (t := 108) rfl rfl) (fun hc52 => ?_) (fun hc52 => ?_)
                      · refine go_y (v := .bool true) (y_move) (on_of (t := 108) rfl rfl) ?_
                        refine go_y (v := .pointer (some ⟨b2, 12, none⟩)) (y_fieldAddr rfl ty_fl_25_12) (on_of (t := 114) rfl rfl) ?_
                        refine go_y (v := .int .i64 u2.st) (y_load_fld rfl hb5 ty_sc_3 rfl) (on_of (t := 114) rfl rfl) ?_
                        refine go_test (c := (u2.st : Int) = 0) (y_eq rfl rfl) (on_of (t := 114) rfl rfl) (fun hc53 => ?_) (fun hc53 => ?_)
                        · refine go_y (v := .bool true) (y_pick_t rfl) (on_of (t := 108) rfl rfl) ?_
                          refine go_y (v := .bool true) (y_pick_f rfl) (on_of (t := 91) rfl rfl) ?_
                          refine go_y (v := .bool true) (y_pick_t rfl) rfl ?_
                          refine go_y (v := .bool true) (y_assign) rfl ?_
                          refine go_ops_nil ?_
                          refine go_cond_true rfl ?_
                          refine go_seq ?_
                          refine go_region ?_
                          refine go_y (v := .bool false) (y_assign) rfl ?_
                          refine go_ops_nil ?_
                          refine go_ret ?_
                          exfalso; omega
                        · refine go_y (v := .bool false) (y_pick_t rfl) (on_of (t := 108) rfl rfl) ?_
                          refine go_y (v := .bool false) (y_pick_f rfl) (on_of (t := 91) rfl rfl) ?_
                          refine go_y (v := .bool false) (y_pick_t rfl) rfl ?_
                          refine go_y (v := .bool false) (y_assign) rfl ?_
                          refine go_ops_nil ?_
                          refine go_cond_false rfl ?_
                          refine go_seq ?_
                          refine go_region ?_
                          refine go_y (v := .int .i64 kind) (y_move) rfl ?_
                          refine go_test (c := (kind : Int) = 1) (y_eq rfl rfl) rfl (fun hc54 => ?_) (fun hc54 => ?_)
                          · refine go_y (v := .bool true) (y_move) rfl ?_
                            refine go_y (v := .int .i64 run_) (y_move) (on_of (t := 124) rfl rfl) ?_
                            refine go_y (v := .pointer (some ⟨b2, 12, none⟩)) (y_fieldAddr rfl ty_fl_25_12) (on_of (t := 124) rfl rfl) ?_
                            refine go_y (v := .int .i64 u2.st) (y_load_fld rfl hb5 ty_sc_3 rfl) (on_of (t := 124) rfl rfl) ?_
                            refine go_test (c := (run_ : Int) ≠ u2.st) (y_ne rfl rfl) (on_of (t := 124) rfl rfl) (fun hc55 => ?_) (fun hc55 => ?_)
                            · refine go_y (v := .bool true) (y_move) (on_of (t := 124) rfl rfl) ?_
                              refine go_off (off_of (t := 129) (b' := true) rfl rfl rfl) ?_
                              refine go_off (off_of (t := 129) (b' := true) rfl rfl rfl) ?_
                              refine go_off (off_of (t := 129) (b' := true) rfl rfl rfl) ?_
                              refine go_off (off_of (t := 129) (b' := true) rfl rfl rfl) ?_
                              refine go_off (off_of (t := 129) (b' := true) rfl rfl rfl) ?_
                              refine go_y (v := .bool true) (y_pick_t rfl) (on_of (t := 124) rfl rfl) ?_
                              refine go_y (v := .bool true) (y_pick_t rfl) rfl ?_
                              refine go_y (v := .bool true) (y_assign) rfl ?_
                              refine go_ops_nil ?_
                              refine go_cond_true rfl ?_
                              refine go_seq ?_
                              refine go_region ?_
                              refine go_y (v := .bool false) (y_assign) rfl ?_
                              refine go_ops_nil ?_
                              refine go_ret ?_
                              exfalso; omega
                            · refine go_y (v := .bool false) (y_move) (on_of (t := 124) rfl rfl) ?_
                              refine go_y (v := vk) (y_move) (on_of (t := 129) rfl rfl) ?_
                              refine go_y (v := .int .i64 (g : Int)) (y_move) (on_of (t := 129) rfl rfl) ?_
                              obtain ⟨bb58, oo59, cc60, hv61, hc62⟩ := (hk.ext hx).at_ ha27
                              refine go_y (v := .pointer (some ⟨bb58, oo59 + g * 1, none⟩)) (y_idxn g rfl hv61 rfl (by omega) ty_sl_23 (el_lt ha27)) (on_of (t := 129) rfl rfl) ?_
                              refine go_y (v := .int .i64 a26) (y_load_el0 rfl hc62 ty_sc_3) (on_of (t := 129) rfl rfl) ?_
                              refine go_test (c := (a26 : Int) ≠ 2) (y_ne rfl rfl) (on_of (t := 129) rfl rfl) (fun hc63 => ?_) (fun hc63 => ?_)
                              · refine go_y (v := .bool true) (y_pick_f rfl) (on_of (t := 124) rfl rfl) ?_
                                refine go_y (v := .bool true) (y_pick_t rfl) rfl ?_
                                refine go_y (v := .bool true) (y_assign) rfl ?_
                                refine go_ops_nil ?_
                                refine go_cond_true rfl ?_
                                refine go_seq ?_
                                refine go_region ?_
                                refine go_y (v := .bool false) (y_assign) rfl ?_
                                refine go_ops_nil ?_
                                refine go_ret ?_
                                exfalso; omega
                              · refine go_y (v := .bool false) (y_pick_f rfl) (on_of (t := 124) rfl rfl) ?_
                                refine go_y (v := .bool false) (y_pick_t rfl) rfl ?_
                                refine go_y (v := .bool false) (y_assign) rfl ?_
                                refine go_ops_nil ?_
                                refine go_cond_false rfl ?_
                                refine go_seq ?_
                                refine go_region ?_
                                refine go_y (v := .int .i64 kind) (y_move) rfl ?_
                                refine go_test (c := (kind : Int) = 2) (y_eq rfl rfl) rfl (fun hc64 => ?_) (fun hc64 => ?_)
                                · refine go_y (v := .bool true) (y_move) rfl ?_
                                  refine go_y (v := .int .i64 run_) (y_move) (on_of (t := 140) rfl rfl) ?_
                                  refine go_y (v := .pointer (some ⟨b2, 10, none⟩)) (y_fieldAddr rfl ty_fl_25_10) (on_of (t := 140) rfl rfl) ?_
                                  refine go_y (v := .int .i64 u2.up) (y_load_fld rfl hb5 ty_sc_3 rfl) (on_of (t := 140) rfl rfl) ?_
                                  refine go_test (c := (run_ : Int) < u2.up) (y_lt rfl rfl) (on_of (t := 140) rfl rfl) (fun hc65 => ?_) (fun hc65 => ?_)
                                  · refine go_y (v := .bool true) (y_move) (on_of (t := 140) rfl rfl) ?_
                                    refine go_off (off_of (t := 145) (b' := true) rfl rfl rfl) ?_
                                    refine go_off (off_of (t := 145) (b' := true) rfl rfl rfl) ?_
                                    refine go_off (off_of (t := 145) (b' := true) rfl rfl rfl) ?_
                                    refine go_off (off_of (t := 145) (b' := true) rfl rfl rfl) ?_
                                    refine go_off (off_of (t := 145) (b' := true) rfl rfl rfl) ?_
                                    refine go_y (v := .bool true) (y_pick_t rfl) (on_of (t := 140) rfl rfl) ?_
                                    refine go_y (v := .bool true) (y_pick_t rfl) rfl ?_
                                    refine go_y (v := .bool true) (y_assign) rfl ?_
                                    refine go_ops_nil ?_
                                    refine go_cond_true rfl ?_
                                    refine go_seq ?_
                                    refine go_region ?_
                                    refine go_y (v := .bool false) (y_assign) rfl ?_
                                    refine go_ops_nil ?_
                                    refine go_ret ?_
                                    exfalso; omega
                                  · refine go_y (v := .bool false) (y_move) (on_of (t := 140) rfl rfl) ?_
                                    refine go_y (v := vk) (y_move) (on_of (t := 145) rfl rfl) ?_
                                    refine go_y (v := .int .i64 (g : Int)) (y_move) (on_of (t := 145) rfl rfl) ?_
                                    obtain ⟨bb68, oo69, cc70, hv71, hc72⟩ := (hk.ext hx).at_ ha27
                                    refine go_y (v := .pointer (some ⟨bb68, oo69 + g * 1, none⟩)) (y_idxn g rfl hv71 rfl (by omega) ty_sl_23 (el_lt ha27)) (on_of (t := 145) rfl rfl) ?_
                                    refine go_y (v := .int .i64 a26) (y_load_el0 rfl hc72 ty_sc_3) (on_of (t := 145) rfl rfl) ?_
                                    refine go_test (c := (a26 : Int) ≠ 0) (y_ne rfl rfl) (on_of (t := 145) rfl rfl) (fun hc73 => ?_) (fun hc73 => ?_)
                                    · refine go_y (v := .bool true) (y_pick_f rfl) (on_of (t := 140) rfl rfl) ?_
                                      refine go_y (v := .bool true) (y_pick_t rfl) rfl ?_
                                      refine go_y (v := .bool true) (y_assign) rfl ?_
                                      refine go_ops_nil ?_
                                      refine go_cond_true rfl ?_
                                      refine go_seq ?_
                                      refine go_region ?_
                                      refine go_y (v := .bool false) (y_assign) rfl ?_
                                      refine go_ops_nil ?_
                                      refine go_ret ?_
                                      exfalso; omega
                                    · refine go_y (v := .bool false) (y_pick_f rfl) (on_of (t := 140) rfl rfl) ?_
                                      refine go_y (v := .bool false) (y_pick_t rfl) rfl ?_
                                      refine go_y (v := .bool false) (y_assign) rfl ?_
                                      refine go_ops_nil ?_
                                      refine go_cond_false rfl ?_
                                      refine go_skip ?_
                                      refine go_blk ?_
                                      refine go_region ?_
                                      refine go_y (v := vk) (y_move) rfl ?_
                                      refine go_y (v := .int .i64 (g : Int)) (y_move) rfl ?_
                                      obtain ⟨bb76, oo77, cc78, hv79, hc80⟩ := (hk.ext hx).at_ ha27
                                      refine go_y (v := .pointer (some ⟨bb76, oo77 + g * 1, none⟩)) (y_idxn g rfl hv79 rfl (by omega) ty_sl_23 (el_lt ha27)) rfl ?_
                                      refine go_y (v := .int .i64 a26) (y_load_el0 rfl hc80 ty_sc_3) rfl ?_
                                      refine go_y (v := .int .i64 a26) (y_assign) rfl ?_
                                      refine go_y (v := .int .i64 1) (y_assign) rfl ?_
                                      refine go_ops_nil ?_
                                      refine go_blk ?_
                                      refine go_region ?_
                                      refine go_y (v := .int .i64 (g : Int)) (y_move) rfl ?_
                                      refine go_y (v := .int .i64 ((g : Int) + 1)) (y_add rfl rfl (by unfold in64; omega)) rfl ?_
                                      refine go_y (v := .int .i64 ((g : Int) + 1)) (y_assign) rfl ?_
                                      refine go_ops_nil ?_
                                      refine go_upto ⟨g + 1, a26, 1, ?_, ⟨ie (by omega), ie (by omega), ie (by omega), trivial⟩, ⟨hx, hb5, hsa9, hs0, (by omega), (hother hc33), (by omega)⟩, (by omega)⟩
                                      repeat (refine Agree.upd rfl ?_)
                                      exact Agree.updL rfl (Agree.havoc rfl (Agree.refl _ _))
                                · refine go_y (v := .bool false) (y_move) rfl ?_
                                  refine go_off (off_of (t := 140) (b' := false) rfl rfl rfl) ?_
                                  refine go_off (off_of (t := 140) (b' := false) rfl rfl rfl) ?_
                                  refine go_off (off_of (t := 140) (b' := false) rfl rfl rfl) ?_
                                  refine go_off (off_of (t := 140) (b' := false) rfl rfl rfl) ?_
                                  refine go_off (off_of (t := 140) (b' := false) rfl rfl rfl) ?_
                                  refine go_off (off_undef (t := 145) rfl rfl) ?_
                                  refine go_off (off_undef (t := 145) rfl rfl) ?_
                                  refine go_off (off_undef (t := 145) rfl rfl) ?_
                                  refine go_off (off_undef (t := 145) rfl rfl) ?_
                                  refine go_off (off_undef (t := 145) rfl rfl) ?_
                                  refine go_off (off_of (t := 140) (b' := false) rfl rfl rfl) ?_
                                  refine go_y (v := .bool false) (y_pick_f rfl) rfl ?_
                                  refine go_y (v := .bool false) (y_assign) rfl ?_
                                  refine go_ops_nil ?_
                                  refine go_cond_false rfl ?_
                                  refine go_skip ?_
                                  refine go_blk ?_
                                  refine go_region ?_
                                  refine go_y (v := vk) (y_move) rfl ?_
                                  refine go_y (v := .int .i64 (g : Int)) (y_move) rfl ?_
                                  obtain ⟨bb67, oo68, cc69, hv70, hc71⟩ := (hk.ext hx).at_ ha27
                                  refine go_y (v := .pointer (some ⟨bb67, oo68 + g * 1, none⟩)) (y_idxn g rfl hv70 rfl (by omega) ty_sl_23 (el_lt ha27)) rfl ?_
                                  refine go_y (v := .int .i64 a26) (y_load_el0 rfl hc71 ty_sc_3) rfl ?_
                                  refine go_y (v := .int .i64 a26) (y_assign) rfl ?_
                                  refine go_y (v := .int .i64 1) (y_assign) rfl ?_
                                  refine go_ops_nil ?_
                                  refine go_blk ?_
                                  refine go_region ?_
                                  refine go_y (v := .int .i64 (g : Int)) (y_move) rfl ?_
                                  refine go_y (v := .int .i64 ((g : Int) + 1)) (y_add rfl rfl (by unfold in64; omega)) rfl ?_
                                  refine go_y (v := .int .i64 ((g : Int) + 1)) (y_assign) rfl ?_
                                  refine go_ops_nil ?_
                                  refine go_upto ⟨g + 1, a26, 1, ?_, ⟨ie (by omega), ie (by omega), ie (by omega), trivial⟩, ⟨hx, hb5, hsa9, hs0, (by omega), (hother hc33), (by omega)⟩, (by omega)⟩
                                  repeat (refine Agree.upd rfl ?_)
                                  exact Agree.updL rfl (Agree.havoc rfl (Agree.refl _ _))
                          · refine go_y (v := .bool false) (y_move) rfl ?_
                            refine go_off (off_of (t := 124) (b' := false) rfl rfl rfl) ?_
                            refine go_off (off_of (t := 124) (b' := false) rfl rfl rfl) ?_
                            refine go_off (off_of (t := 124) (b' := false) rfl rfl rfl) ?_
                            refine go_off (off_of (t := 124) (b' := false) rfl rfl rfl) ?_
                            refine go_off (off_of (t := 124) (b' := false) rfl rfl rfl) ?_
                            refine go_off (off_undef (t := 129) rfl rfl) ?_
                            refine go_off (off_undef (t := 129) rfl rfl) ?_
                            refine go_off (off_undef (t := 129) rfl rfl) ?_
                            refine go_off (off_undef (t := 129) rfl rfl) ?_
                            refine go_off (off_undef (t := 129) rfl rfl) ?_
                            refine go_off (off_of (t := 124) (b' := false) rfl rfl rfl) ?_
                            refine go_y (v := .bool false) (y_pick_f rfl) rfl ?_
                            refine go_y (v := .bool false) (y_assign) rfl ?_
                            refine go_ops_nil ?_
                            refine go_cond_false rfl ?_
                            refine go_seq ?_
                            refine go_region ?_
                            refine go_y (v := .int .i64 kind) (y_move) rfl ?_
                            refine go_test (c := (kind : Int) = 2) (y_eq rfl rfl) rfl (fun hc55 => ?_) (fun hc55 => ?_)
                            · refine go_y (v := .bool true) (y_move) rfl ?_
                              refine go_y (v := .int .i64 run_) (y_move) (on_of (t := 140) rfl rfl) ?_
                              refine go_y (v := .pointer (some ⟨b2, 10, none⟩)) (y_fieldAddr rfl ty_fl_25_10) (on_of (t := 140) rfl rfl) ?_
                              refine go_y (v := .int .i64 u2.up) (y_load_fld rfl hb5 ty_sc_3 rfl) (on_of (t := 140) rfl rfl) ?_
                              refine go_test (c := (run_ : Int) < u2.up) (y_lt rfl rfl) (on_of (t := 140) rfl rfl) (fun hc56 => ?_) (fun hc56 => ?_)
                              · refine go_y (v := .bool true) (y_move) (on_of (t := 140) rfl rfl) ?_
                                refine go_off (off_of (t := 145) (b' := true) rfl rfl rfl) ?_
                                refine go_off (off_of (t := 145) (b' := true) rfl rfl rfl) ?_
                                refine go_off (off_of (t := 145) (b' := true) rfl rfl rfl) ?_
                                refine go_off (off_of (t := 145) (b' := true) rfl rfl rfl) ?_
                                refine go_off (off_of (t := 145) (b' := true) rfl rfl rfl) ?_
                                refine go_y (v := .bool true) (y_pick_t rfl) (on_of (t := 140) rfl rfl) ?_
                                refine go_y (v := .bool true) (y_pick_t rfl) rfl ?_
                                refine go_y (v := .bool true) (y_assign) rfl ?_
                                refine go_ops_nil ?_
                                refine go_cond_true rfl ?_
                                refine go_seq ?_
                                refine go_region ?_
                                refine go_y (v := .bool false) (y_assign) rfl ?_
                                refine go_ops_nil ?_
                                refine go_ret ?_
                                exfalso; omega
                              · refine go_y (v := .bool false) (y_move) (on_of (t := 140) rfl rfl) ?_
                                refine go_y (v := vk) (y_move) (on_of (t := 145) rfl rfl) ?_
                                refine go_y (v := .int .i64 (g : Int)) (y_move) (on_of (t := 145) rfl rfl) ?_
                                obtain ⟨bb59, oo60, cc61, hv62, hc63⟩ := (hk.ext hx).at_ ha27
                                refine go_y (v := .pointer (some ⟨bb59, oo60 + g * 1, none⟩)) (y_idxn g rfl hv62 rfl (by omega) ty_sl_23 (el_lt ha27)) (on_of (t := 145) rfl rfl) ?_
                                refine go_y (v := .int .i64 a26) (y_load_el0 rfl hc63 ty_sc_3) (on_of (t := 145) rfl rfl) ?_
                                refine go_test (c := (a26 : Int) ≠ 0) (y_ne rfl rfl) (on_of (t := 145) rfl rfl) (fun hc64 => ?_) (fun hc64 => ?_)
                                · refine go_y (v := .bool true) (y_pick_f rfl) (on_of (t := 140) rfl rfl) ?_
                                  refine go_y (v := .bool true) (y_pick_t rfl) rfl ?_
                                  refine go_y (v := .bool true) (y_assign) rfl ?_
                                  refine go_ops_nil ?_
                                  refine go_cond_true rfl ?_
                                  refine go_seq ?_
                                  refine go_region ?_
                                  refine go_y (v := .bool false) (y_assign) rfl ?_
                                  refine go_ops_nil ?_
                                  refine go_ret ?_
                                  exfalso; omega
                                · refine go_y (v := .bool false) (y_pick_f rfl) (on_of (t := 140) rfl rfl) ?_
                                  refine go_y (v := .bool false) (y_pick_t rfl) rfl ?_
                                  refine go_y (v := .bool false) (y_assign) rfl ?_
                                  refine go_ops_nil ?_
                                  refine go_cond_false rfl ?_
                                  refine go_skip ?_
                                  refine go_blk ?_
                                  refine go_region ?_
                                  refine go_y (v := vk) (y_move) rfl ?_
                                  refine go_y (v := .int .i64 (g : Int)) (y_move) rfl ?_
                                  obtain ⟨bb67, oo68, cc69, hv70, hc71⟩ := (hk.ext hx).at_ ha27
                                  refine go_y (v := .pointer (some ⟨bb67, oo68 + g * 1, none⟩)) (y_idxn g rfl hv70 rfl (by omega) ty_sl_23 (el_lt ha27)) rfl ?_
                                  refine go_y (v := .int .i64 a26) (y_load_el0 rfl hc71 ty_sc_3) rfl ?_
                                  refine go_y (v := .int .i64 a26) (y_assign) rfl ?_
                                  refine go_y (v := .int .i64 1) (y_assign) rfl ?_
                                  refine go_ops_nil ?_
                                  refine go_blk ?_
                                  refine go_region ?_
                                  refine go_y (v := .int .i64 (g : Int)) (y_move) rfl ?_
                                  refine go_y (v := .int .i64 ((g : Int) + 1)) (y_add rfl rfl (by unfold in64; omega)) rfl ?_
                                  refine go_y (v := .int .i64 ((g : Int) + 1)) (y_assign) rfl ?_
                                  refine go_ops_nil ?_
                                  refine go_upto ⟨g + 1, a26, 1, ?_, ⟨ie (by omega), ie (by omega), ie (by omega), trivial⟩, ⟨hx, hb5, hsa9, hs0, (by omega), (hother hc33), (by omega)⟩, (by omega)⟩
                                  repeat (refine Agree.upd rfl ?_)
                                  exact Agree.updL rfl (Agree.havoc rfl (Agree.refl _ _))
                            · refine go_y (v := .bool false) (y_move) rfl ?_
                              refine go_off (off_of (t := 140) (b' := false) rfl rfl rfl) ?_
                              refine go_off (off_of (t := 140) (b' := false) rfl rfl rfl) ?_
                              refine go_off (off_of (t := 140) (b' := false) rfl rfl rfl) ?_
                              refine go_off (off_of (t := 140) (b' := false) rfl rfl rfl) ?_
                              refine go_off (off_of (t := 140) (b' := false) rfl rfl rfl) ?_
                              refine go_off (off_undef (t := 145) rfl rfl) ?_
                              refine go_off (off_undef (t := 145) rfl rfl) ?_
                              refine go_off (off_undef (t := 145) rfl rfl) ?_
                              refine go_off (off_undef (t := 145) rfl rfl) ?_
                              refine go_off (off_undef (t := 145) rfl rfl) ?_
                              refine go_off (off_of (t := 140) (b' := false) rfl rfl rfl) ?_
                              refine go_y (v := .bool false) (y_pick_f rfl) rfl ?_
                              refine go_y (v := .bool false) (y_assign) rfl ?_
                              refine go_ops_nil ?_
                              refine go_cond_false rfl ?_
                              refine go_skip ?_
                              refine go_blk ?_
                              refine go_region ?_
                              refine go_y (v := vk) (y_move) rfl ?_
                              refine go_y (v := .int .i64 (g : Int)) (y_move) rfl ?_
                              obtain ⟨bb58, oo59, cc60, hv61, hc62⟩ := (hk.ext hx).at_ ha27
                              refine go_y (v := .pointer (some ⟨bb58, oo59 + g * 1, none⟩)) (y_idxn g rfl hv61 rfl (by omega) ty_sl_23 (el_lt ha27)) rfl ?_
                              refine go_y (v := .int .i64 a26) (y_load_el0 rfl hc62 ty_sc_3) rfl ?_
                              refine go_y (v := .int .i64 a26) (y_assign) rfl ?_
                              refine go_y (v := .int .i64 1) (y_assign) rfl ?_
                              refine go_ops_nil ?_
                              refine go_blk ?_
                              refine go_region ?_
                              refine go_y (v := .int .i64 (g : Int)) (y_move) rfl ?_
                              refine go_y (v := .int .i64 ((g : Int) + 1)) (y_add rfl rfl (by unfold in64; omega)) rfl ?_
                              refine go_y (v := .int .i64 ((g : Int) + 1)) (y_assign) rfl ?_
                              refine go_ops_nil ?_
                              refine go_upto ⟨g + 1, a26, 1, ?_, ⟨ie (by omega), ie (by omega), ie (by omega), trivial⟩, ⟨hx, hb5, hsa9, hs0, (by omega), (hother hc33), (by omega)⟩, (by omega)⟩
                              repeat (refine Agree.upd rfl ?_)
                              exact Agree.updL rfl (Agree.havoc rfl (Agree.refl _ _))
                      · refine go_y (v := .bool false) (y_move) (on_of (t := 108) rfl rfl) ?_
                        refine go_off (off_of (t := 114) (b' := false) rfl rfl rfl) ?_
                        refine go_off (off_of (t := 114) (b' := false) rfl rfl rfl) ?_
                        refine go_off (off_of (t := 114) (b' := false) rfl rfl rfl) ?_
                        refine go_y (v := .bool false) (y_pick_f rfl) (on_of (t := 108) rfl rfl) ?_
                        refine go_y (v := .bool false) (y_pick_f rfl) (on_of (t := 91) rfl rfl) ?_
                        refine go_y (v := .bool false) (y_pick_t rfl) rfl ?_
                        refine go_y (v := .bool false) (y_assign) rfl ?_
                        refine go_ops_nil ?_
                        refine go_cond_false rfl ?_
                        refine go_seq ?_
                        refine go_region ?_
                        refine go_y (v := .int .i64 kind) (y_move) rfl ?_
                        refine go_test (c := (kind : Int) = 1) (y_eq rfl rfl) rfl (fun hc53 => ?_) (fun hc53 => ?_)
                        · refine go_y (v := .bool true) (y_move) rfl ?_
                          refine go_y (v := .int .i64 run_) (y_move) (on_of (t := 124) rfl rfl) ?_
                          refine go_y (v := .pointer (some ⟨b2, 12, none⟩)) (y_fieldAddr rfl ty_fl_25_12) (on_of (t := 124) rfl rfl) ?_
                          refine go_y (v := .int .i64 u2.st) (y_load_fld rfl hb5 ty_sc_3 rfl) (on_of (t := 124) rfl rfl) ?_
                          refine go_test (c := (run_ : Int) ≠ u2.st) (y_ne rfl rfl) (on_of (t := 124) rfl rfl) (fun hc54 => ?_) (fun hc54 => ?_)
                          · refine go_y (v := .bool true) (y_move) (on_of (t := 124) rfl rfl) ?_
                            refine go_off (off_of (t := 129) (b' := true) rfl rfl rfl) ?_
                            refine go_off (off_of (t := 129) (b' := true) rfl rfl rfl) ?_
                            refine go_off (off_of (t := 129) (b' := true) rfl rfl rfl) ?_
                            refine go_off (off_of (t := 129) (b' := true) rfl rfl rfl) ?_
                            refine go_off (off_of (t := 129) (b' := true) rfl rfl rfl) ?_
                            refine go_y (v := .bool true) (y_pick_t rfl) (on_of (t := 124) rfl rfl) ?_
                            refine go_y (v := .bool true) (y_pick_t rfl) rfl ?_
                            refine go_y (v := .bool true) (y_assign) rfl ?_
                            refine go_ops_nil ?_
                            refine go_cond_true rfl ?_
                            refine go_seq ?_
                            refine go_region ?_
                            refine go_y (v := .bool false) (y_assign) rfl ?_
                            refine go_ops_nil ?_
                            refine go_ret ?_
                            exfalso; omega
                          · refine go_y (v := .bool false) (y_move) (on_of (t := 124) rfl rfl) ?_
                            refine go_y (v := vk) (y_move) (on_of (t := 129) rfl rfl) ?_
                            refine go_y (v := .int .i64 (g : Int)) (y_move) (on_of (t := 129) rfl rfl) ?_
                            obtain ⟨bb57, oo58, cc59, hv60, hc61⟩ := (hk.ext hx).at_ ha27
                            refine go_y (v := .pointer (some ⟨bb57, oo58 + g * 1, none⟩)) (y_idxn g rfl hv60 rfl (by omega) ty_sl_23 (el_lt ha27)) (on_of (t := 129) rfl rfl) ?_
                            refine go_y (v := .int .i64 a26) (y_load_el0 rfl hc61 ty_sc_3) (on_of (t := 129) rfl rfl) ?_
                            refine go_test (c := (a26 : Int) ≠ 2) (y_ne rfl rfl) (on_of (t := 129) rfl rfl) (fun hc62 => ?_) (fun hc62 => ?_)
                            · refine go_y (v := .bool true) (y_pick_f rfl) (on_of (t := 124) rfl rfl) ?_
                              refine go_y (v := .bool true) (y_pick_t rfl) rfl ?_
                              refine go_y (v := .bool true) (y_assign) rfl ?_
                              refine go_ops_nil ?_
                              refine go_cond_true rfl ?_
                              refine go_seq ?_
                              refine go_region ?_
                              refine go_y (v := .bool false) (y_assign) rfl ?_
                              refine go_ops_nil ?_
                              refine go_ret ?_
                              exfalso; omega
                            · refine go_y (v := .bool false) (y_pick_f rfl) (on_of (t := 124) rfl rfl) ?_
                              refine go_y (v := .bool false) (y_pick_t rfl) rfl ?_
                              refine go_y (v := .bool false) (y_assign) rfl ?_
                              refine go_ops_nil ?_
                              refine go_cond_false rfl ?_
                              refine go_seq ?_
                              refine go_region ?_
                              refine go_y (v := .int .i64 kind) (y_move) rfl ?_
                              refine go_test (c := (kind : Int) = 2) (y_eq rfl rfl) rfl (fun hc63 => ?_) (fun hc63 => ?_)
                              · refine go_y (v := .bool true) (y_move) rfl ?_
                                refine go_y (v := .int .i64 run_) (y_move) (on_of (t := 140) rfl rfl) ?_
                                refine go_y (v := .pointer (some ⟨b2, 10, none⟩)) (y_fieldAddr rfl ty_fl_25_10) (on_of (t := 140) rfl rfl) ?_
                                refine go_y (v := .int .i64 u2.up) (y_load_fld rfl hb5 ty_sc_3 rfl) (on_of (t := 140) rfl rfl) ?_
                                refine go_test (c := (run_ : Int) < u2.up) (y_lt rfl rfl) (on_of (t := 140) rfl rfl) (fun hc64 => ?_) (fun hc64 => ?_)
                                · refine go_y (v := .bool true) (y_move) (on_of (t := 140) rfl rfl) ?_
                                  refine go_off (off_of (t := 145) (b' := true) rfl rfl rfl) ?_
                                  refine go_off (off_of (t := 145) (b' := true) rfl rfl rfl) ?_
                                  refine go_off (off_of (t := 145) (b' := true) rfl rfl rfl) ?_
                                  refine go_off (off_of (t := 145) (b' := true) rfl rfl rfl) ?_
                                  refine go_off (off_of (t := 145) (b' := true) rfl rfl rfl) ?_
                                  refine go_y (v := .bool true) (y_pick_t rfl) (on_of (t := 140) rfl rfl) ?_
                                  refine go_y (v := .bool true) (y_pick_t rfl) rfl ?_
                                  refine go_y (v := .bool true) (y_assign) rfl ?_
                                  refine go_ops_nil ?_
                                  refine go_cond_true rfl ?_
                                  refine go_seq ?_
                                  refine go_region ?_
                                  refine go_y (v := .bool false) (y_assign) rfl ?_
                                  refine go_ops_nil ?_
                                  refine go_ret ?_
                                  exfalso; omega
                                · refine go_y (v := .bool false) (y_move) (on_of (t := 140) rfl rfl) ?_
                                  refine go_y (v := vk) (y_move) (on_of (t := 145) rfl rfl) ?_
                                  refine go_y (v := .int .i64 (g : Int)) (y_move) (on_of (t := 145) rfl rfl) ?_
                                  obtain ⟨bb67, oo68, cc69, hv70, hc71⟩ := (hk.ext hx).at_ ha27
                                  refine go_y (v := .pointer (some ⟨bb67, oo68 + g * 1, none⟩)) (y_idxn g rfl hv70 rfl (by omega) ty_sl_23 (el_lt ha27)) (on_of (t := 145) rfl rfl) ?_
                                  refine go_y (v := .int .i64 a26) (y_load_el0 rfl hc71 ty_sc_3) (on_of (t := 145) rfl rfl) ?_
                                  refine go_test (c := (a26 : Int) ≠ 0) (y_ne rfl rfl) (on_of (t := 145) rfl rfl) (fun hc72 => ?_) (fun hc72 => ?_)
                                  · refine go_y (v := .bool true) (y_pick_f rfl) (on_of (t := 140) rfl rfl) ?_
                                    refine go_y (v := .bool true) (y_pick_t rfl) rfl ?_
                                    refine go_y (v := .bool true) (y_assign) rfl ?_
                                    refine go_ops_nil ?_
                                    refine go_cond_true rfl ?_
                                    refine go_seq ?_
                                    refine go_region ?_
                                    refine go_y (v := .bool false) (y_assign) rfl ?_
                                    refine go_ops_nil ?_
                                    refine go_ret ?_
                                    exfalso; omega
                                  · refine go_y (v := .bool false) (y_pick_f rfl) (on_of (t := 140) rfl rfl) ?_
                                    refine go_y (v := .bool false) (y_pick_t rfl) rfl ?_
                                    refine go_y (v := .bool false) (y_assign) rfl ?_
                                    refine go_ops_nil ?_
                                    refine go_cond_false rfl ?_
                                    refine go_skip ?_
                                    refine go_blk ?_
                                    refine go_region ?_
                                    refine go_y (v := vk) (y_move) rfl ?_
                                    refine go_y (v := .int .i64 (g : Int)) (y_move) rfl ?_
                                    obtain ⟨bb75, oo76, cc77, hv78, hc79⟩ := (hk.ext hx).at_ ha27
                                    refine go_y (v := .pointer (some ⟨bb75, oo76 + g * 1, none⟩)) (y_idxn g rfl hv78 rfl (by omega) ty_sl_23 (el_lt ha27)) rfl ?_
                                    refine go_y (v := .int .i64 a26) (y_load_el0 rfl hc79 ty_sc_3) rfl ?_
                                    refine go_y (v := .int .i64 a26) (y_assign) rfl ?_
                                    refine go_y (v := .int .i64 1) (y_assign) rfl ?_
                                    refine go_ops_nil ?_
                                    refine go_blk ?_
                                    refine go_region ?_
                                    refine go_y (v := .int .i64 (g : Int)) (y_move) rfl ?_
                                    refine go_y (v := .int .i64 ((g : Int) + 1)) (y_add rfl rfl (by unfold in64; omega)) rfl ?_
                                    refine go_y (v := .int .i64 ((g : Int) + 1)) (y_assign) rfl ?_
                                    refine go_ops_nil ?_
                                    refine go_upto ⟨g + 1, a26, 1, ?_, ⟨ie (by omega), ie (by omega), ie (by omega), trivial⟩, ⟨hx, hb5, hsa9, hs0, (by omega), (hother hc33), (by omega)⟩, (by omega)⟩
                                    repeat (refine Agree.upd rfl ?_)
                                    exact Agree.updL rfl (Agree.havoc rfl (Agree.refl _ _))
                              · refine go_y (v := .bool false) (y_move) rfl ?_
                                refine go_off (off_of (t := 140) (b' := false) rfl rfl rfl) ?_
                                refine go_off (off_of (t := 140) (b' := false) rfl rfl rfl) ?_
                                refine go_off (off_of (t := 140) (b' := false) rfl rfl rfl) ?_
                                refine go_off (off_of (t := 140) (b' := false) rfl rfl rfl) ?_
                                refine go_off (off_of (t := 140) (b' := false) rfl rfl rfl) ?_
                                refine go_off (off_undef (t := 145) rfl rfl) ?_
                                refine go_off (off_undef (t := 145) rfl rfl) ?_
                                refine go_off (off_undef (t := 145) rfl rfl) ?_
                                refine go_off (off_undef (t := 145) rfl rfl) ?_
                                refine go_off (off_undef (t := 145) rfl rfl) ?_
                                refine go_off (off_of (t := 140) (b' := false) rfl rfl rfl) ?_
                                refine go_y (v := .bool false) (y_pick_f rfl) rfl ?_
                                refine go_y (v := .bool false) (y_assign) rfl ?_
                                refine go_ops_nil ?_
                                refine go_cond_false rfl ?_
                                refine go_skip ?_
                                refine go_blk ?_
                                refine go_region ?_
                                refine go_y (v := vk) (y_move) rfl ?_
                                refine go_y (v := .int .i64 (g : Int)) (y_move) rfl ?_
                                obtain ⟨bb66, oo67, cc68, hv69, hc70⟩ := (hk.ext hx).at_ ha27
                                refine go_y (v := .pointer (some ⟨bb66, oo67 + g * 1, none⟩)) (y_idxn g rfl hv69 rfl (by omega) ty_sl_23 (el_lt ha27)) rfl ?_
                                refine go_y (v := .int .i64 a26) (y_load_el0 rfl hc70 ty_sc_3) rfl ?_
                                refine go_y (v := .int .i64 a26) (y_assign) rfl ?_
                                refine go_y (v := .int .i64 1) (y_assign) rfl ?_
                                refine go_ops_nil ?_
                                refine go_blk ?_
                                refine go_region ?_
                                refine go_y (v := .int .i64 (g : Int)) (y_move) rfl ?_
                                refine go_y (v := .int .i64 ((g : Int) + 1)) (y_add rfl rfl (by unfold in64; omega)) rfl ?_
                                refine go_y (v := .int .i64 ((g : Int) + 1)) (y_assign) rfl ?_
                                refine go_ops_nil ?_
                                refine go_upto ⟨g + 1, a26, 1, ?_, ⟨ie (by omega), ie (by omega), ie (by omega), trivial⟩, ⟨hx, hb5, hsa9, hs0, (by omega), (hother hc33), (by omega)⟩, (by omega)⟩
                                repeat (refine Agree.upd rfl ?_)
                                exact Agree.updL rfl (Agree.havoc rfl (Agree.refl _ _))
                        · refine go_y (v := .bool false) (y_move) rfl ?_
                          refine go_off (off_of (t := 124) (b' := false) rfl rfl rfl) ?_
                          refine go_off (off_of (t := 124) (b' := false) rfl rfl rfl) ?_
                          refine go_off (off_of (t := 124) (b' := false) rfl rfl rfl) ?_
                          refine go_off (off_of (t := 124) (b' := false) rfl rfl rfl) ?_
                          refine go_off (off_of (t := 124) (b' := false) rfl rfl rfl) ?_
                          refine go_off (off_undef (t := 129) rfl rfl) ?_
                          refine go_off (off_undef (t := 129) rfl rfl) ?_
                          refine go_off (off_undef (t := 129) rfl rfl) ?_
                          refine go_off (off_undef (t := 129) rfl rfl) ?_
                          refine go_off (off_undef (t := 129) rfl rfl) ?_
                          refine go_off (off_of (t := 124) (b' := false) rfl rfl rfl) ?_
                          refine go_y (v := .bool false) (y_pick_f rfl) rfl ?_
                          refine go_y (v := .bool false) (y_assign) rfl ?_
                          refine go_ops_nil ?_
                          refine go_cond_false rfl ?_
                          refine go_seq ?_
                          refine go_region ?_
                          refine go_y (v := .int .i64 kind) (y_move) rfl ?_
                          refine go_test (c := (kind : Int) = 2) (y_eq rfl rfl) rfl (fun hc54 => ?_) (fun hc54 => ?_)
                          · refine go_y (v := .bool true) (y_move) rfl ?_
                            refine go_y (v := .int .i64 run_) (y_move) (on_of (t := 140) rfl rfl) ?_
                            refine go_y (v := .pointer (some ⟨b2, 10, none⟩)) (y_fieldAddr rfl ty_fl_25_10) (on_of (t := 140) rfl rfl) ?_
                            refine go_y (v := .int .i64 u2.up) (y_load_fld rfl hb5 ty_sc_3 rfl) (on_of (t := 140) rfl rfl) ?_
                            refine go_test (c := (run_ : Int) < u2.up) (y_lt rfl rfl) (on_of (t := 140) rfl rfl) (fun hc55 => ?_) (fun hc55 => ?_)
                            · refine go_y (v := .bool true) (y_move) (on_of (t := 140) rfl rfl) ?_
                              refine go_off (off_of (t := 145) (b' := true) rfl rfl rfl) ?_
                              refine go_off (off_of (t := 145) (b' := true) rfl rfl rfl) ?_
                              refine go_off (off_of (t := 145) (b' := true) rfl rfl rfl) ?_
                              refine go_off (off_of (t := 145) (b' := true) rfl rfl rfl) ?_
                              refine go_off (off_of (t := 145) (b' := true) rfl rfl rfl) ?_
                              refine go_y (v := .bool true) (y_pick_t rfl) (on_of (t := 140) rfl rfl) ?_
                              refine go_y (v := .bool true) (y_pick_t rfl) rfl ?_
                              refine go_y (v := .bool true) (y_assign) rfl ?_
                              refine go_ops_nil ?_
                              refine go_cond_true rfl ?_
                              refine go_seq ?_
                              refine go_region ?_
                              refine go_y (v := .bool false) (y_assign) rfl ?_
                              refine go_ops_nil ?_
                              refine go_ret ?_
                              exfalso; omega
                            · refine go_y (v := .bool false) (y_move) (on_of (t := 140) rfl rfl) ?_
                              refine go_y (v := vk) (y_move) (on_of (t := 145) rfl rfl) ?_
                              refine go_y (v := .int .i64 (g : Int)) (y_move) (on_of (t := 145) rfl rfl) ?_
                              obtain ⟨bb58, oo59, cc60, hv61, hc62⟩ := (hk.ext hx).at_ ha27
                              refine go_y (v := .pointer (some ⟨bb58, oo59 + g * 1, none⟩)) (y_idxn g rfl hv61 rfl (by omega) ty_sl_23 (el_lt ha27)) (on_of (t := 145) rfl rfl) ?_
                              refine go_y (v := .int .i64 a26) (y_load_el0 rfl hc62 ty_sc_3) (on_of (t := 145) rfl rfl) ?_
                              refine go_test (c := (a26 : Int) ≠ 0) (y_ne rfl rfl) (on_of (t := 145) rfl rfl) (fun hc63 => ?_) (fun hc63 => ?_)
                              · refine go_y (v := .bool true) (y_pick_f rfl) (on_of (t := 140) rfl rfl) ?_
                                refine go_y (v := .bool true) (y_pick_t rfl) rfl ?_
                                refine go_y (v := .bool true) (y_assign) rfl ?_
                                refine go_ops_nil ?_
                                refine go_cond_true rfl ?_
                                refine go_seq ?_
                                refine go_region ?_
                                refine go_y (v := .bool false) (y_assign) rfl ?_
                                refine go_ops_nil ?_
                                refine go_ret ?_
                                exfalso; omega
                              · refine go_y (v := .bool false) (y_pick_f rfl) (on_of (t := 140) rfl rfl) ?_
                                refine go_y (v := .bool false) (y_pick_t rfl) rfl ?_
                                refine go_y (v := .bool false) (y_assign) rfl ?_
                                refine go_ops_nil ?_
                                refine go_cond_false rfl ?_
                                refine go_skip ?_
                                refine go_blk ?_
                                refine go_region ?_
                                refine go_y (v := vk) (y_move) rfl ?_
                                refine go_y (v := .int .i64 (g : Int)) (y_move) rfl ?_
                                obtain ⟨bb66, oo67, cc68, hv69, hc70⟩ := (hk.ext hx).at_ ha27
                                refine go_y (v := .pointer (some ⟨bb66, oo67 + g * 1, none⟩)) (y_idxn g rfl hv69 rfl (by omega) ty_sl_23 (el_lt ha27)) rfl ?_
                                refine go_y (v := .int .i64 a26) (y_load_el0 rfl hc70 ty_sc_3) rfl ?_
                                refine go_y (v := .int .i64 a26) (y_assign) rfl ?_
                                refine go_y (v := .int .i64 1) (y_assign) rfl ?_
                                refine go_ops_nil ?_
                                refine go_blk ?_
                                refine go_region ?_
                                refine go_y (v := .int .i64 (g : Int)) (y_move) rfl ?_
                                refine go_y (v := .int .i64 ((g : Int) + 1)) (y_add rfl rfl (by unfold in64; omega)) rfl ?_
                                refine go_y (v := .int .i64 ((g : Int) + 1)) (y_assign) rfl ?_
                                refine go_ops_nil ?_
                                refine go_upto ⟨g + 1, a26, 1, ?_, ⟨ie (by omega), ie (by omega), ie (by omega), trivial⟩, ⟨hx, hb5, hsa9, hs0, (by omega), (hother hc33), (by omega)⟩, (by omega)⟩
                                repeat (refine Agree.upd rfl ?_)
                                exact Agree.updL rfl (Agree.havoc rfl (Agree.refl _ _))
                          · refine go_y (v := .bool false) (y_move) rfl ?_
                            refine go_off (off_of (t := 140) (b' := false) rfl rfl rfl) ?_
                            refine go_off (off_of (t := 140) (b' := false) rfl rfl rfl) ?_
                            refine go_off (off_of (t := 140) (b' := false) rfl rfl rfl) ?_
                            refine go_off (off_of (t := 140) (b' := false) rfl rfl rfl) ?_
                            refine go_off (off_of (t := 140) (b' := false) rfl rfl rfl) ?_
                            refine go_off (off_undef (t := 145) rfl rfl) ?_
                            refine go_off (off_undef (t := 145) rfl rfl) ?_
                            refine go_off (off_undef (t := 145) rfl rfl) ?_
                            refine go_off (off_undef (t := 145) rfl rfl) ?_
                            refine go_off (off_undef (t := 145) rfl rfl) ?_
                            refine go_off (off_of (t := 140) (b' := false) rfl rfl rfl) ?_
                            refine go_y (v := .bool false) (y_pick_f rfl) rfl ?_
                            refine go_y (v := .bool false) (y_assign) rfl ?_
                            refine go_ops_nil ?_
                            refine go_cond_false rfl ?_
                            refine go_skip ?_
                            refine go_blk ?_
                            refine go_region ?_
                            refine go_y (v := vk) (y_move) rfl ?_
                            refine go_y (v := .int .i64 (g : Int)) (y_move) rfl ?_
                            obtain ⟨bb57, oo58, cc59, hv60, hc61⟩ := (hk.ext hx).at_ ha27
                            refine go_y (v := .pointer (some ⟨bb57, oo58 + g * 1, none⟩)) (y_idxn g rfl hv60 rfl (by omega) ty_sl_23 (el_lt ha27)) rfl ?_
                            refine go_y (v := .int .i64 a26) (y_load_el0 rfl hc61 ty_sc_3) rfl ?_
                            refine go_y (v := .int .i64 a26) (y_assign) rfl ?_
                            refine go_y (v := .int .i64 1) (y_assign) rfl ?_
                            refine go_ops_nil ?_
                            refine go_blk ?_
                            refine go_region ?_
                            refine go_y (v := .int .i64 (g : Int)) (y_move) rfl ?_
                            refine go_y (v := .int .i64 ((g : Int) + 1)) (y_add rfl rfl (by unfold in64; omega)) rfl ?_
                            refine go_y (v := .int .i64 ((g : Int) + 1)) (y_assign) rfl ?_
                            refine go_ops_nil ?_
                            refine go_upto ⟨g + 1, a26, 1, ?_, ⟨ie (by omega), ie (by omega), ie (by omega), trivial⟩, ⟨hx, hb5, hsa9, hs0, (by omega), (hother hc33), (by omega)⟩, (by omega)⟩
                            repeat (refine Agree.upd rfl ?_)
                            exact Agree.updL rfl (Agree.havoc rfl (Agree.refl _ _))
                  · refine go_y (v := .bool false) (y_move) (on_of (t := 96) rfl rfl) ?_
                    refine go_off (off_of (t := 102) (b' := false) rfl rfl rfl) ?_
                    refine go_off (off_of (t := 102) (b' := false) rfl rfl rfl) ?_
                    refine go_off (off_of (t := 102) (b' := false) rfl rfl rfl) ?_
                    refine go_y (v := .bool false) (y_pick_f rfl) (on_of (t := 96) rfl rfl) ?_
                    refine go_y (v := .bool false) (y_pick_f rfl) (on_of (t := 91) rfl rfl) ?_
                    refine go_y (v := .bool false) (y_move) (on_of (t := 91) rfl rfl) ?_
                    refine go_y (v := vk) (y_move) (on_of (t := 108) rfl rfl) ?_
                    refine go_y (v := .int .i64 (g : Int)) (y_move) (on_of (t := 108) rfl rfl) ?_
                    obtain ⟨bb46, oo47, cc48, hv49, hc50⟩ := (hk.ext hx).at_ ha27
                    refine go_y (v := .pointer (some ⟨bb46, oo47 + g * 1, none⟩)) (y_idxn g rfl hv49 rfl (by omega) ty_sl_23 (el_lt ha27)) (on_of (t := 108) rfl rfl) ?_
                    refine go_y (v := .int .i64 a26) (y_load_el0 rfl hc50 ty_sc_3) (on_of (t := 108) rfl rfl) ?_
                    refine go_test (c := (a26 : Int) = 1) (y_eq rfl rfl) (on_of (t := 108) rfl rfl) (fun hc51 => ?_) (fun hc51 => ?_)
                    · refine go_y (v := .bool true) (y_move) (on_of (t := 108) rfl rfl) ?_
                      refine go_y (v := .pointer (some ⟨b2, 12, none⟩)) (y_fieldAddr rfl ty_fl_25_12) (on_of (t := 114) rfl rfl) ?_
                      refine go_y (v := .int .i64 u2.st) (y_load_fld rfl hb5 ty_sc_3 rfl) (on_of (t := 114) rfl rfl) ?_
                      refine go_test (c := (u2.st : Int) = 0) (y_eq rfl rfl) (on_of (t := 114) rfl rfl) (fun hc52 => ?_) (fun hc52 => ?_)
                      · refine go_y (v := .bool true) (y_pick_t rfl) (on_of (t := 108) rfl rfl) ?_
                        refine go_y (v := .bool true) (y_pick_f rfl) (on_of (t := 91) rfl rfl) ?_
                        refine go_y (v := .bool true) (y_pick_t rfl) rfl ?_
                        refine go_y (v := .bool true) (y_assign) rfl ?_
                        refine go_ops_nil ?_
                        refine go_cond_true rfl ?_
                        refine go_seq ?_
                        refine go_region ?_
                        refine go_y (v := .bool false) (y_assign) rfl ?_
                        refine go_ops_nil ?_
                        refine go_ret ?_
                        exfalso; omega
                      · refine go_y (v := .bool false) (y_pick_t rfl) (on_of (t := 108) rfl rfl) ?_
                        refine go_y (v := .bool false) (y_pick_f rfl) (on_of (t := 91) rfl rfl) ?_
                        refine go_y (v := .bool false) (y_pick_t rfl) rfl ?_
                        refine go_y (v := .bool false) (y_assign) rfl ?_
                        refine go_ops_nil ?_
                        refine go_cond_false rfl ?_
                        refine go_seq ?_
                        refine go_region ?_
                        refine go_y (v := .int .i64 kind) (y_move) rfl ?_
                        refine go_test (c := (kind : Int) = 1) (y_eq rfl rfl) rfl (fun hc53 => ?_) (fun hc53 => ?_)
                        · refine go_y (v := .bool true) (y_move) rfl ?_
                          refine go_y (v := .int .i64 run_) (y_move) (on_of (t := 124) rfl rfl) ?_
                          refine go_y (v := .pointer (some ⟨b2, 12, none⟩)) (y_fieldAddr rfl ty_fl_25_12) (on_of (t := 124) rfl rfl) ?_
                          refine go_y (v := .int .i64 u2.st) (y_load_fld rfl hb5 ty_sc_3 rfl) (on_of (t := 124) rfl rfl) ?_
                          refine go_test (c := (run_ : Int) ≠ u2.st) (y_ne rfl rfl) (on_of (t := 124) rfl rfl) (fun hc54 => ?_) (fun hc54 => ?_)
                          · refine go_y (v := .bool true) (y_move) (on_of (t := 124) rfl rfl) ?_
                            refine go_off (off_of (t := 129) (b' := true) rfl rfl rfl) ?_
                            refine go_off (off_of (t := 129) (b' := true) rfl rfl rfl) ?_
                            refine go_off (off_of (t := 129) (b' := true) rfl rfl rfl) ?_
                            refine go_off (off_of (t := 129) (b' := true) rfl rfl rfl) ?_
                            refine go_off (off_of (t := 129) (b' := true) rfl rfl rfl) ?_
                            refine go_y (v := .bool true) (y_pick_t rfl) (on_of (t := 124) rfl rfl) ?_
                            refine go_y (v := .bool true) (y_pick_t rfl) rfl ?_
                            refine go_y (v := .bool true) (y_assign) rfl ?_
                            refine go_ops_nil ?_
                            refine go_cond_true rfl ?_
                            refine go_seq ?_
                            refine go_region ?_
                            refine go_y (v := .bool false) (y_assign) rfl ?_
                            refine go_ops_nil ?_
                            refine go_ret ?_
                            exfalso; omega
                          · refine go_y (v := .bool false) (y_move) (on_of (t := 124) rfl rfl) ?_
                            refine go_y (v := vk) (y_move) (on_of (t := 129) rfl rfl) ?_
                            refine go_y (v := .int .i64 (g : Int)) (y_move) (on_of (t := 129) rfl rfl) ?_
                            obtain ⟨bb57, oo58, cc59, hv60, hc61⟩ := (hk.ext hx).at_ ha27
                            refine go_y (v := .pointer (some ⟨bb57, oo58 + g * 1, none⟩)) (y_idxn g rfl hv60 rfl (by omega) ty_sl_23 (el_lt ha27)) (on_of (t := 129) rfl rfl) ?_
                            refine go_y (v := .int .i64 a26) (y_load_el0 rfl hc61 ty_sc_3) (on_of (t := 129) rfl rfl) ?_
                            refine go_test (c := (a26 : Int) ≠ 2) (y_ne rfl rfl) (on_of (t := 129) rfl rfl) (fun hc62 => ?_) (fun hc62 => ?_)
                            · refine go_y (v := .bool true) (y_pick_f rfl) (on_of (t := 124) rfl rfl) ?_
                              refine go_y (v := .bool true) (y_pick_t rfl) rfl ?_
                              refine go_y (v := .bool true) (y_assign) rfl ?_
                              refine go_ops_nil ?_
                              refine go_cond_true rfl ?_
                              refine go_seq ?_
                              refine go_region ?_
                              refine go_y (v := .bool false) (y_assign) rfl ?_
                              refine go_ops_nil ?_
                              refine go_ret ?_
                              exfalso; omega
                            · refine go_y (v := .bool false) (y_pick_f rfl) (on_of (t := 124) rfl rfl) ?_
                              refine go_y (v := .bool false) (y_pick_t rfl) rfl ?_
                              refine go_y (v := .bool false) (y_assign) rfl ?_
                              refine go_ops_nil ?_
                              refine go_cond_false rfl ?_
                              refine go_seq ?_
                              refine go_region ?_
                              refine go_y (v := .int .i64 kind) (y_move) rfl ?_
                              refine go_test (c := (kind : Int) = 2) (y_eq rfl rfl) rfl (fun hc63 => ?_) (fun hc63 => ?_)
                              · refine go_y (v := .bool true) (y_move) rfl ?_
                                refine go_y (v := .int .i64 run_) (y_move) (on_of (t := 140) rfl rfl) ?_
                                refine go_y (v := .pointer (some ⟨b2, 10, none⟩)) (y_fieldAddr rfl ty_fl_25_10) (on_of (t := 140) rfl rfl) ?_
                                refine go_y (v := .int .i64 u2.up) (y_load_fld rfl hb5 ty_sc_3 rfl) (on_of (t := 140) rfl rfl) ?_
                                refine go_test (c := (run_ : Int) < u2.up) (y_lt rfl rfl) (on_of (t := 140) rfl rfl) (fun hc64 => ?_) (fun hc64 => ?_)
                                · refine go_y (v := .bool true) (y_move) (on_of (t := 140) rfl rfl) ?_
                                  refine go_off (off_of (t := 145) (b' := true) rfl rfl rfl) ?_
                                  refine go_off (off_of (t := 145) (b' := true) rfl rfl rfl) ?_
                                  refine go_off (off_of (t := 145) (b' := true) rfl rfl rfl) ?_
                                  refine go_off (off_of (t := 145) (b' := true) rfl rfl rfl) ?_
                                  refine go_off (off_of (t := 145) (b' := true) rfl rfl rfl) ?_
                                  refine go_y (v := .bool true) (y_pick_t rfl) (on_of (t := 140) rfl rfl) ?_
                                  refine go_y (v := .bool true) (y_pick_t rfl) rfl ?_
                                  refine go_y (v := .bool true) (y_assign) rfl ?_
                                  refine go_ops_nil ?_
                                  refine go_cond_true rfl ?_
                                  refine go_seq ?_
                                  refine go_region ?_
                                  refine go_y (v := .bool false) (y_assign) rfl ?_
                                  refine go_ops_nil ?_
                                  refine go_ret ?_
                                  exfalso; omega
                                · refine go_y (v := .bool false) (y_move) (on_of (t := 140) rfl rfl) ?_
                                  refine go_y (v := vk) (y_move) (on_of (t := 145) rfl rfl) ?_
                                  refine go_y (v := .int .i64 (g : Int)) (y_move) (on_of (t := 145) rfl rfl) ?_
                                  obtain ⟨bb67, oo68, cc69, hv70, hc71⟩ := (hk.ext hx).at_ ha27
                                  refine go_y (v := .pointer (some ⟨bb67, oo68 + g * 1, none⟩)) (y_idxn g rfl hv70 rfl (by omega) ty_sl_23 (el_lt ha27)) (on_of (t := 145) rfl rfl) ?_
                                  refine go_y (v := .int .i64 a26) (y_load_el0 rfl hc71 ty_sc_3) (on_of (t := 145) rfl rfl) ?_
                                  refine go_test (c := (a26 : Int) ≠ 0) (y_ne rfl rfl) (on_of (t := 145) rfl rfl) (fun hc72 => ?_) (fun hc72 => ?_)
                                  · refine go_y (v := .bool true) (y_pick_f rfl) (on_of (t := 140) rfl rfl) ?_
                                    refine go_y (v := .bool true) (y_pick_t rfl) rfl ?_
                                    refine go_y (v := .bool true) (y_assign) rfl ?_
                                    refine go_ops_nil ?_
                                    refine go_cond_true rfl ?_
                                    refine go_seq ?_
                                    refine go_region ?_
                                    refine go_y (v := .bool false) (y_assign) rfl ?_
                                    refine go_ops_nil ?_
                                    refine go_ret ?_
                                    exfalso; omega
                                  · refine go_y (v := .bool false) (y_pick_f rfl) (on_of (t := 140) rfl rfl) ?_
                                    refine go_y (v := .bool false) (y_pick_t rfl) rfl ?_
                                    refine go_y (v := .bool false) (y_assign) rfl ?_
                                    refine go_ops_nil ?_
                                    refine go_cond_false rfl ?_
                                    refine go_skip ?_
                                    refine go_blk ?_
                                    refine go_region ?_
                                    refine go_y (v := vk) (y_move) rfl ?_
                                    refine go_y (v := .int .i64 (g : Int)) (y_move) rfl ?_
                                    obtain ⟨bb75, oo76, cc77, hv78, hc79⟩ := (hk.ext hx).at_ ha27
                                    refine go_y (v := .pointer (some ⟨bb75, oo76 + g * 1, none⟩)) (y_idxn g rfl hv78 rfl (by omega) ty_sl_23 (el_lt ha27)) rfl ?_
                                    refine go_y (v := .int .i64 a26) (y_load_el0 rfl hc79 ty_sc_3) rfl ?_
                                    refine go_y (v := .int .i64 a26) (y_assign) rfl ?_
                                    refine go_y (v := .int .i64 1) (y_assign) rfl ?_
                                    refine go_ops_nil ?_
                                    refine go_blk ?_
                                    refine go_region ?_
                                    refine go_y (v := .int .i64 (g : Int)) (y_move) rfl ?_
                                    refine go_y (v := .int .i64 ((g : Int) + 1)) (y_add rfl rfl (by unfold in64; omega)) rfl ?_
                                    refine go_y (v := .int .i64 ((g : Int) + 1)) (y_assign) rfl ?_
                                    refine go_ops_nil ?_
                                    refine go_upto ⟨g + 1, a26, 1, ?_, ⟨ie (by omega), ie (by omega), ie (by omega), trivial⟩, ⟨hx, hb5, hsa9, hs0, (by omega), (hother hc33), (by omega)⟩, (by omega)⟩
                                    repeat (refine Agree.upd rfl ?_)
                                    exact Agree.updL rfl (Agree.havoc rfl (Agree.refl _ _))
                              · refine go_y (v := .bool false) (y_move) rfl ?_
                                refine go_off (off_of (t := 140) (b' := false) rfl rfl rfl) ?_
                                refine go_off (off_of (t := 140) (b' := false) rfl rfl rfl) ?_
                                refine go_off (off_of (t := 140) (b' := false) rfl rfl rfl) ?_
                                refine go_off (off_of (t := 140) (b' := false) rfl rfl rfl) ?_
                                refine go_off (off_of (t := 140) (b' := false) rfl rfl rfl) ?_
                                refine go_off (off_undef (t := 145) rfl rfl) ?_
                                refine go_off (off_undef (t := 145) rfl rfl) ?_
                                refine go_off (off_undef (t := 145) rfl rfl) ?_
                                refine go_off (off_undef (t := 145) rfl rfl) ?_
                                refine go_off (off_undef (t := 145) rfl rfl) ?_
                                refine go_off (off_of (t := 140) (b' := false) rfl rfl rfl) ?_
                                refine go_y (v := .bool false) (y_pick_f rfl) rfl ?_
                                refine go_y (v := .bool false) (y_assign) rfl ?_
                                refine go_ops_nil ?_
                                refine go_cond_false rfl ?_
                                refine go_skip ?_
                                refine go_blk ?_
                                refine go_region ?_
                                refine go_y (v := vk) (y_move) rfl ?_
                                refine go_y (v := .int .i64 (g : Int)) (y_move) rfl ?_
                                obtain ⟨bb66, oo67, cc68, hv69, hc70⟩ := (hk.ext hx).at_ ha27
                                refine go_y (v := .pointer (some ⟨bb66, oo67 + g * 1, none⟩)) (y_idxn g rfl hv69 rfl (by omega) ty_sl_23 (el_lt ha27)) rfl ?_
                                refine go_y (v := .int .i64 a26) (y_load_el0 rfl hc70 ty_sc_3) rfl ?_
                                refine go_y (v := .int .i64 a26) (y_assign) rfl ?_
                                refine go_y (v := .int .i64 1) (y_assign) rfl ?_
                                refine go_ops_nil ?_
                                refine go_blk ?_
                                refine go_region ?_
                                refine go_y (v := .int .i64 (g : Int)) (y_move) rfl ?_
                                refine go_y (v := .int .i64 ((g : Int) + 1)) (y_add rfl rfl (by unfold in64; omega)) rfl ?_
                                refine go_y (v := .int .i64 ((g : Int) + 1)) (y_assign) rfl ?_
                                refine go_ops_nil ?_
                                refine go_upto ⟨g + 1, a26, 1, ?_, ⟨ie (by omega), ie (by omega), ie (by omega), trivial⟩, ⟨hx, hb5, hsa9, hs0, (by omega), (hother hc33), (by omega)⟩, (by omega)⟩
                                repeat (refine Agree.upd rfl ?_)
                                exact Agree.updL rfl (Agree.havoc rfl (Agree.refl _ _))
                        · refine go_y (v := .bool false) (y_move) rfl ?_
                          refine go_off (off_of (t := 124) (b' := false) rfl rfl rfl) ?_
                          refine go_off (off_of (t := 124) (b' := false) rfl rfl rfl) ?_
                          refine go_off (off_of (t := 124) (b' := false) rfl rfl rfl) ?_
                          refine go_off (off_of (t := 124) (b' := false) rfl rfl rfl) ?_
                          refine go_off (off_of (t := 124) (b' := false) rfl rfl rfl) ?_
                          refine go_off (off_undef (t := 129) rfl rfl) ?_
                          refine go_off (off_undef (t := 129) rfl rfl) ?_
                          refine go_off (off_undef (t := 129) rfl rfl) ?_
                          refine go_off (off_undef (t := 129) rfl rfl) ?_
                          refine go_off (off_undef (t := 129) rfl rfl) ?_
                          refine go_off (off_of (t := 124) (b' := false) rfl rfl rfl) ?_
                          refine go_y (v := .bool false) (y_pick_f rfl) rfl ?_
                          refine go_y (v := .bool false) (y_assign) rfl ?_
                          refine go_ops_nil ?_
                          refine go_cond_false rfl ?_
                          refine go_seq ?_
                          refine go_region ?_
                          refine go_y (v := .int .i64 kind) (y_move) rfl ?_
                          refine go_test (c := (kind : Int) = 2) (y_eq rfl rfl) rfl (fun hc54 => ?_) (fun hc54 => ?_)
                          · refine go_y (v := .bool true) (y_move) rfl ?_
                            refine go_y (v := .int .i64 run_) (y_move) (on_of (t := 140) rfl rfl) ?_
                            refine go_y (v := .pointer (some ⟨b2, 10, none⟩)) (y_fieldAddr rfl ty_fl_25_10) (on_of (t := 140) rfl rfl) ?_
                            refine go_y (v := .int .i64 u2.up) (y_load_fld rfl hb5 ty_sc_3 rfl) (on_of (t := 140) rfl rfl) ?_
                            refine go_test (c := (run_ : Int) < u2.up) (y_lt rfl rfl) (on_of (t := 140) rfl rfl) (fun hc55 => ?_) (fun hc55 => ?_)
                            · refine go_y (v := .bool true) (y_move) (on_of (t := 140) rfl rfl) ?_
                              refine go_off (off_of (t := 145) (b' := true) rfl rfl rfl) ?_
                              refine go_off (off_of (t := 145) (b' := true) rfl rfl rfl) ?_
                              refine go_off (off_of (t := 145) (b' := true) rfl rfl rfl) ?_
                              refine go_off (off_of (t := 145) (b' := true) rfl rfl rfl) ?_
                              refine go_off (off_of (t := 145) (b' := true) rfl rfl rfl) ?_
                              refine go_y (v := .bool true) (y_pick_t rfl) (on_of (t := 140) rfl rfl) ?_
                              refine go_y (v := .bool true) (y_pick_t rfl) rfl ?_
                              refine go_y (v := .bool true) (y_assign) rfl ?_
                              refine go_ops_nil ?_
                              refine go_cond_true rfl ?_
                              refine go_seq ?_
                              refine go_region ?_
                              refine go_y (v := .bool false) (y_assign) rfl ?_
                              refine go_ops_nil ?_
                              refine go_ret ?_
                              exfalso; omega
                            · refine go_y (v := .bool false) (y_move) (on_of (t := 140) rfl rfl) ?_
                              refine go_y (v := vk) (y_move) (on_of (t := 145) rfl rfl) ?_
                              refine go_y (v := .int .i64 (g : Int)) (y_move) (on_of (t := 145) rfl rfl) ?_
                              obtain ⟨bb58, oo59, cc60, hv61, hc62⟩ := (hk.ext hx).at_ ha27
                              refine go_y (v := .pointer (some ⟨bb58, oo59 + g * 1, none⟩)) (y_idxn g rfl hv61 rfl (by omega) ty_sl_23 (el_lt ha27)) (on_of (t := 145) rfl rfl) ?_
                              refine go_y (v := .int .i64 a26) (y_load_el0 rfl hc62 ty_sc_3) (on_of (t := 145) rfl rfl) ?_
                              refine go_test (c := (a26 : Int) ≠ 0) (y_ne rfl rfl) (on_of (t := 145) rfl rfl) (fun hc63 => ?_) (fun hc63 => ?_)
                              · refine go_y (v := .bool true) (y_pick_f rfl) (on_of (t := 140) rfl rfl) ?_
                                refine go_y (v := .bool true) (y_pick_t rfl) rfl ?_
                                refine go_y (v := .bool true) (y_assign) rfl ?_
                                refine go_ops_nil ?_
                                refine go_cond_true rfl ?_
                                refine go_seq ?_
                                refine go_region ?_
                                refine go_y (v := .bool false) (y_assign) rfl ?_
                                refine go_ops_nil ?_
                                refine go_ret ?_
                                exfalso; omega
                              · refine go_y (v := .bool false) (y_pick_f rfl) (on_of (t := 140) rfl rfl) ?_
                                refine go_y (v := .bool false) (y_pick_t rfl) rfl ?_
                                refine go_y (v := .bool false) (y_assign) rfl ?_
                                refine go_ops_nil ?_
                                refine go_cond_false rfl ?_
                                refine go_skip ?_
                                refine go_blk ?_
                                refine go_region ?_
                                refine go_y (v := vk) (y_move) rfl ?_
                                refine go_y (v := .int .i64 (g : Int)) (y_move) rfl ?_
                                obtain ⟨bb66, oo67, cc68, hv69, hc70⟩ := (hk.ext hx).at_ ha27
                                refine go_y (v := .pointer (some ⟨bb66, oo67 + g * 1, none⟩)) (y_idxn g rfl hv69 rfl (by omega) ty_sl_23 (el_lt ha27)) rfl ?_
                                refine go_y (v := .int .i64 a26) (y_load_el0 rfl hc70 ty_sc_3) rfl ?_
                                refine go_y (v := .int .i64 a26) (y_assign) rfl ?_
                                refine go_y (v := .int .i64 1) (y_assign) rfl ?_
                                refine go_ops_nil ?_
                                refine go_blk ?_
                                refine go_region ?_
                                refine go_y (v := .int .i64 (g : Int)) (y_move) rfl ?_
                                refine go_y (v := .int .i64 ((g : Int) + 1)) (y_add rfl rfl (by unfold in64; omega)) rfl ?_
                                refine go_y (v := .int .i64 ((g : Int) + 1)) (y_assign) rfl ?_
                                refine go_ops_nil ?_
                                refine go_upto ⟨g + 1, a26, 1, ?_, ⟨ie (by omega), ie (by omega), ie (by omega), trivial⟩, ⟨hx, hb5, hsa9, hs0, (by omega), (hother hc33), (by omega)⟩, (by omega)⟩
                                repeat (refine Agree.upd rfl ?_)
                                exact Agree.updL rfl (Agree.havoc rfl (Agree.refl _ _))
                          · refine go_y (v := .bool false) (y_move) rfl ?_
                            refine go_off (off_of (t := 140) (b' := false) rfl rfl rfl) ?_
                            refine go_off (off_of (t := 140) (b' := false) rfl rfl rfl) ?_
                            refine go_off (off_of (t := 140) (b' := false) rfl rfl rfl) ?_
                            refine go_off (off_of (t := 140) (b' := false) rfl rfl rfl) ?_
                            refine go_off (off_of (t := 140) (b' := false) rfl rfl rfl) ?_
                            refine go_off (off_undef (t := 145) rfl rfl) ?_
                            refine go_off (off_undef (t := 145) rfl rfl) ?_
                            refine go_off (off_undef (t := 145) rfl rfl) ?_
                            refine go_off (off_undef (t := 145) rfl rfl) ?_
                            refine go_off (off_undef (t := 145) rfl rfl) ?_
                            refine go_off (off_of (t := 140) (b' := false) rfl rfl rfl) ?_
                            refine go_y (v := .bool false) (y_pick_f rfl) rfl ?_
                            refine go_y (v := .bool false) (y_assign) rfl ?_
                            refine go_ops_nil ?_
                            refine go_cond_false rfl ?_
                            refine go_skip ?_
                            refine go_blk ?_
                            refine go_region ?_
                            refine go_y (v := vk) (y_move) rfl ?_
                            refine go_y (v := .int .i64 (g : Int)) (y_move) rfl ?_
                            obtain ⟨bb57, oo58, cc59, hv60, hc61⟩ := (hk.ext hx).at_ ha27
                            refine go_y (v := .pointer (some ⟨bb57, oo58 + g * 1, none⟩)) (y_idxn g rfl hv60 rfl (by omega) ty_sl_23 (el_lt ha27)) rfl ?_
                            refine go_y (v := .int .i64 a26) (y_load_el0 rfl hc61 ty_sc_3) rfl ?_
                            refine go_y (v := .int .i64 a26) (y_assign) rfl ?_
                            refine go_y (v := .int .i64 1) (y_assign) rfl ?_
                            refine go_ops_nil ?_
                            refine go_blk ?_
                            refine go_region ?_
                            refine go_y (v := .int .i64 (g : Int)) (y_move) rfl ?_
                            refine go_y (v := .int .i64 ((g : Int) + 1)) (y_add rfl rfl (by unfold in64; omega)) rfl ?_
                            refine go_y (v := .int .i64 ((g : Int) + 1)) (y_assign) rfl ?_
                            refine go_ops_nil ?_
                            refine go_upto ⟨g + 1, a26, 1, ?_, ⟨ie (by omega), ie (by omega), ie (by omega), trivial⟩, ⟨hx, hb5, hsa9, hs0, (by omega), (hother hc33), (by omega)⟩, (by omega)⟩
                            repeat (refine Agree.upd rfl ?_)
                            exact Agree.updL rfl (Agree.havoc rfl (Agree.refl _ _))
                    · refine go_y (v := .bool false) (y_move) (on_of (t := 108) rfl rfl) ?_
                      refine go_off (off_of (t := 114) (b' := false) rfl rfl rfl) ?_
                      refine go_off (off_of (t := 114) (b' := false) rfl rfl rfl) ?_
                      refine go_off (off_of (t := 114) (b' := false) rfl rfl rfl) ?_
                      refine go_y (v := .bool false) (y_pick_f rfl) (on_of (t := 108) rfl rfl) ?_
                      refine go_y (v := .bool false) (y_pick_f rfl) (on_of (t := 91) rfl rfl) ?_
                      refine go_y (v := .bool false) (y_pick_t rfl) rfl ?_
                      refine go_y (v := .bool false) (y_assign) rfl ?_
                      refine go_ops_nil ?_
                      refine go_cond_false rfl ?_
                      refine go_seq ?_
                      refine go_region ?_
                      refine go_y (v := .int .i64 kind) (y_move) rfl ?_
                      refine go_test (c := (kind : Int) = 1) (y_eq rfl rfl) rfl (fun hc52 => ?_) (fun hc52 => ?_)
                      · refine go_y (v := .bool true) (y_move) rfl ?_
                        refine go_y (v := .int .i64 run_) (y_move) (on_of (t := 124) rfl rfl) ?_
                        refine go_y (v := .pointer (some ⟨b2, 12, none⟩)) (y_fieldAddr rfl ty_fl_25_12) (on_of (t := 124) rfl rfl) ?_
                        refine go_y (v := .int .i64 u2.st) (y_load_fld rfl hb5 ty_sc_3 rfl) (on_of (t := 124) rfl rfl) ?_
                        refine go_test (c := (run_ : Int) ≠ u2.st) (y_ne rfl rfl) (on_of (t := 124) rfl rfl) (fun hc53 => ?_) (fun hc53 => ?_)
                        · refine go_y (v := .bool true) (y_move) (on_of (t := 124) rfl rfl) ?_
                          refine go_off (off_of (t := 129) (b' := true) rfl rfl rfl) ?_
                          refine go_off (off_of (t := 129) (b' := true) rfl rfl rfl) ?_
                          refine go_off (off_of (t := 129) (b' := true) rfl rfl rfl) ?_
                          refine go_off (off_of (t := 129) (b' := true) rfl rfl rfl) ?_
                          refine go_off (off_of (t := 129) (b' := true) rfl rfl rfl) ?_
                          refine go_y (v := .bool true) (y_pick_t rfl) (on_of (t := 124) rfl rfl) ?_
                          refine go_y (v := .bool true) (y_pick_t rfl) rfl ?_
                          refine go_y (v := .bool true) (y_assign) rfl ?_
                          refine go_ops_nil ?_
                          refine go_cond_true rfl ?_
                          refine go_seq ?_
                          refine go_region ?_
                          refine go_y (v := .bool false) (y_assign) rfl ?_
                          refine go_ops_nil ?_
                          refine go_ret ?_
                          exfalso; omega
                        · refine go_y (v := .bool false) (y_move) (on_of (t := 124) rfl rfl) ?_
                          refine go_y (v := vk) (y_move) (on_of (t := 129) rfl rfl) ?_
                          refine go_y (v := .int .i64 (g : Int)) (y_move) (on_of (t := 129) rfl rfl) ?_
                          obtain ⟨bb56, oo57, cc58, hv59, hc60⟩ := (hk.ext hx).at_ ha27
                          refine go_y (v := .pointer (some ⟨bb56, oo57 + g * 1, none⟩)) (y_idxn g rfl hv59 rfl (by omega) ty_sl_23 (el_lt ha27)) (on_of (t := 129) rfl rfl) ?_
                          refine go_y (v := .int .i64 a26) (y_load_el0 rfl hc60 ty_sc_3) (on_of (t := 129) rfl rfl) ?_
                          refine go_test (c := (a26 : Int) ≠ 2) (y_ne rfl rfl) (on_of (t := 129) rfl rfl) (fun hc61 => ?_) (fun hc61 => ?_)
                          · refine go_y (v := .bool true) (y_pick_f rfl) (on_of (t := 124) rfl rfl) ?_
                            refine go_y (v := .bool true) (y_pick_t rfl) rfl ?_
                            refine go_y (v := .bool true) (y_assign) rfl ?_
                            refine go_ops_nil ?_
                            refine go_cond_true rfl ?_
                            refine go_seq ?_
                            refine go_region ?_
                            refine go_y (v := .bool false) (y_assign) rfl ?_
                            refine go_ops_nil ?_
                            refine go_ret ?_
                            exfalso; omega
                          · refine go_y (v := .bool false) (y_pick_f rfl) (on_of (t := 124) rfl rfl) ?_
                            refine go_y (v := .bool false) (y_pick_t rfl) rfl ?_
                            refine go_y (v := .bool false) (y_assign) rfl ?_
                            refine go_ops_nil ?_
                            refine go_cond_false rfl ?_
                            refine go_seq ?_
                            refine go_region ?_
                            refine go_y (v := .int .i64 kind) (y_move) rfl ?_
                            refine go_test (c := (kind : Int) = 2) (y_eq rfl rfl) rfl (fun hc62 => ?_) (fun hc62 => ?_)
                            · refine go_y (v := .bool true) (y_move) rfl ?_
                              refine go_y (v := .int .i64 run_) (y_move) (on_of (t := 140) rfl rfl) ?_
                              refine go_y (v := .pointer (some ⟨b2, 10, none⟩)) (y_fieldAddr rfl ty_fl_25_10) (on_of (t := 140) rfl rfl) ?_
                              refine go_y (v := .int .i64 u2.up) (y_load_fld rfl hb5 ty_sc_3 rfl) (on_of (t := 140) rfl rfl) ?_
                              refine go_test (c := (run_ : Int) < u2.up) (y_lt rfl rfl) (on_of (t := 140) rfl rfl) (fun hc63 => ?_) (fun hc63 => ?_)
                              · refine go_y (v := .bool true) (y_move) (on_of (t := 140) rfl rfl) ?_
                                refine go_off (off_of (t := 145) (b' := true) rfl rfl rfl) ?_
                                refine go_off (off_of (t := 145) (b' := true) rfl rfl rfl) ?_
                                refine go_off (off_of (t := 145) (b' := true) rfl rfl rfl) ?_
                                refine go_off (off_of (t := 145) (b' := true) rfl rfl rfl) ?_
                                refine go_off (off_of (t := 145) (b' := true) rfl rfl rfl) ?_
                                refine go_y (v := .bool true) (y_pick_t rfl) (on_of (t := 140) rfl rfl) ?_
                                refine go_y (v := .bool true) (y_pick_t rfl) rfl ?_
                                refine go_y (v := .bool true) (y_assign) rfl ?_
                                refine go_ops_nil ?_
                                refine go_cond_true rfl ?_
                                refine go_seq ?_
                                refine go_region ?_
                                refine go_y (v := .bool false) (y_assign) rfl ?_
                                refine go_ops_nil ?_
                                refine go_ret ?_
                                exfalso; omega
                              · refine go_y (v := .bool false) (y_move) (on_of (t := 140) rfl rfl) ?_
                                refine go_y (v := vk) (y_move) (on_of (t := 145) rfl rfl) ?_
                                refine go_y (v := .int .i64 (g : Int)) (y_move) (on_of (t := 145) rfl rfl) ?_
                                obtain ⟨bb66, oo67, cc68, hv69, hc70⟩ := (hk.ext hx).at_ ha27
                                refine go_y (v := .pointer (some ⟨bb66, oo67 + g * 1, none⟩)) (y_idxn g rfl hv69 rfl (by omega) ty_sl_23 (el_lt ha27)) (on_of (t := 145) rfl rfl) ?_
                                refine go_y (v := .int .i64 a26) (y_load_el0 rfl hc70 ty_sc_3) (on_of (t := 145) rfl rfl) ?_
                                refine go_test (c := (a26 : Int) ≠ 0) (y_ne rfl rfl) (on_of (t := 145) rfl rfl) (fun hc71 => ?_) (fun hc71 => ?_)
                                · refine go_y (v := .bool true) (y_pick_f rfl) (on_of (t := 140) rfl rfl) ?_
                                  refine go_y (v := .bool true) (y_pick_t rfl) rfl ?_
                                  refine go_y (v := .bool true) (y_assign) rfl ?_
                                  refine go_ops_nil ?_
                                  refine go_cond_true rfl ?_
                                  refine go_seq ?_
                                  refine go_region ?_
                                  refine go_y (v := .bool false) (y_assign) rfl ?_
                                  refine go_ops_nil ?_
                                  refine go_ret ?_
                                  exfalso; omega
                                · refine go_y (v := .bool false) (y_pick_f rfl) (on_of (t := 140) rfl rfl) ?_
                                  refine go_y (v := .bool false) (y_pick_t rfl) rfl ?_
                                  refine go_y (v := .bool false) (y_assign) rfl ?_
                                  refine go_ops_nil ?_
                                  refine go_cond_false rfl ?_
                                  refine go_skip ?_
                                  refine go_blk ?_
                                  refine go_region ?_
                                  refine go_y (v := vk) (y_move) rfl ?_
                                  refine go_y (v := .int .i64 (g : Int)) (y_move) rfl ?_
                                  obtain ⟨bb74, oo75, cc76, hv77, hc78⟩ := (hk.ext hx).at_ ha27
                                  refine go_y (v := .pointer (some ⟨bb74, oo75 + g * 1, none⟩)) (y_idxn g rfl hv77 rfl (by omega) ty_sl_23 (el_lt ha27)) rfl ?_
                                  refine go_y (v := .int .i64 a26) (y_load_el0 rfl hc78 ty_sc_3) rfl ?_
                                  refine go_y (v := .int .i64 a26) (y_assign) rfl ?_
                                  refine go_y (v := .int .i64 1) (y_assign) rfl ?_
                                  refine go_ops_nil ?_
                                  refine go_blk ?_
                                  refine go_region ?_
                                  refine go_y (v := .int .i64 (g : Int)) (y_move) rfl ?_
                                  refine go_y (v := .int .i64 ((g : Int) + 1)) (y_add rfl rfl (by unfold in64; omega)) rfl ?_
                                  refine go_y (v := .int .i64 ((g : Int) + 1)) (y_assign) rfl ?_
                                  refine go_ops_nil ?_
                                  refine go_upto ⟨g + 1, a26, 1, ?_, ⟨ie (by omega), ie (by omega), ie (by omega), trivial⟩, ⟨hx, hb5, hsa9, hs0, (by omega), (hother hc33), (by omega)⟩, (by omega)⟩
                                  repeat (refine Agree.upd rfl ?_)
                                  exact Agree.updL rfl (Agree.havoc rfl (Agree.refl _ _))
                            · refine go_y (v := .bool false) (y_move) rfl ?_
                              refine go_off (off_of (t := 140) (b' := false) rfl rfl rfl) ?_
                              refine go_off (off_of (t := 140) (b' := false) rfl rfl rfl) ?_
                              refine go_off (off_of (t := 140) (b' := false) rfl rfl rfl) ?_
                              refine go_off (off_of (t := 140) (b' := false) rfl rfl rfl) ?_
                              refine go_off (off_of (t := 140) (b' := false) rfl rfl rfl) ?_
                              refine go_off (off_undef (t := 145) rfl rfl) ?_
                              refine go_off (off_undef (t := 145) rfl rfl) ?_
                              refine go_off (off_undef (t := 145) rfl rfl) ?_
                              refine go_off (off_undef (t := 145) rfl rfl) ?_
                              refine go_off (off_undef (t := 145) rfl rfl) ?_
                              refine go_off (off_of (t := 140) (b' := false) rfl rfl rfl) ?_
                              refine go_y (v := .bool false) (y_pick_f rfl) rfl ?_
                              refine go_y (v := .bool false) (y_assign) rfl ?_
                              refine go_ops_nil ?_
                              refine go_cond_false rfl ?_
                              refine go_skip ?_
                              refine go_blk ?_
                              refine go_region ?_
                              refine go_y (v := vk) (y_move) rfl ?_
                              refine go_y (v := .int .i64 (g : Int)) (y_move) rfl ?_
                              obtain ⟨bb65, oo66, cc67, hv68, hc69⟩ := (hk.ext hx).at_ ha27
                              refine go_y (v := .pointer (some ⟨bb65, oo66 + g * 1, none⟩)) (y_idxn g rfl hv68 rfl (by omega) ty_sl_23 (el_lt ha27)) rfl ?_
                              refine go_y (v := .int .i64 a26) (y_load_el0 rfl hc69 ty_sc_3) rfl ?_
                              refine go_y (v := .int .i64 a26) (y_assign) rfl ?_
                              refine go_y (v := .int .i64 1) (y_assign) rfl ?_
                              refine go_ops_nil ?_
                              refine go_blk ?_
                              refine go_region ?_
                              refine go_y (v := .int .i64 (g : Int)) (y_move) rfl ?_
                              refine go_y (v := .int .i64 ((g : Int) + 1)) (y_add rfl rfl (by unfold in64; omega)) rfl ?_
                              refine go_y (v := .int .i64 ((g : Int) + 1)) (y_assign) rfl ?_
                              refine go_ops_nil ?_
                              refine go_upto ⟨g + 1, a26, 1, ?_, ⟨ie (by omega), ie (by omega), ie (by omega), trivial⟩, ⟨hx, hb5, hsa9, hs0, (by omega), (hother hc33), (by omega)⟩, (by omega)⟩
                              repeat (refine Agree.upd rfl ?_)
                              exact Agree.updL rfl (Agree.havoc rfl (Agree.refl _ _))
                      · refine go_y (v := .bool false) (y_move) rfl ?_
                        refine go_off (off_of (t := 124) (b' := false) rfl rfl rfl) ?_
                        refine go_off (off_of (t := 124) (b' := false) rfl rfl rfl) ?_
                        refine go_off (off_of (t := 124) (b' := false) rfl rfl rfl) ?_
                        refine go_off (off_of (t := 124) (b' := false) rfl rfl rfl) ?_
                        refine go_off (off_of (t := 124) (b' := false) rfl rfl rfl) ?_
                        refine go_off (off_undef (t := 129) rfl rfl) ?_
                        refine go_off (off_undef (t := 129) rfl rfl) ?_
                        refine go_off (off_undef (t := 129) rfl rfl) ?_
                        refine go_off (off_undef (t := 129) rfl rfl) ?_
                        refine go_off (off_undef (t := 129) rfl rfl) ?_
                        refine go_off (off_of (t := 124) (b' := false) rfl rfl rfl) ?_
                        refine go_y (v := .bool false) (y_pick_f rfl) rfl ?_
                        refine go_y (v := .bool false) (y_assign) rfl ?_
                        refine go_ops_nil ?_
                        refine go_cond_false rfl ?_
                        refine go_seq ?_
                        refine go_region ?_
                        refine go_y (v := .int .i64 kind) (y_move) rfl ?_
                        refine go_test (c := (kind : Int) = 2) (y_eq rfl rfl) rfl (fun hc53 => ?_) (fun hc53 => ?_)
                        · refine go_y (v := .bool true) (y_move) rfl ?_
                          refine go_y (v := .int .i64 run_) (y_move) (on_of (t := 140) rfl rfl) ?_
                          refine go_y (v := .pointer (some ⟨b2, 10, none⟩)) (y_fieldAddr rfl ty_fl_25_10) (on_of (t := 140) rfl rfl) ?_
                          refine go_y (v := .int .i64 u2.up) (y_load_fld rfl hb5 ty_sc_3 rfl) (on_of (t := 140) rfl rfl) ?_
                          refine go_test (c := (run_ : Int) < u2.up) (y_lt rfl rfl) (on_of (t := 140) rfl rfl) (fun hc54 => ?_) (fun hc54 => ?_)
                          · refine go_y (v := .bool true) (y_move) (on_of (t := 140) rfl rfl) ?_
                            refine go_off (off_of (t := 145) (b' := true) rfl rfl rfl) ?_
                            refine go_off (off_of (t := 145) (b' := true) rfl rfl rfl) ?_
                            refine go_off (off_of (t := 145) (b' := true) rfl rfl rfl) ?_
                            refine go_off (off_of (t := 145) (b' := true) rfl rfl rfl) ?_
                            refine go_off (off_of (t := 145) (b' := true) rfl rfl rfl) ?_
                            refine go_y (v := .bool true) (y_pick_t rfl) (on_of (t := 140) rfl rfl) ?_
                            refine go_y (v := .bool true) (y_pick_t rfl) rfl ?_
                            refine go_y (v := .bool true) (y_assign) rfl ?_
                            refine go_ops_nil ?_
                            refine go_cond_true rfl ?_
                            refine go_seq ?_
                            refine go_region ?_
                            refine go_y (v := .bool false) (y_assign) rfl ?_
                            refine go_ops_nil ?_
                            refine go_ret ?_
                            exfalso; omega
                          · refine go_y (v := .bool false) (y_move) (on_of (t := 140) rfl rfl) ?_
                            refine go_y (v := vk) (y_move) (on_of (t := 145) rfl rfl) ?_
                            refine go_y (v := .int .i64 (g : Int)) (y_move) (on_of (t := 145) rfl rfl) ?_
                            obtain ⟨bb57, oo58, cc59, hv60, hc61⟩ := (hk.ext hx).at_ ha27
                            refine go_y (v := .pointer (some ⟨bb57, oo58 + g * 1, none⟩)) (y_idxn g rfl hv60 rfl (by omega) ty_sl_23 (el_lt ha27)) (on_of (t := 145) rfl rfl) ?_
                            refine go_y (v := .int .i64 a26) (y_load_el0 rfl hc61 ty_sc_3) (on_of (t := 145) rfl rfl) ?_
                            refine go_test (c := (a26 : Int) ≠ 0) (y_ne rfl rfl) (on_of (t := 145) rfl rfl) (fun hc62 => ?_) (fun hc62 => ?_)
                            · refine go_y (v := .bool true) (y_pick_f rfl) (on_of (t := 140) rfl rfl) ?_
                              refine go_y (v := .bool true) (y_pick_t rfl) rfl ?_
                              refine go_y (v := .bool true) (y_assign) rfl ?_
                              refine go_ops_nil ?_
                              refine go_cond_true rfl ?_
                              refine go_seq ?_
                              refine go_region ?_
                              refine go_y (v := .bool false) (y_assign) rfl ?_
                              refine go_ops_nil ?_
                              refine go_ret ?_
                              exfalso; omega
                            · refine go_y (v := .bool false) (y_pick_f rfl) (on_of (t := 140) rfl rfl) ?_
                              refine go_y (v := .bool false) (y_pick_t rfl) rfl ?_
                              refine go_y (v := .bool false) (y_assign) rfl ?_
                              refine go_ops_nil ?_
                              refine go_cond_false rfl ?_
                              refine go_skip ?_
                              refine go_blk ?_
                              refine go_region ?_
                              refine go_y (v := vk) (y_move) rfl ?_
                              refine go_y (v := .int .i64 (g : Int)) (y_move) rfl ?_
                              obtain ⟨bb65, oo66, cc67, hv68, hc69⟩ := (hk.ext hx).at_ ha27
                              refine go_y (v := .pointer (some ⟨bb65, oo66 + g * 1, none⟩)) (y_idxn g rfl hv68 rfl (by omega) ty_sl_23 (el_lt ha27)) rfl ?_
                              refine go_y (v := .int .i64 a26) (y_load_el0 rfl hc69 ty_sc_3) rfl ?_
                              refine go_y (v := .int .i64 a26) (y_assign) rfl ?_
                              refine go_y (v := .int .i64 1) (y_assign) rfl ?_
                              refine go_ops_nil ?_
                              refine go_blk ?_
                              refine go_region ?_
                              refine go_y (v := .int .i64 (g : Int)) (y_move) rfl ?_
                              refine go_y (v := .int .i64 ((g : Int) + 1)) (y_add rfl rfl (by unfold in64; omega)) rfl ?_
                              refine go_y (v := .int .i64 ((g : Int) + 1)) (y_assign) rfl ?_
                              refine go_ops_nil ?_
                              refine go_upto ⟨g + 1, a26, 1, ?_, ⟨ie (by omega), ie (by omega), ie (by omega), trivial⟩, ⟨hx, hb5, hsa9, hs0, (by omega), (hother hc33), (by omega)⟩, (by omega)⟩
                              repeat (refine Agree.upd rfl ?_)
                              exact Agree.updL rfl (Agree.havoc rfl (Agree.refl _ _))
                        · refine go_y (v := .bool false) (y_move) rfl ?_
                          refine go_off (off_of (t := 140) (b' := false) rfl rfl rfl) ?_
                          refine go_off (off_of (t := 140) (b' := false) rfl rfl rfl) ?_
                          refine go_off (off_of (t := 140) (b' := false) rfl rfl rfl) ?_
                          refine go_off (off_of (t := 140) (b' := false) rfl rfl rfl) ?_
                          refine go_off (off_of (t := 140) (b' := false) rfl rfl rfl) ?_
                          refine go_off (off_undef (t := 145) rfl rfl) ?_
                          refine go_off (off_undef (t := 145) rfl rfl) ?_
                          refine go_off (off_undef (t := 145) rfl rfl) ?_
                          refine go_off (off_undef (t := 145) rfl rfl) ?_
                          refine go_off (off_undef (t := 145) rfl rfl) ?_
                          refine go_off (off_of (t := 140) (b' := false) rfl rfl rfl) ?_
                          refine go_y (v := .bool false) (y_pick_f rfl) rfl ?_
                          refine go_y (v := .bool false) (y_assign) rfl ?_
                          refine go_ops_nil ?_
                          refine go_cond_false rfl ?_
                          refine go_skip ?_
                          refine go_blk ?_
                          refine go_region ?_
                          refine go_y (v := vk) (y_move) rfl ?_
                          refine go_y (v := .int .i64 (g : Int)) (y_move) rfl ?_
                          obtain ⟨bb56, oo57, cc58, hv59, hc60⟩ := (hk.ext hx).at_ ha27
                          refine go_y (v := .pointer (some ⟨bb56, oo57 + g * 1, none⟩)) (y_idxn g rfl hv59 rfl (by omega) ty_sl_23 (el_lt ha27)) rfl ?_
                          refine go_y (v := .int .i64 a26) (y_load_el0 rfl hc60 ty_sc_3) rfl ?_
                          refine go_y (v := .int .i64 a26) (y_assign) rfl ?_
                          refine go_y (v := .int .i64 1) (y_assign) rfl ?_
                          refine go_ops_nil ?_
                          refine go_blk ?_
                          refine go_region ?_
                          refine go_y (v := .int .i64 (g : Int)) (y_move) rfl ?_
                          refine go_y (v := .int .i64 ((g : Int) + 1)) (y_add rfl rfl (by unfold in64; omega)) rfl ?_
                          refine go_y (v := .int .i64 ((g : Int) + 1)) (y_assign) rfl ?_
                          refine go_ops_nil ?_
                          refine go_upto ⟨g + 1, a26, 1, ?_, ⟨ie (by omega), ie (by omega), ie (by omega), trivial⟩, ⟨hx, hb5, hsa9, hs0, (by omega), (hother hc33), (by omega)⟩, (by omega)⟩
                          repeat (refine Agree.upd rfl ?_)
                          exact Agree.updL rfl (Agree.havoc rfl (Agree.refl _ _))
              · refine go_y (v := .bool false) (y_move) rfl ?_
                refine go_off (off_of (t := 91) (b' := false) rfl rfl rfl) ?_
                refine go_off (off_of (t := 91) (b' := false) rfl rfl rfl) ?_
                refine go_off (off_of (t := 91) (b' := false) rfl rfl rfl) ?_
                refine go_off (off_of (t := 91) (b' := false) rfl rfl rfl) ?_
                refine go_off (off_of (t := 91) (b' := false) rfl rfl rfl) ?_
                refine go_off (off_undef (t := 96) rfl rfl) ?_
                refine go_off (off_undef (t := 96) rfl rfl) ?_
                refine go_off (off_undef (t := 96) rfl rfl) ?_
                refine go_off (off_undef (t := 96) rfl rfl) ?_
                refine go_off (off_undef (t := 96) rfl rfl) ?_
                refine go_off (off_undef (t := 96) rfl rfl) ?_
                refine go_off (off_undef (t := 102) rfl rfl) ?_
                refine go_off (off_undef (t := 102) rfl rfl) ?_
                refine go_off (off_undef (t := 102) rfl rfl) ?_
                refine go_off (off_undef (t := 96) rfl rfl) ?_
                refine go_off (off_of (t := 91) (b' := false) rfl rfl rfl) ?_
                refine go_off (off_of (t := 91) (b' := false) rfl rfl rfl) ?_
                refine go_off (off_undef (t := 108) rfl rfl) ?_
                refine go_off (off_undef (t := 108) rfl rfl) ?_
                refine go_off (off_undef (t := 108) rfl rfl) ?_
                refine go_off (off_undef (t := 108) rfl rfl) ?_
                refine go_off (off_undef (t := 108) rfl rfl) ?_
                refine go_off (off_undef (t := 108) rfl rfl) ?_
                refine go_off (off_undef (t := 114) rfl rfl) ?_
                refine go_off (off_undef (t := 114) rfl rfl) ?_
                refine go_off (off_undef (t := 114) rfl rfl) ?_
                refine go_off (off_undef (t := 108) rfl rfl) ?_
                refine go_off (off_of (t := 91) (b' := false) rfl rfl rfl) ?_
                refine go_y (v := .bool false) (y_pick_f rfl) rfl ?_
                refine go_y (v := .bool false) (y_assign) rfl ?_
                refine go_ops_nil ?_
                refine go_cond_false rfl ?_
                refine go_seq ?_
                refine go_region ?_
                refine go_y (v := .int .i64 kind) (y_move) rfl ?_
                refine go_test (c := (kind : Int) = 1) (y_eq rfl rfl) rfl (fun hc35 => ?_) (fun hc35 => ?_)
                · refine go_y (v := .bool true) (y_move) rfl ?_
                  refine go_y (v := .int .i64 run_) (y_move) (on_of (t := 124) rfl rfl) ?_
                  refine go_y (v := .pointer (some ⟨b2, 12, none⟩)) (y_fieldAddr rfl ty_fl_25_12) (on_of (t := 124) rfl rfl) ?_
                  refine go_y (v := .int .i64 u2.st) (y_load_fld rfl hb5 ty_sc_3 rfl) (on_of (t := 124) rfl rfl) ?_
                  refine go_test (c := (run_ : Int) ≠ u2.st) (y_ne rfl rfl) (on_of (t := 124) rfl rfl) (fun hc36 => ?_) (fun hc36 => ?_)
                  · refine go_y (v := .bool true) (y_move) (on_of (t := 124) rfl rfl) ?_
                    refine go_off (off_of (t := 129) (b' := true) rfl rfl rfl) ?_
                    refine go_off (off_of (t := 129) (b' := true) rfl rfl rfl) ?_
                    refine go_off (off_of (t := 129) (b' := true) rfl rfl rfl) ?_
                    refine go_off (off_of (t := 129) (b' := true) rfl rfl rfl) ?_
                    refine go_off (off_of (t := 129) (b' := true) rfl rfl rfl) ?_
                    refine go_y (v := .bool true) (y_pick_t rfl) (on_of (t := 124) rfl rfl) ?_
                    refine go_y (v := .bool true) (y_pick_t rfl) rfl ?_
                    refine go_y (v := .bool true) (y_assign) rfl ?_
                    refine go_ops_nil ?_
                    refine go_cond_true rfl ?_
                    refine go_seq ?_
                    refine go_region ?_
                    refine go_y (v := .bool false) (y_assign) rfl ?_
                    refine go_ops_nil ?_
                    refine go_ret ?_
                    exfalso; omega
                  · refine go_y (v := .bool false) (y_move) (on_of (t := 124) rfl rfl) ?_
                    refine go_y (v := vk) (y_move) (on_of (t := 129) rfl rfl) ?_
                    refine go_y (v := .int .i64 (g : Int)) (y_move) (on_of (t := 129) rfl rfl) ?_
                    obtain ⟨bb39, oo40, cc41, hv42, hc43⟩ := (hk.ext hx).at_ ha27
                    refine go_y (v := .pointer (some ⟨bb39, oo40 + g * 1, none⟩)) (y_idxn g rfl hv42 rfl (by omega) ty_sl_23 (el_lt ha27)) (on_of (t := 129) rfl rfl) ?_
                    refine go_y (v := .int .i64 a26) (y_load_el0 rfl hc43 ty_sc_3) (on_of (t := 129) rfl rfl) ?_
                    refine go_test (c := (a26 : Int) ≠ 2) (y_ne rfl rfl) (on_of (t := 129) rfl rfl) (fun hc44 => ?_) (fun hc44 => ?_)
                    · refine go_y (v := .bool true) (y_pick_f rfl) (on_of (t := 124) rfl rfl) ?_
                      refine go_y (v := .bool true) (y_pick_t rfl) rfl ?_
                      refine go_y (v := .bool true) (y_assign) rfl ?_
                      refine go_ops_nil ?_
                      refine go_cond_true rfl ?_
                      refine go_seq ?_
                      refine go_region ?_
                      refine go_y (v := .bool false) (y_assign) rfl ?_
                      refine go_ops_nil ?_
                      refine go_ret ?_
                      exfalso; omega
                    · refine go_y (v := .bool false) (y_pick_f rfl) (on_of (t := 124) rfl rfl) ?_
                      refine go_y (v := .bool false) (y_pick_t rfl) rfl ?_
                      refine go_y (v := .bool false) (y_assign) rfl ?_
                      refine go_ops_nil ?_
                      refine go_cond_false rfl ?_
                      refine go_seq ?_
                      refine go_region ?_
                      refine go_y (v := .int .i64 kind) (y_move) rfl ?_
                      refine go_test (c := (kind : Int) = 2) (y_eq rfl rfl) rfl (fun hc45 => ?_) (fun hc45 => ?_)
                      · refine go_y (v := .bool true) (y_move) rfl ?_
                        refine go_y (v := .int .i64 run_) (y_move) (on_of (t := 140) rfl rfl) ?_
                        refine go_y (v := .pointer (some ⟨b2, 10, none⟩)) (y_fieldAddr rfl ty_fl_25_10) (on_of (t := 140) rfl rfl) ?_
                        refine go_y (v := .int .i64 u2.up) (y_load_fld rfl hb5 ty_sc_3 rfl) (on_of (t := 140) rfl rfl) ?_
                        refine go_test (c := (run_ : Int) < u2.up) (y_lt rfl rfl) (on_of (t := 140) rfl rfl) (fun hc46 => ?_) (fun hc46 => ?_)
                        · refine go_y (v := .bool true) (y_move) (on_of (t := 140) rfl rfl) ?_
                          refine go_off (off_of (t := 145) (b' := true) rfl rfl rfl) ?_
                          refine go_off (off_of (t := 145) (b' := true) rfl rfl rfl) ?_
                          refine go_off (off_of (t := 145) (b' := true) rfl rfl rfl) ?_
                          refine go_off (off_of (t := 145) (b' := true) rfl rfl rfl) ?_
                          refine go_off (off_of (t := 145) (b' := true) rfl rfl rfl) ?_
                          refine go_y (v := .bool true) (y_pick_t rfl) (on_of (t := 140) rfl rfl) ?_
                          refine go_y (v := .bool true) (y_pick_t rfl) rfl ?_
                          refine go_y (v := .bool true) (y_assign) rfl ?_
                          refine go_ops_nil ?_
                          refine go_cond_true rfl ?_
                          refine go_seq ?_
                          refine go_region ?_
                          refine go_y (v := .bool false) (y_assign) rfl ?_
                          refine go_ops_nil ?_
                          refine go_ret ?_
                          exfalso; omega
                        · refine go_y (v := .bool false) (y_move) (on_of (t := 140) rfl rfl) ?_
                          refine go_y (v := vk) (y_move) (on_of (t := 145) rfl rfl) ?_
                          refine go_y (v := .int .i64 (g : Int)) (y_move) (on_of (t := 145) rfl rfl) ?_
                          obtain ⟨bb49, oo50, cc51, hv52, hc53⟩ := (hk.ext hx).at_ ha27
                          refine go_y (v := .pointer (some ⟨bb49, oo50 + g * 1, none⟩)) (y_idxn g rfl hv52 rfl (by omega) ty_sl_23 (el_lt ha27)) (on_of (t := 145) rfl rfl) ?_
                          refine go_y (v := .int .i64 a26) (y_load_el0 rfl hc53 ty_sc_3) (on_of (t := 145) rfl rfl) ?_
                          refine go_test (c := (a26 : Int) ≠ 0) (y_ne rfl rfl) (on_of (t := 145) rfl rfl) (fun hc54 => ?_) (fun hc54 => ?_)
                          · refine go_y (v := .bool true) (y_pick_f rfl) (on_of (t := 140) rfl rfl) ?_
                            refine go_y (v := .bool true) (y_pick_t rfl) rfl ?_
                            refine go_y (v := .bool true) (y_assign) rfl ?_
                            refine go_ops_nil ?_
                            refine go_cond_true rfl ?_
                            refine go_seq ?_
                            refine go_region ?_
                            refine go_y (v := .bool false) (y_assign) rfl ?_
                            refine go_ops_nil ?_
                            refine go_ret ?_
                            exfalso; omega
                          · refine go_y (v := .bool false) (y_pick_f rfl) (on_of (t := 140) rfl rfl) ?_
                            refine go_y (v := .bool false) (y_pick_t rfl) rfl ?_
                            refine go_y (v := .bool false) (y_assign) rfl ?_
                            refine go_ops_nil ?_
                            refine go_cond_false rfl ?_
                            refine go_skip ?_
                            refine go_blk ?_
                            refine go_region ?_
                            refine go_y (v := vk) (y_move) rfl ?_
                            refine go_y (v := .int .i64 (g : Int)) (y_move) rfl ?_
                            obtain ⟨bb57, oo58, cc59, hv60, hc61⟩ := (hk.ext hx).at_ ha27
                            refine go_y (v := .pointer (some ⟨bb57, oo58 + g * 1, none⟩)) (y_idxn g rfl hv60 rfl (by omega) ty_sl_23 (el_lt ha27)) rfl ?_
                            refine go_y (v := .int .i64 a26) (y_load_el0 rfl hc61 ty_sc_3) rfl ?_
                            refine go_y (v := .int .i64 a26) (y_assign) rfl ?_
                            refine go_y (v := .int .i64 1) (y_assign) rfl ?_
                            refine go_ops_nil ?_
                            refine go_blk ?_
                            refine go_region ?_
                            refine go_y (v := .int .i64 (g : Int)) (y_move) rfl ?_
                            refine go_y (v := .int .i64 ((g : Int) + 1)) (y_add rfl rfl (by unfold in64; omega)) rfl ?_
                            refine go_y (v := .int .i64 ((g : Int) + 1)) (y_assign) rfl ?_
                            refine go_ops_nil ?_
                            refine go_upto ⟨g + 1, a26, 1, ?_, ⟨ie (by omega), ie (by omega), ie (by omega), trivial⟩, ⟨hx, hb5, hsa9, hs0, (by omega), (hother hc33), (by omega)⟩, (by omega)⟩
                            repeat (refine Agree.upd rfl ?_)
                            exact Agree.updL rfl (Agree.havoc rfl (Agree.refl _ _))
                      · refine go_y (v := .bool false) (y_move) rfl ?_
                        refine go_off (off_of (t := 140) (b' := false) rfl rfl rfl) ?_
                        refine go_off (off_of (t := 140) (b' := false) rfl rfl rfl) ?_
                        refine go_off (off_of (t := 140) (b' := false) rfl rfl rfl) ?_
                        refine go_off (off_of (t := 140) (b' := false) rfl rfl rfl) ?_
                        refine go_off (off_of (t := 140) (b' := false) rfl rfl rfl) ?_
                        refine go_off (off_undef (t := 145) rfl rfl) ?_
                        refine go_off (off_undef (t := 145) rfl rfl) ?_
                        refine go_off (off_undef (t := 145) rfl rfl) ?_
                        refine go_off (off_undef (t := 145) rfl rfl) ?_
                        refine go_off (off_undef (t := 145) rfl rfl) ?_
                        refine go_off (off_of (t := 140) (b' := false) rfl rfl rfl) ?_
                        refine go_y (v := .bool false) (y_pick_f rfl) rfl ?_
                        refine go_y (v := .bool false) (y_assign) rfl ?_
                        refine go_ops_nil ?_
                        refine go_cond_false rfl ?_
                        refine go_skip ?_
                        refine go_blk ?_
                        refine go_region ?_
                        refine go_y (v := vk) (y_move) rfl ?_
                        refine go_y (v := .int .i64 (g : Int)) (y_move) rfl ?_
                        obtain ⟨bb48, oo49, cc50, hv51, hc52⟩ := (hk.ext hx).at_ ha27
                        refine go_y (v := .pointer (some ⟨bb48, oo49 + g * 1, none⟩)) (y_idxn g rfl hv51 rfl (by omega) ty_sl_23 (el_lt ha27)) rfl ?_
                        refine go_y (v := .int .i64 a26) (y_load_el0 rfl hc52 ty_sc_3) rfl ?_
                        refine go_y (v := .int .i64 a26) (y_assign) rfl ?_
                        refine go_y (v := .int .i64 1) (y_assign) rfl ?_
                        refine go_ops_nil ?_
                        refine go_blk ?_
                        refine go_region ?_
                        refine go_y (v := .int .i64 (g : Int)) (y_move) rfl ?_
                        refine go_y (v := .int .i64 ((g : Int) + 1)) (y_add rfl rfl (by unfold in64; omega)) rfl ?_
                        refine go_y (v := .int .i64 ((g : Int) + 1)) (y_assign) rfl ?_
                        refine go_ops_nil ?_
                        refine go_upto ⟨g + 1, a26, 1, ?_, ⟨ie (by omega), ie (by omega), ie (by omega), trivial⟩, ⟨hx, hb5, hsa9, hs0, (by omega), (hother hc33), (by omega)⟩, (by omega)⟩
                        repeat (refine Agree.upd rfl ?_)
                        exact Agree.updL rfl (Agree.havoc rfl (Agree.refl _ _))
                · refine go_y (v := .bool false) (y_move) rfl ?_
                  refine go_off (off_of (t := 124) (b' := false) rfl rfl rfl) ?_
                  refine go_off (off_of (t := 124) (b' := false) rfl rfl rfl) ?_
                  refine go_off (off_of (t := 124) (b' := false) rfl rfl rfl) ?_
                  refine go_off (off_of (t := 124) (b' := false) rfl rfl rfl) ?_
                  refine go_off (off_of (t := 124) (b' := false) rfl rfl rfl) ?_
                  refine go_off (off_undef (t := 129) rfl rfl) ?_
                  refine go_off (off_undef (t := 129) rfl rfl) ?_
                  refine go_off (off_undef (t := 129) rfl rfl) ?_
                  refine go_off (off_undef (t := 129) rfl rfl) ?_
                  refine go_off (off_undef (t := 129) rfl rfl) ?_
                  refine go_off (off_of (t := 124) (b' := false) rfl rfl rfl) ?_
                  refine go_y (v := .bool false) (y_pick_f rfl) rfl ?_
                  refine go_y (v := .bool false) (y_assign) rfl ?_
                  refine go_ops_nil ?_
                  refine go_cond_false rfl ?_
                  refine go_seq ?_
                  refine go_region ?_
                  refine go_y (v := .int .i64 kind) (y_move) rfl ?_
                  refine go_test (c := (kind : Int) = 2) (y_eq rfl rfl) rfl (fun hc36 => ?_) (fun hc36 => ?_)
                  · refine go_y (v := .bool true) (y_move) rfl ?_
                    refine go_y (v := .int .i64 run_) (y_move) (on_of (t := 140) rfl rfl) ?_
                    refine go_y (v := .pointer (some ⟨b2, 10, none⟩)) (y_fieldAddr rfl ty_fl_25_10) (on_of (t := 140) rfl rfl) ?_
                    refine go_y (v := .int .i64 u2.up) (y_load_fld rfl hb5 ty_sc_3 rfl) (on_of (t := 140) rfl rfl) ?_
                    refine go_test (c := (run_ : Int) < u2.up) (y_lt rfl rfl) (on_of (t := 140) rfl rfl) (fun hc37 => ?_) (fun hc37 => ?_)
                    · refine go_y (v := .bool true) (y_move) (on_of (t := 140) rfl rfl) ?_
                      refine go_off (off_of (t := 145) (b' := true) rfl rfl rfl) ?_
                      refine go_off (off_of (t := 145) (b' := true) rfl rfl rfl) ?_
                      refine go_off (off_of (t := 145) (b' := true) rfl rfl rfl) ?_
                      refine go_off (off_of (t := 145) (b' := true) rfl rfl rfl) ?_
                      refine go_off (off_of (t := 145) (b' := true) rfl rfl rfl) ?_
                      refine go_y (v := .bool true) (y_pick_t rfl) (on_of (t := 140) rfl rfl) ?_
                      refine go_y (v := .bool true) (y_pick_t rfl) rfl ?_
                      refine go_y (v := .bool true) (y_assign) rfl ?_
                      refine go_ops_nil ?_
                      refine go_cond_true rfl ?_
                      refine go_seq ?_
                      refine go_region ?_
                      refine go_y (v := .bool false) (y_assign) rfl ?_
                      refine go_ops_nil ?_
                      refine go_ret ?_
                      exfalso; omega
                    · refine go_y (v := .bool false) (y_move) (on_of (t := 140) rfl rfl) ?_
                      refine go_y (v := vk) (y_move) (on_of (t := 145) rfl rfl) ?_
                      refine go_y (v := .int .i64 (g : Int)) (y_move) (on_of (t := 145) rfl rfl) ?_
                      obtain ⟨bb40, oo41, cc42, hv43, hc44⟩ := (hk.ext hx).at_ ha27
                      refine go_y (v := .pointer (some ⟨bb40, oo41 + g * 1, none⟩)) (y_idxn g rfl hv43 rfl (by omega) ty_sl_23 (el_lt ha27)) (on_of (t := 145) rfl rfl) ?_
                      refine go_y (v := .int .i64 a26) (y_load_el0 rfl hc44 ty_sc_3) (on_of (t := 145) rfl rfl) ?_
                      refine go_test (c := (a26 : Int) ≠ 0) (y_ne rfl rfl) (on_of (t := 145) rfl rfl) (fun hc45 => ?_) (fun hc45 => ?_)
                      · refine go_y (v := .bool true) (y_pick_f rfl) (on_of (t := 140) rfl rfl) ?_
                        refine go_y (v := .bool true) (y_pick_t rfl) rfl ?_
                        refine go_y (v := .bool true) (y_assign) rfl ?_
                        refine go_ops_nil ?_
                        refine go_cond_true rfl ?_
                        refine go_seq ?_
                        refine go_region ?_
                        refine go_y (v := .bool false) (y_assign) rfl ?_
                        refine go_ops_nil ?_
                        refine go_ret ?_
                        exfalso; omega
                      · refine go_y (v := .bool false) (y_pick_f rfl) (on_of (t := 140) rfl rfl) ?_
                        refine go_y (v := .bool false) (y_pick_t rfl) rfl ?_
                        refine go_y (v := .bool false) (y_assign) rfl ?_
                        refine go_ops_nil ?_
                        refine go_cond_false rfl ?_
                        refine go_skip ?_
                        refine go_blk ?_
                        refine go_region ?_
                        refine go_y (v := vk) (y_move) rfl ?_
                        refine go_y (v := .int .i64 (g : Int)) (y_move) rfl ?_
                        obtain ⟨bb48, oo49, cc50, hv51, hc52⟩ := (hk.ext hx).at_ ha27
                        refine go_y (v := .pointer (some ⟨bb48, oo49 + g * 1, none⟩)) (y_idxn g rfl hv51 rfl (by omega) ty_sl_23 (el_lt ha27)) rfl ?_
                        refine go_y (v := .int .i64 a26) (y_load_el0 rfl hc52 ty_sc_3) rfl ?_
                        refine go_y (v := .int .i64 a26) (y_assign) rfl ?_
                        refine go_y (v := .int .i64 1) (y_assign) rfl ?_
                        refine go_ops_nil ?_
                        refine go_blk ?_
                        refine go_region ?_
                        refine go_y (v := .int .i64 (g : Int)) (y_move) rfl ?_
                        refine go_y (v := .int .i64 ((g : Int) + 1)) (y_add rfl rfl (by unfold in64; omega)) rfl ?_
                        refine go_y (v := .int .i64 ((g : Int) + 1)) (y_assign) rfl ?_
                        refine go_ops_nil ?_
                        refine go_upto ⟨g + 1, a26, 1, ?_, ⟨ie (by omega), ie (by omega), ie (by omega), trivial⟩, ⟨hx, hb5, hsa9, hs0, (by omega), (hother hc33), (by omega)⟩, (by omega)⟩
                        repeat (refine Agree.upd rfl ?_)
                        exact Agree.updL rfl (Agree.havoc rfl (Agree.refl _ _))
                  · refine go_y (v := .bool false) (y_move) rfl ?_
                    refine go_off (off_of (t := 140) (b' := false) rfl rfl rfl) ?_
                    refine go_off (off_of (t := 140) (b' := false) rfl rfl rfl) ?_
                    refine go_off (off_of (t := 140) (b' := false) rfl rfl rfl) ?_
                    refine go_off (off_of (t := 140) (b' := false) rfl rfl rfl) ?_
                    refine go_off (off_of (t := 140) (b' := false) rfl rfl rfl) ?_
                    refine go_off (off_undef (t := 145) rfl rfl) ?_
                    refine go_off (off_undef (t := 145) rfl rfl) ?_
                    refine go_off (off_undef (t := 145) rfl rfl) ?_
                    refine go_off (off_undef (t := 145) rfl rfl) ?_
                    refine go_off (off_undef (t := 145) rfl rfl) ?_
                    refine go_off (off_of (t := 140) (b' := false) rfl rfl rfl) ?_
                    refine go_y (v := .bool false) (y_pick_f rfl) rfl ?_
                    refine go_y (v := .bool false) (y_assign) rfl ?_
                    refine go_ops_nil ?_
                    refine go_cond_false rfl ?_
                    refine go_skip ?_
                    refine go_blk ?_
                    refine go_region ?_
                    refine go_y (v := vk) (y_move) rfl ?_
                    refine go_y (v := .int .i64 (g : Int)) (y_move) rfl ?_
                    obtain ⟨bb39, oo40, cc41, hv42, hc43⟩ := (hk.ext hx).at_ ha27
                    refine go_y (v := .pointer (some ⟨bb39, oo40 + g * 1, none⟩)) (y_idxn g rfl hv42 rfl (by omega) ty_sl_23 (el_lt ha27)) rfl ?_
                    refine go_y (v := .int .i64 a26) (y_load_el0 rfl hc43 ty_sc_3) rfl ?_
                    refine go_y (v := .int .i64 a26) (y_assign) rfl ?_
                    refine go_y (v := .int .i64 1) (y_assign) rfl ?_
                    refine go_ops_nil ?_
                    refine go_blk ?_
                    refine go_region ?_
                    refine go_y (v := .int .i64 (g : Int)) (y_move) rfl ?_
                    refine go_y (v := .int .i64 ((g : Int) + 1)) (y_add rfl rfl (by unfold in64; omega)) rfl ?_
                    refine go_y (v := .int .i64 ((g : Int) + 1)) (y_assign) rfl ?_
                    refine go_ops_nil ?_
                    refine go_upto ⟨g + 1, a26, 1, ?_, ⟨ie (by omega), ie (by omega), ie (by omega), trivial⟩, ⟨hx, hb5, hsa9, hs0, (by omega), (hother hc33), (by omega)⟩, (by omega)⟩
                    repeat (refine Agree.upd rfl ?_)
                    exact Agree.updL rfl (Agree.havoc rfl (Agree.refl _ _))
          · refine go_ops_nil ?_
            refine go_cond_false rfl ?_
            refine go_exit rfl ?_
            refine go_seq ?_
            refine go_region ?_
            refine go_y (v := .bool true) (y_assign) rfl ?_
            refine go_ops_nil ?_
            refine go_ret ?_
            exact ⟨rfl, hx⟩
end Go.Proofs.Ytedfiemhfpcggaa
