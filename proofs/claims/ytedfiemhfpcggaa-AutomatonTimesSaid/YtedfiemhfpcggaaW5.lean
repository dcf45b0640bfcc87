/- The walks of the automaton, part 5. -/
import Derived.Test.YtedfiemhfpcggaaW4
import Derived.Test.YtedfiemhfpcggaaData4
namespace Go.Proofs.Ytedfiemhfpcggaa
open Go.Gw Go.RowKit
set_option maxHeartbeats 4000000 in
set_option maxRecDepth 100000 in
theorem walk_ret (u : U) (aw kinds : List Int) (hs_u : soundB u = true) (vk : Value) (w : World) (hl : SlR w 1 ic u.away aw) (hlen : aw.length ≤ 1000) (hk : SlR w 1 ic vk kinds) (hkl : kinds.length ≤ 1000) : Ret Try.prog 26 [.agg u.cells, vk] w (fun v w' => WalkPost u aw kinds v w' ∧ Ext w w') := by
  have hsd_u := sound_spec hs_u
  have hcb_u := cap_bd hs_u
  refine calls_of_go Try.func26 rfl (by show _ ≤ _; exact Nat.le_of_ble_eq_true rfl) (by kernel_rfl) _ (res3 rfl) ?_
  have hx : Ext w w := Ext.refl w
  refine go_seq ?_
  refine go_region ?_
  refine go_box (.agg u.cells) u.cells rfl rfl rfl ?_
  intro w1 b2 hx3 hn4 hb5
  replace hn4 := Nat.le_trans hx.size hn4
  replace hx := hx.trans hx3
  refine go_y (v := .slice none 0 0) (y_assign) rfl ?_
  refine go_y (v := .int .i64 0) (y_assign) rfl ?_
  refine go_y (v := .int .i64 0) (y_assign) rfl ?_
  refine go_ops_nil ?_
  refine go_seq ?_
  refine go_seq ?_
  refine go_region ?_
  refine go_y (v := .agg u.cells) (y_load_blk rfl hb5 ty_ag_25 rfl) rfl ?_
  refine go_c (enters_func ty_en_12 rfl) (Ret.mono (sound_ret u _) (fun v w' h => (⟨h.1.trans (congrArg Value.bool hs_u), h.2⟩ : v = .bool true ∧ Ext _ w'))) rfl ?_
  rintro _ w6 ⟨rfl, hx7⟩
  replace hb5 := hb5.ext hx7
  replace hx := hx.trans hx7
  refine go_y (v := .bool false) (y_not_t rfl) rfl ?_
  refine go_ops_nil ?_
  refine go_cond_false rfl ?_
  refine go_skip ?_
  refine go_seq ?_
  refine go_region ?_
  refine go_y (v := .agg u.cells) (y_load_blk rfl hb5 ty_ag_25 rfl) rfl ?_
  refine go_c (enters_func ty_en_36 rfl) (away_ret u aw _ (hl.ext hx) (by omega)) rfl ?_
  rintro _ w10 ⟨⟨b8, rfl, hm9⟩, hx11⟩
  replace hb5 := hb5.ext hx11
  replace hx := hx.trans hx11
  refine go_y (v := .map (some b8)) (y_assign) rfl ?_
  refine go_ops_nil ?_
  refine go_seq ?_
  refine go_region ?_
  refine go_y (v := vk) (y_move) rfl ?_
  refine go_y (v := .int .i64 (kinds.length : Int)) (y_len_sl hk rfl ty_sl_23 _) rfl ?_
  refine go_mk (c := ((kinds.length : Int)).toNat) stc rfl rfl (by omega) ty_us_35 ty_in_27 (by omega) (by omega) rfl ?_
  intro v13 w12 own15 hx14
  have hbase16 : w.heap.size ≤ w10.heap.size := hx.size
  have hd17 := own15.ne hb5.lt
  have hd18 := own15.ne hm9.lt
  replace hb5 := hb5.ext hx14
  replace hm9 := hm9.ext hx14
  replace hx := hx.trans hx14
  have hz19 : w10.heap.size ≤ w12.heap.size := hx14.size
  refine go_y (v := v13) (y_assign) rfl ?_
  refine go_ops_nil ?_
  refine go_seq ?_
  refine go_region ?_
  refine go_y (v := .agg u.cells) (y_load_blk rfl hb5 ty_ag_25 rfl) rfl ?_
  refine go_c (enters_func ty_en_14 rfl) (initial_ret u _) rfl ?_
  rintro _ w20 ⟨rfl, hx21⟩
  replace hb5 := hb5.ext hx21
  replace hm9 := hm9.ext hx21
  replace own15 := own15.ext hx21
  replace hz19 := Nat.le_trans hz19 hx21.size
  replace hx := hx.trans hx21
  refine go_alloc (.agg #[.int .i64 0, .int .i64 0]) (#[.int .i64 0, .int .i64 0]) ty_ze_27 rfl rfl ?_
  intro w22 b23 hx24 hn25 hb26
  have hd27 : b2 ≠ b23 := by have := hb5.lt; omega
  have hd28 : b8 ≠ b23 := by have := hm9.lt; omega
  have hd29 := own15.ne_new hn25
  replace hn25 := Nat.le_trans hx.size hn25
  replace hb5 := hb5.ext hx24
  replace hm9 := hm9.ext hx24
  replace own15 := own15.ext hx24
  replace hz19 := Nat.le_trans hz19 hx24.size
  replace hx := hx.trans hx24
  refine go_store ((#[.int .i64 ((initF u).1), .int .i64 ((initF u).2)]).toList) (#[.int .i64 ((initF u).1), .int .i64 ((initF u).2)]) rfl rfl rfl ty_sz_27 rfl hb26 (by show _ ≤ _; exact Nat.le_of_ble_eq_true rfl) (by repeat (first | exact one_nil | refine one_cons (by first | rfl | assumption) ?_)) (by kernel_rfl) rfl ?_
  intro w30 hch31 hb26'
  replace hb5 := hb5.chg hch31 (hd27)
  replace hm9 := hm9.chg hch31 (hd28)
  replace own15 := own15.chg hch31 hd29
  replace hz19 := Nat.le_trans hz19 (Nat.le_of_eq hch31.2.2.2.1.symm)
  replace hx := hx.chg hch31 hn25
  replace hb26 := hb26'
  refine go_ops_nil ?_
  refine go_seq ?_
  refine go_seq ?_
  refine go_region ?_
  refine go_y (v := vk) (y_move) rfl ?_
  refine go_y (v := .int .i64 (kinds.length : Int)) (y_len_sl hk rfl ty_sl_23 _) rfl ?_
  refine go_y (v := .int .i64 0) (y_move) rfl ?_
  refine go_ops_nil ?_
  refine go_block ?_
  refine go_loop3 (G := Nat ) (H := List St × St ) (L := Value) [4, 5, 6, 8, 10, 11, 12, 13, 26, 27, 28, 29, 30, 31, 32, 33, 34, 35, 36, 37, 38, 39, 40, 41, 42, 43, 44, 45, 46, 47, 48, 49, 50, 51, 52, 53, 54, 55, 56, 57] (fun g p vs => [(26, .int .i64 (g : Int)), (8, vs)]) (fun g p vs w' => Ext w w' ∧ Blk w' b2 u.cells 25 ∧ SetAt iv w' b8 (keysOf aw) ∧ Own w' w10.heap.size 27 2 stc vs p.1 ∧ w10.heap.size ≤ w'.heap.size ∧ Blk w' b23 (#[.int .i64 p.2.1, .int .i64 p.2.2]) 27 ∧ some b2 ≠ Value.ownBlock vs ∧ some b8 ≠ Value.ownBlock vs ∧ some b23 ≠ Value.ownBlock vs ∧ g ≤ kinds.length ∧ runTo u aw kinds g = some p ∧ (-100 ≤ p.2.2 ∧ p.2.2 ≤ 100) ∧ p.1.length = g) (fun g p vs => kinds.length - g) 0 ([], initF u) v13 ⟨rfl, rfl, trivial⟩ ⟨hx, hb5, hm9, own15, hz19, hb26, hd17, hd18, hd29, (by omega), rfl, (init_bd hs_u), rfl⟩ ?_
  clear hx hb5 hm9 own15 hz19 hb26 hd17 hd18 hd29
  intro g p vs X33 w32 ⟨hx, hb5, hm9, own15, hz19, hb26, hd17, hd18, hd29, hg, hrun, hsb, hal⟩
  refine go_seq ?_
  refine go_region ?_
  refine go_test (c := ((g : Int) : Int) < (kinds.length : Int)) (y_lt rfl rfl) rfl (fun hc34 => ?_) (fun hc34 => ?_)
  · refine go_ops_nil ?_
    refine go_seq ?_
    refine go_cond_true rfl ?_
    refine go_skip ?_
    refine go_seq ?_
    refine go_block ?_
    refine go_seq ?_
    refine go_region ?_
    refine go_y (v := .int .i64 (g : Int)) (y_move) rfl ?_
    obtain ⟨a35, ha36⟩ := el_some (l := kinds) (i := g) (by omega)
    obtain ⟨bb37, oo38, cc39, hv40, hc41⟩ := (hk.ext hx).at_ ha36
    refine go_y (v := .pointer (some ⟨bb37, oo38 + g * 1, none⟩)) (y_idxn g rfl hv40 rfl (by omega) ty_sl_23 (el_lt ha36)) rfl ?_
    refine go_y (v := .int .i64 a35) (y_load_el0 rfl hc41 ty_sc_3) rfl ?_
    refine go_alloc (.int .i64 0) (#[.int .i64 0]) ty_ze_3 rfl rfl ?_
    intro w42 b43 hx44 hn45 hb46
    have hd47 : b2 ≠ b43 := by have := hb5.lt; omega
    have hd48 : b8 ≠ b43 := by have := hm9.lt; omega
    have hd49 := own15.ne_new hn45
    have hd50 : b23 ≠ b43 := by have := hb26.lt; omega
    replace hn45 := Nat.le_trans hx.size hn45
    replace hb5 := hb5.ext hx44
    replace hm9 := hm9.ext hx44
    replace own15 := own15.ext hx44
    replace hz19 := Nat.le_trans hz19 hx44.size
    replace hb26 := hb26.ext hx44
    replace hc41 := hc41.ext hx44
    replace hx := hx.trans hx44
    refine go_y (v := .int .i64 (g : Int)) (y_assign) rfl ?_
    refine go_store [.int .i64 a35] (#[.int .i64 a35]) rfl rfl rfl ty_sz_3 rfl hb46 (by show _ ≤ _; exact Nat.le_of_ble_eq_true rfl) (by repeat (first | exact one_nil | refine one_cons (by first | rfl | assumption) ?_)) (by kernel_rfl) rfl ?_
    intro w51 hch52 hb46'
    replace hb5 := hb5.chg hch52 (hd47)
    replace hm9 := hm9.chg hch52 (hd48)
    replace own15 := own15.chg hch52 hd49
    replace hz19 := Nat.le_trans hz19 (Nat.le_of_eq hch52.2.2.2.1.symm)
    replace hb26 := hb26.chg hch52 (hd50)
    replace hx := hx.chg hch52 hn45
    replace hb46 := hb46'
    refine go_ops_nil ?_
    refine go_seq ?_
    refine go_region ?_
    refine go_y (v := .agg u.cells) (y_load_blk rfl hb5 ty_ag_25 rfl) rfl ?_
    refine go_y (v := .agg #[.int .i64 p.2.1, .int .i64 p.2.2]) (y_load_blk rfl hb26 ty_ag_27 rfl) rfl ?_
    refine go_c (enters_func ty_en_21 rfl) (next_ret u p.2.1 p.2.2 (by omega) (by omega) _) rfl ?_
    rintro v53 w55 ⟨hs54, hx56⟩
    replace hb5 := hb5.ext hx56
    replace hm9 := hm9.ext hx56
    replace own15 := own15.ext hx56
    replace hz19 := Nat.le_trans hz19 hx56.size
    replace hb26 := hb26.ext hx56
    replace hb46 := hb46.ext hx56
    replace hx := hx.trans hx56
    have hnlv53 := nextF_len u p.2.1 p.2.2
    refine go_y (v := v53) (y_assign) rfl ?_
    refine go_ops_nil ?_
    refine go_seq ?_
    refine go_region ?_
    refine go_y (v := v53) (y_move) rfl ?_
    refine go_y (v := .func (.func 38) #[] #[.pointer (some ⟨b43, 0, none⟩)]) (y_mkf rfl) rfl ?_
    refine go_c (enters_func ty_en_37 rfl) (indexFunc_ret v53 (nextF u p.2.1 p.2.2) 38 [.pointer (some ⟨b43, 0, none⟩)] (fun s : St => decide (s.1 = a35)) _ hs54 (by have := nextF_len u p.2.1 p.2.2; omega) ty_en_38 (fun s w1 h1 => wk1_ret s a35 b43 w1 (hb46.ext h1))) rfl ?_
    rintro _ w57 ⟨rfl, hx58⟩
    replace hb5 := hb5.ext hx58
    replace hm9 := hm9.ext hx58
    replace own15 := own15.ext hx58
    replace hz19 := Nat.le_trans hz19 hx58.size
    replace hb26 := hb26.ext hx58
    replace hb46 := hb46.ext hx58
    replace hs54 := hs54.ext hx58
    replace hx := hx.trans hx58
    refine go_y (v := .int .i64 (idxF (fun s : St => decide (s.1 = a35)) (nextF u p.2.1 p.2.2))) (y_assign) rfl ?_
    refine go_ops_nil ?_
    refine go_seq ?_
    refine go_seq ?_
    refine go_region ?_
    refine go_y (v := .int .i64 (idxF (fun s : St => decide (s.1 = a35)) (nextF u p.2.1 p.2.2))) (y_move) rfl ?_
    refine go_test (c := ((idxF (fun s : St => decide (s.1 = a35)) (nextF u p.2.1 p.2.2)) : Int) < 0) (y_lt rfl rfl) rfl (fun hc59 => ?_) (fun hc59 => ?_)
    · refine go_y (v := .bool true) (y_move) rfl ?_
      refine go_off (off_of (t := 39) (b' := true) rfl rfl rfl) ?_
      refine go_off (off_of (t := 39) (b' := true) rfl rfl rfl) ?_
      refine go_off (off_of (t := 39) (b' := true) rfl rfl rfl) ?_
      refine go_off (off_undef (t := 42) rfl rfl) ?_
      refine go_off (off_undef (t := 42) rfl rfl) ?_
      refine go_off (off_undef (t := 42) rfl rfl) ?_
      refine go_off (off_of (t := 39) (b' := true) rfl rfl rfl) ?_
      refine go_y (v := .bool true) (y_pick_t rfl) rfl ?_
      refine go_ops_nil ?_
      refine go_cond_true rfl ?_
      refine go_seq ?_
      refine go_region ?_
      refine go_y (v := .int .i64 (g : Int)) (y_move) rfl ?_
      refine go_y (v := .slice none 0 0) (y_assign) rfl ?_
      refine go_y (v := .int .i64 (g : Int)) (y_assign) rfl ?_
      refine go_y (v := .int .i64 16) (y_assign) rfl ?_
      refine go_ops_nil ?_
      refine go_ret ?_
      exact ⟨.inl ⟨g, p, el_lt ha36, hrun, run_fail hrun ha36 (step_none (.inl hc59)), rfl⟩, hx⟩
    · refine go_y (v := .bool false) (y_move) rfl ?_
      refine go_y (v := .int .i64 a35) (y_load_fld rfl hb46 ty_sc_3 rfl) (on_of (t := 39) rfl rfl) ?_
      refine go_test (c := (a35 : Int) ≠ 0) (y_ne rfl rfl) (on_of (t := 39) rfl rfl) (fun hc60 => ?_) (fun hc60 => ?_)
      · refine go_y (v := .bool true) (y_move) (on_of (t := 39) rfl rfl) ?_
        refine go_y (v := .map (some b8)) (y_move) (on_of (t := 42) rfl rfl) ?_
        refine go_y (v := .int .i64 (g : Int)) (y_move) (on_of (t := 42) rfl rfl) ?_
        refine go_test (c := ((g : Int) : Int) ∈ (keysOf aw)) (y_lookup (k := (g : Int)) rfl rfl hm9 ty_ki_3 ty_mp_59) (on_of (t := 42) rfl rfl) (fun hc61 => ?_) (fun hc61 => ?_)
        · refine go_y (v := .bool true) (y_pick_t rfl) (on_of (t := 39) rfl rfl) ?_
          refine go_y (v := .bool true) (y_pick_f rfl) rfl ?_
          refine go_ops_nil ?_
          refine go_cond_true rfl ?_
          refine go_seq ?_
          refine go_region ?_
          refine go_y (v := .int .i64 (g : Int)) (y_move) rfl ?_
          refine go_y (v := .slice none 0 0) (y_assign) rfl ?_
          refine go_y (v := .int .i64 (g : Int)) (y_assign) rfl ?_
          refine go_y (v := .int .i64 16) (y_assign) rfl ?_
          refine go_ops_nil ?_
          refine go_ret ?_
          exact ⟨.inl ⟨g, p, el_lt ha36, hrun, run_fail hrun ha36 (step_none (.inr ⟨hc60, hc61⟩)), rfl⟩, hx⟩
        · refine go_y (v := .bool false) (y_pick_t rfl) (on_of (t := 39) rfl rfl) ?_
          refine go_y (v := .bool false) (y_pick_f rfl) rfl ?_
          refine go_ops_nil ?_
          refine go_cond_false rfl ?_
          refine go_skip ?_
          refine go_seq ?_
          refine go_region ?_
          refine go_y (v := v53) (y_move) rfl ?_
          refine go_y (v := .int .i64 (idxF (fun s : St => decide (s.1 = a35)) (nextF u p.2.1 p.2.2))) (y_move) rfl ?_
          obtain ⟨a62, ha63⟩ := el_some (l := nextF u p.2.1 p.2.2) (i := (idxF (fun s : St => decide (s.1 = a35)) (nextF u p.2.1 p.2.2)).toNat) (by exact idxF_lt (Int.not_lt.1 hc59))
          obtain ⟨bb64, oo65, cc66, hv67, hc68⟩ := hs54.at_ ha63
          refine go_y (v := .pointer (some ⟨bb64, oo65 + ((idxF (fun s : St => decide (s.1 = a35)) (nextF u p.2.1 p.2.2)).toNat) * 2, none⟩)) (y_idxn ((idxF (fun s : St => decide (s.1 = a35)) (nextF u p.2.1 p.2.2)).toNat) rfl hv67 rfl (by omega) ty_sl_35 (el_lt ha63)) rfl ?_
          refine go_y (v := .agg #[.int .i64 a62.1, .int .i64 a62.2]) (y_load_el rfl hc68 ty_ag_27 rfl) rfl ?_
          refine go_store ((#[.int .i64 a62.1, .int .i64 a62.2]).toList) (#[.int .i64 a62.1, .int .i64 a62.2]) rfl rfl rfl ty_sz_27 rfl hb26 (by show _ ≤ _; exact Nat.le_of_ble_eq_true rfl) (by repeat (first | exact one_nil | refine one_cons (by first | rfl | assumption) ?_)) (by kernel_rfl) rfl ?_
          intro w69 hch70 hb26'
          replace hb5 := hb5.chg hch70 (hd27)
          replace hm9 := hm9.chg hch70 (hd28)
          replace own15 := own15.chg hch70 hd29
          replace hz19 := Nat.le_trans hz19 (Nat.le_of_eq hch70.2.2.2.1.symm)
          replace hb46 := hb46.chg hch70 (Ne.symm hd50)
          replace hx := hx.chg hch70 hn25
          replace hb26 := hb26'
          refine go_ops_nil ?_
          refine go_region ?_
          refine go_y (v := vs) (y_move) rfl ?_
          refine go_y (v := .agg #[.int .i64 a62.1, .int .i64 a62.2]) (y_load_blk rfl hb26 ty_ag_27 rfl) rfl ?_
          refine go_lit [.agg #[.int .i64 a62.1, .int .i64 a62.2]] (#[.int .i64 a62.1, .int .i64 a62.2]) ty_sl_35 ty_ze_27 (by decide) (by decide) rfl (by intro x hx_; simp only [List.mem_cons, List.not_mem_nil, or_false] at hx_; subst hx_; rfl) rfl rfl rfl ?_
          intro w71 b72 hx73 hn74 hb75
          have hd76 : b2 ≠ b72 := by have := hb5.lt; omega
          have hd77 : b8 ≠ b72 := by have := hm9.lt; omega
          have hd78 := own15.ne_new hn74
          have hd79 : b23 ≠ b72 := by have := hb26.lt; omega
          have hd80 : b43 ≠ b72 := by have := hb46.lt; omega
          replace hn74 := Nat.le_trans hx.size hn74
          replace hb5 := hb5.ext hx73
          replace hm9 := hm9.ext hx73
          replace own15 := own15.ext hx73
          replace hz19 := Nat.le_trans hz19 hx73.size
          replace hb26 := hb26.ext hx73
          replace hb46 := hb46.ext hx73
          replace hx := hx.trans hx73
          refine go_app1 (f := stc) (a62.1, a62.2) rfl rfl own15 hb75 rfl rfl ty_us_35 ty_in_27 rfl (by decide) (by repeat (first | exact one_nil | refine one_cons (by first | rfl | assumption) ?_)) (by decide) (by omega) hz19 rfl ?_
          intro v81 w82 own83 hg84 hbk85
          have hd86 := ne_append hb5.lt hd17 hbk85
          replace hb5 := hb5.grown hg84 hd17
          have hd87 := ne_append hm9.lt hd18 hbk85
          replace hm9 := hm9.grown hg84 hd18
          replace hz19 := Nat.le_trans hz19 hg84.size
          have hd88 := ne_append hb26.lt hd29 hbk85
          replace hb26 := hb26.grown hg84 hd29
          have hd89 := ne_append hb46.lt hd49 hbk85
          replace hb46 := hb46.grown hg84 hd49
          replace hx := own15.below hx hg84 hbase16
          refine go_y (v := v81) (y_assign) rfl ?_
          refine go_ops_nil ?_
          refine go_blk ?_
          refine go_region ?_
          refine go_y (v := .int .i64 ((g : Int) + 1)) (y_add rfl rfl (by unfold in64; omega)) rfl ?_
          refine go_y (v := .int .i64 ((g : Int) + 1)) (y_move) rfl ?_
          refine go_ops_nil ?_
          refine go_upto ⟨g + 1, (p.1 ++ [a62], a62), v81, ?_, ⟨ie (by omega), rfl, trivial⟩, ⟨hx, hb5, hm9, own83, hz19, hb26, hd86, hd87, hd88, (by omega), (run_step hrun ha36 (step_some hc59 (fun hh => hc61 hh.2) ha63)), (next_bd hs_u (List.mem_of_getElem? ha63)), (by simp; omega)⟩, (by omega)⟩
          repeat (refine Agree.upd rfl ?_)
          exact Agree.updL rfl (Agree.havoc rfl (Agree.refl _ _))
      · refine go_y (v := .bool false) (y_move) (on_of (t := 39) rfl rfl) ?_
        refine go_off (off_of (t := 42) (b' := false) rfl rfl rfl) ?_
        refine go_off (off_of (t := 42) (b' := false) rfl rfl rfl) ?_
        refine go_off (off_of (t := 42) (b' := false) rfl rfl rfl) ?_
        refine go_y (v := .bool false) (y_pick_f rfl) (on_of (t := 39) rfl rfl) ?_
        refine go_y (v := .bool false) (y_pick_f rfl) rfl ?_
        refine go_ops_nil ?_
        refine go_cond_false rfl ?_
        refine go_skip ?_
        refine go_seq ?_
        refine go_region ?_
        refine go_y (v := v53) (y_move) rfl ?_
        refine go_y (v := .int .i64 (idxF (fun s : St => decide (s.1 = a35)) (nextF u p.2.1 p.2.2))) (y_move) rfl ?_
        obtain ⟨a61, ha62⟩ := el_some (l := nextF u p.2.1 p.2.2) (i := (idxF (fun s : St => decide (s.1 = a35)) (nextF u p.2.1 p.2.2)).toNat) (by exact idxF_lt (Int.not_lt.1 hc59))
        obtain ⟨bb63, oo64, cc65, hv66, hc67⟩ := hs54.at_ ha62
        refine go_y (v := .pointer (some ⟨bb63, oo64 + ((idxF (fun s : St => decide (s.1 = a35)) (nextF u p.2.1 p.2.2)).toNat) * 2, none⟩)) (y_idxn ((idxF (fun s : St => decide (s.1 = a35)) (nextF u p.2.1 p.2.2)).toNat) rfl hv66 rfl (by omega) ty_sl_35 (el_lt ha62)) rfl ?_
        refine go_y (v := .agg #[.int .i64 a61.1, .int .i64 a61.2]) (y_load_el rfl hc67 ty_ag_27 rfl) rfl ?_
        refine go_store ((#[.int .i64 a61.1, .int .i64 a61.2]).toList) (#[.int .i64 a61.1, .int .i64 a61.2]) rfl rfl rfl ty_sz_27 rfl hb26 (by show _ ≤ _; exact Nat.le_of_ble_eq_true rfl) (by repeat (first | exact one_nil | refine one_cons (by first | rfl | assumption) ?_)) (by kernel_rfl) rfl ?_
        intro w68 hch69 hb26'
        replace hb5 := hb5.chg hch69 (hd27)
        replace hm9 := hm9.chg hch69 (hd28)
        replace own15 := own15.chg hch69 hd29
        replace hz19 := Nat.le_trans hz19 (Nat.le_of_eq hch69.2.2.2.1.symm)
        replace hb46 := hb46.chg hch69 (Ne.symm hd50)
        replace hx := hx.chg hch69 hn25
        replace hb26 := hb26'
        refine go_ops_nil ?_
        refine go_region ?_
        refine go_y (v := vs) (y_move) rfl ?_
        refine go_y (v := .agg #[.int .i64 a61.1, .int .i64 a61.2]) (y_load_blk rfl hb26 ty_ag_27 rfl) rfl ?_
        refine go_lit [.agg #[.int .i64 a61.1, .int .i64 a61.2]] (#[.int .i64 a61.1, .int .i64 a61.2]) ty_sl_35 ty_ze_27 (by decide) (by decide) rfl (by intro x hx_; simp only [List.mem_cons, List.not_mem_nil, or_false] at hx_; subst hx_; rfl) rfl rfl rfl ?_
        intro w70 b71 hx72 hn73 hb74
        have hd75 : b2 ≠ b71 := by have := hb5.lt; omega
        have hd76 : b8 ≠ b71 := by have := hm9.lt; omega
        have hd77 := own15.ne_new hn73
        have hd78 : b23 ≠ b71 := by have := hb26.lt; omega
        have hd79 : b43 ≠ b71 := by have := hb46.lt; omega
        replace hn73 := Nat.le_trans hx.size hn73
        replace hb5 := hb5.ext hx72
        replace hm9 := hm9.ext hx72
        replace own15 := own15.ext hx72
        replace hz19 := Nat.le_trans hz19 hx72.size
        replace hb26 := hb26.ext hx72
        replace hb46 := hb46.ext hx72
        replace hx := hx.trans hx72
        refine go_app1 (f := stc) (a61.1, a61.2) rfl rfl own15 hb74 rfl rfl ty_us_35 ty_in_27 rfl (by decide) (by repeat (first | exact one_nil | refine one_cons (by first | rfl | assumption) ?_)) (by decide) (by omega) hz19 rfl ?_
        intro v80 w81 own82 hg83 hbk84
        have hd85 := ne_append hb5.lt hd17 hbk84
        replace hb5 := hb5.grown hg83 hd17
        have hd86 := ne_append hm9.lt hd18 hbk84
        replace hm9 := hm9.grown hg83 hd18
        replace hz19 := Nat.le_trans hz19 hg83.size
        have hd87 := ne_append hb26.lt hd29 hbk84
        replace hb26 := hb26.grown hg83 hd29
        have hd88 := ne_append hb46.lt hd49 hbk84
        replace hb46 := hb46.grown hg83 hd49
        replace hx := own15.below hx hg83 hbase16
        refine go_y (v := v80) (y_assign) rfl ?_
        refine go_ops_nil ?_
        refine go_blk ?_
        refine go_region ?_
        refine go_y (v := .int .i64 ((g : Int) + 1)) (y_add rfl rfl (by unfold in64; omega)) rfl ?_
        refine go_y (v := .int .i64 ((g : Int) + 1)) (y_move) rfl ?_
        refine go_ops_nil ?_
        refine go_upto ⟨g + 1, (p.1 ++ [a61], a61), v80, ?_, ⟨ie (by omega), rfl, trivial⟩, ⟨hx, hb5, hm9, own82, hz19, hb26, hd85, hd86, hd87, (by omega), (run_step hrun ha36 (step_some hc59 (fun hh => hc60 hh.1) ha62)), (next_bd hs_u (List.mem_of_getElem? ha62)), (by simp; omega)⟩, (by omega)⟩
        repeat (refine Agree.upd rfl ?_)
        exact Agree.updL rfl (Agree.havoc rfl (Agree.refl _ _))
  · refine go_ops_nil ?_
    refine go_seq ?_
    refine go_cond_false rfl ?_
    refine go_exit rfl ?_
    refine go_seq ?_
    refine go_region ?_
    refine go_y (v := vs) (y_move) rfl ?_
    refine go_y (v := vk) (y_move) rfl ?_
    refine go_y (v := .int .i64 (kinds.length : Int)) (y_len_sl hk rfl ty_sl_23 _) rfl ?_
    refine go_y (v := vs) (y_assign) rfl ?_
    refine go_y (v := .int .i64 (kinds.length : Int)) (y_assign) rfl ?_
    refine go_y (v := .int .i64 0) (y_assign) rfl ?_
    refine go_ops_nil ?_
    obtain rfl : g = kinds.length := by omega
    refine go_ret ?_
    exact ⟨.inr ⟨p, _, hrun, rfl, own15.slr (fun _ => rfl)⟩, hx⟩
end Go.Proofs.Ytedfiemhfpcggaa
