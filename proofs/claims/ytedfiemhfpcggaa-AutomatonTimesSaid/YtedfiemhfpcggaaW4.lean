/- The walks of the automaton, part 4. -/
import Derived.Test.YtedfiemhfpcggaaW3
namespace Go.Proofs.Ytedfiemhfpcggaa
open Go.Gw Go.RowKit
set_option maxHeartbeats 4000000 in
set_option maxRecDepth 100000 in
theorem near_ret (u : U) (aw : List Int) (hok : u.ok) (w : World) (hl : SlR w 1 ic u.away aw) (hlen : aw.length ≤ 9223372036854775806) : Ret Try.prog 25 [.agg u.cells] w (fun v w' => (∃ av, v = .agg (nearU u av).cells ∧ SlR w' 1 ic av (nearA aw) ∧ Frs w.heap.size av) ∧ Ext w w') := by
  obtain ⟨ok1, ok2, ok3, ok4, ok5, ok6, ok7, ok8, ok9, ok10, ok11, ok12, ok13, ok14⟩ := hok
  refine calls_of_go Try.func25 rfl (by show _ ≤ _; exact Nat.le_of_ble_eq_true rfl) (by kernel_rfl) _ (resC rfl ty_ag_25) ?_
  have hx : Ext w w := Ext.refl w
  refine go_seq ?_
  refine go_region ?_
  refine go_box (.agg u.cells) u.cells rfl rfl rfl ?_
  intro w1 b2 hx3 hn4 hb5
  replace hn4 := Nat.le_trans hx.size hn4
  replace hx := hx.trans hx3
  refine go_alloc (.agg #[.string ⟨#[]⟩, .int .i64 0, .int .i64 0, .int .i64 0, .slice none 0 0, .int .i64 0, .int .i64 0, .int .i64 0, .int .i64 0, .int .i64 0, .int .i64 0, .int .i64 0, .int .i64 0, .int .i64 0, .int .i64 0, .int .i64 0, .int .i64 0, .int .i64 0, .slice none 0 0, .int .i64 0, .int .i64 0, .int .i64 0]) (#[.string ⟨#[]⟩, .int .i64 0, .int .i64 0, .int .i64 0, .slice none 0 0, .int .i64 0, .int .i64 0, .int .i64 0, .int .i64 0, .int .i64 0, .int .i64 0, .int .i64 0, .int .i64 0, .int .i64 0, .int .i64 0, .int .i64 0, .int .i64 0, .int .i64 0, .slice none 0 0, .int .i64 0, .int .i64 0, .int .i64 0]) ty_ze_25 rfl rfl ?_
  intro w6 b7 hx8 hn9 hb10
  have hd11 : b2 ≠ b7 := by have := hb5.lt; omega
  replace hn9 := Nat.le_trans hx.size hn9
  replace hb5 := hb5.ext hx8
  replace hx := hx.trans hx8
  refine go_ops_nil ?_
  refine go_seq ?_
  refine go_drawn mixed [1, 4, 7, 10] [13, 15, 17, 19] (.p 0 (.q 1 (.p 3 (.q 4 (.p 6 (.q 7 (.p 9 (.q 10 (.e 2 (.p 12 (.e 5 (.e 8 (.e 11 (.e 13 (.p 14 (.e 15 (.p 16 (.e 17 (.p 18 (.e 19 .done)))))))))))))))))))) (by kernel_rfl) ?_
  intro w12 hx13
  replace hb5 := hb5.ext hx13
  replace hb10 := hb10.ext hx13
  replace hx := hx.trans hx13
  refine go_dp (v := .pointer (some ⟨b2, 10, none⟩)) rfl (fun w' => y_fieldAddr rfl ty_fl_25_10) rfl ?_
  refine go_dq (v := .int .i64 u.up) rfl (fun w' hw' => y_load_fld rfl (hb5.ext hw') ty_sc_3 rfl) rfl ?_
  refine go_dp (v := .pointer (some ⟨b2, 11, none⟩)) rfl (fun w' => y_fieldAddr rfl ty_fl_25_11) rfl ?_
  refine go_dq (v := .int .i64 u.dn) rfl (fun w' hw' => y_load_fld rfl (hb5.ext hw') ty_sc_3 rfl) rfl ?_
  refine go_dp (v := .pointer (some ⟨b2, 12, none⟩)) rfl (fun w' => y_fieldAddr rfl ty_fl_25_12) rfl ?_
  refine go_dq (v := .int .i64 u.st) rfl (fun w' hw' => y_load_fld rfl (hb5.ext hw') ty_sc_3 rfl) rfl ?_
  refine go_dp (v := .pointer (some ⟨b2, 15, none⟩)) rfl (fun w' => y_fieldAddr rfl ty_fl_25_15) rfl ?_
  refine go_dq (v := .int .i64 u.hh) rfl (fun w' hw' => y_load_fld rfl (hb5.ext hw') ty_sc_3 rfl) rfl ?_
  refine go_de rfl rfl ?_
  refine go_c (enters_func ty_en_35 rfl) (small_ret u.up 4 _ (by omega) (by omega)) rfl ?_
  rintro _ w15 ⟨rfl, hx16⟩
  have hsm14 := sm_bd u.up (n := 4) (by omega)
  refine go_ops_nil ?_
  refine go_chk hx16 ?_
  refine go_dp (v := .pointer (some ⟨b2, 10, none⟩)) rfl (fun w' => y_fieldAddr rfl ty_fl_25_10) rfl ?_
  refine go_de rfl rfl ?_
  refine go_c (enters_func ty_en_35 rfl) (small_ret u.dn 4 _ (by omega) (by omega)) rfl ?_
  rintro _ w18 ⟨rfl, hx19⟩
  have hx19s := hx16.trans hx19
  have hsm17 := sm_bd u.dn (n := 4) (by omega)
  refine go_ops_nil ?_
  refine go_chk hx19s ?_
  refine go_de rfl rfl ?_
  refine go_c (enters_func ty_en_35 rfl) (small_ret u.st 3 _ (by omega) (by omega)) rfl ?_
  rintro _ w21 ⟨rfl, hx22⟩
  have hx22s := hx19s.trans hx22
  have hsm20 := sm_bd u.st (n := 3) (by omega)
  refine go_ops_nil ?_
  refine go_chk hx22s ?_
  refine go_de rfl rfl ?_
  refine go_c (enters_func ty_en_35 rfl) (small_ret u.hh 4 _ (by omega) (by omega)) rfl ?_
  rintro _ w24 ⟨rfl, hx25⟩
  have hx25s := hx22s.trans hx25
  have hsm23 := sm_bd u.hh (n := 4) (by omega)
  refine go_ops_nil ?_
  refine go_chk hx25s ?_
  refine go_dt rfl rfl ?_
  replace hb5 := hb5.ext hx25s
  replace hb10 := hb10.ext hx25s
  replace hx := hx.trans hx25s
  refine go_store [.int .i64 (sm u.up 4)] (#[u.nm, u.bus, u.mn, u.mx, u.segs, u.noload, u.rup, u.rdn, u.sramp, u.pramp, .int .i64 (sm u.up 4), .int .i64 u.dn, .int .i64 u.st, .int .i64 u.hc, .int .i64 u.cc, .int .i64 u.hh, u.res, u.rpr, u.away, .int .i64 u.state, .int .i64 u.hours, u.out]) rfl rfl rfl ty_sz_3 rfl hb5 (by show _ ≤ _; exact Nat.le_of_ble_eq_true rfl) (by repeat (first | exact one_nil | refine one_cons (by first | rfl | assumption) ?_)) (by kernel_rfl) rfl ?_
  intro w26 hch27 hb5'
  replace hb10 := hb10.chg hch27 (Ne.symm hd11)
  replace hx := hx.chg hch27 hn4
  replace hb5 := hb5'
  refine go_ops_nil ?_
  refine go_dp (v := .pointer (some ⟨b2, 11, none⟩)) rfl (fun w' => y_fieldAddr rfl ty_fl_25_11) rfl ?_
  refine go_dt rfl rfl ?_
  refine go_store [.int .i64 (sm u.dn 4)] (#[u.nm, u.bus, u.mn, u.mx, u.segs, u.noload, u.rup, u.rdn, u.sramp, u.pramp, .int .i64 (sm u.up 4), .int .i64 (sm u.dn 4), .int .i64 u.st, .int .i64 u.hc, .int .i64 u.cc, .int .i64 u.hh, u.res, u.rpr, u.away, .int .i64 u.state, .int .i64 u.hours, u.out]) rfl rfl rfl ty_sz_3 rfl hb5 (by show _ ≤ _; exact Nat.le_of_ble_eq_true rfl) (by repeat (first | exact one_nil | refine one_cons (by first | rfl | assumption) ?_)) (by kernel_rfl) rfl ?_
  intro w28 hch29 hb5'
  replace hb10 := hb10.chg hch29 (Ne.symm hd11)
  replace hx := hx.chg hch29 hn4
  replace hb5 := hb5'
  refine go_ops_nil ?_
  refine go_dp (v := .pointer (some ⟨b2, 12, none⟩)) rfl (fun w' => y_fieldAddr rfl ty_fl_25_12) rfl ?_
  refine go_dt rfl rfl ?_
  refine go_store [.int .i64 (sm u.st 3)] (#[u.nm, u.bus, u.mn, u.mx, u.segs, u.noload, u.rup, u.rdn, u.sramp, u.pramp, .int .i64 (sm u.up 4), .int .i64 (sm u.dn 4), .int .i64 (sm u.st 3), .int .i64 u.hc, .int .i64 u.cc, .int .i64 u.hh, u.res, u.rpr, u.away, .int .i64 u.state, .int .i64 u.hours, u.out]) rfl rfl rfl ty_sz_3 rfl hb5 (by show _ ≤ _; exact Nat.le_of_ble_eq_true rfl) (by repeat (first | exact one_nil | refine one_cons (by first | rfl | assumption) ?_)) (by kernel_rfl) rfl ?_
  intro w30 hch31 hb5'
  replace hb10 := hb10.chg hch31 (Ne.symm hd11)
  replace hx := hx.chg hch31 hn4
  replace hb5 := hb5'
  refine go_ops_nil ?_
  refine go_dp (v := .pointer (some ⟨b2, 15, none⟩)) rfl (fun w' => y_fieldAddr rfl ty_fl_25_15) rfl ?_
  refine go_dt rfl rfl ?_
  refine go_store [.int .i64 (sm u.hh 4)] (#[u.nm, u.bus, u.mn, u.mx, u.segs, u.noload, u.rup, u.rdn, u.sramp, u.pramp, .int .i64 (sm u.up 4), .int .i64 (sm u.dn 4), .int .i64 (sm u.st 3), .int .i64 u.hc, .int .i64 u.cc, .int .i64 (sm u.hh 4), u.res, u.rpr, u.away, .int .i64 u.state, .int .i64 u.hours, u.out]) rfl rfl rfl ty_sz_3 rfl hb5 (by show _ ≤ _; exact Nat.le_of_ble_eq_true rfl) (by repeat (first | exact one_nil | refine one_cons (by first | rfl | assumption) ?_)) (by kernel_rfl) rfl ?_
  intro w32 hch33 hb5'
  replace hb10 := hb10.chg hch33 (Ne.symm hd11)
  replace hx := hx.chg hch33 hn4
  replace hb5 := hb5'
  refine go_ops_nil ?_
  refine go_dops_done ?_
  refine go_seq ?_
  refine go_drawn mixed [1, 4] [8, 10] (.p 0 (.q 1 (.p 3 (.q 4 (.e 2 (.p 7 (.e 5 (.p 6 (.e 8 (.p 9 (.e 10 .done))))))))))) (by kernel_rfl) ?_
  intro w34 hx35
  replace hb5 := hb5.ext hx35
  replace hb10 := hb10.ext hx35
  replace hx := hx.trans hx35
  refine go_dp (v := .pointer (some ⟨b2, 19, none⟩)) rfl (fun w' => y_fieldAddr rfl ty_fl_25_19) rfl ?_
  refine go_dq (v := .int .i64 u.state) rfl (fun w' hw' => y_load_fld rfl (hb5.ext hw') ty_sc_3 rfl) rfl ?_
  refine go_dp (v := .pointer (some ⟨b2, 20, none⟩)) rfl (fun w' => y_fieldAddr rfl ty_fl_25_20) rfl ?_
  refine go_dq (v := .int .i64 u.hours) rfl (fun w' hw' => y_load_fld rfl (hb5.ext hw') ty_sc_3 rfl) rfl ?_
  refine go_de rfl rfl ?_
  refine go_c (enters_func ty_en_35 rfl) (small_ret u.state 3 _ (by omega) (by omega)) rfl ?_
  rintro _ w37 ⟨rfl, hx38⟩
  have hsm36 := sm_bd u.state (n := 3) (by omega)
  refine go_ops_nil ?_
  refine go_chk hx38 ?_
  refine go_dp (v := .pointer (some ⟨b2, 19, none⟩)) rfl (fun w' => y_fieldAddr rfl ty_fl_25_19) rfl ?_
  refine go_de rfl rfl ?_
  refine go_c (enters_func ty_en_35 rfl) (small_ret u.hours 6 _ (by omega) (by omega)) rfl ?_
  rintro _ w40 ⟨rfl, hx41⟩
  have hx41s := hx38.trans hx41
  have hsm39 := sm_bd u.hours (n := 6) (by omega)
  refine go_ops_nil ?_
  refine go_chk hx41s ?_
  refine go_dp (v := .int .i64 (1 + (sm u.hours 6))) rfl (fun w' => y_add rfl rfl (by unfold in64; omega)) rfl ?_
  refine go_dt rfl rfl ?_
  replace hb5 := hb5.ext hx41s
  replace hb10 := hb10.ext hx41s
  replace hx := hx.trans hx41s
  refine go_store [.int .i64 (sm u.state 3)] (#[u.nm, u.bus, u.mn, u.mx, u.segs, u.noload, u.rup, u.rdn, u.sramp, u.pramp, .int .i64 (sm u.up 4), .int .i64 (sm u.dn 4), .int .i64 (sm u.st 3), .int .i64 u.hc, .int .i64 u.cc, .int .i64 (sm u.hh 4), u.res, u.rpr, u.away, .int .i64 (sm u.state 3), .int .i64 u.hours, u.out]) rfl rfl rfl ty_sz_3 rfl hb5 (by show _ ≤ _; exact Nat.le_of_ble_eq_true rfl) (by repeat (first | exact one_nil | refine one_cons (by first | rfl | assumption) ?_)) (by kernel_rfl) rfl ?_
  intro w42 hch43 hb5'
  replace hb10 := hb10.chg hch43 (Ne.symm hd11)
  replace hx := hx.chg hch43 hn4
  replace hb5 := hb5'
  refine go_ops_nil ?_
  refine go_dp (v := .pointer (some ⟨b2, 20, none⟩)) rfl (fun w' => y_fieldAddr rfl ty_fl_25_20) rfl ?_
  refine go_dt rfl rfl ?_
  refine go_store [.int .i64 (1 + (sm u.hours 6))] (#[u.nm, u.bus, u.mn, u.mx, u.segs, u.noload, u.rup, u.rdn, u.sramp, u.pramp, .int .i64 (sm u.up 4), .int .i64 (sm u.dn 4), .int .i64 (sm u.st 3), .int .i64 u.hc, .int .i64 u.cc, .int .i64 (sm u.hh 4), u.res, u.rpr, u.away, .int .i64 (sm u.state 3), .int .i64 (1 + (sm u.hours 6)), u.out]) rfl rfl rfl ty_sz_3 rfl hb5 (by show _ ≤ _; exact Nat.le_of_ble_eq_true rfl) (by repeat (first | exact one_nil | refine one_cons (by first | rfl | assumption) ?_)) (by kernel_rfl) rfl ?_
  intro w44 hch45 hb5'
  replace hb10 := hb10.chg hch45 (Ne.symm hd11)
  replace hx := hx.chg hch45 hn4
  replace hb5 := hb5'
  refine go_ops_nil ?_
  refine go_dops_done ?_
  refine go_seq ?_
  refine go_seq ?_
  refine go_region ?_
  refine go_y (v := .pointer (some ⟨b2, 19, none⟩)) (y_fieldAddr rfl ty_fl_25_19) rfl ?_
  refine go_y (v := .int .i64 (sm u.state 3)) (y_load_fld rfl hb5 ty_sc_3 rfl) rfl ?_
  refine go_test (c := ((sm u.state 3) : Int) = 1) (y_eq rfl rfl) rfl (fun hc46 => ?_) (fun hc46 => ?_)
  · refine go_ops_nil ?_
    refine go_cond_true rfl ?_
    refine go_seq ?_
    refine go_seq ?_
    refine go_region ?_
    refine go_y (v := .pointer (some ⟨b2, 12, none⟩)) (y_fieldAddr rfl ty_fl_25_12) rfl ?_
    refine go_y (v := .int .i64 (sm u.st 3)) (y_load_fld rfl hb5 ty_sc_3 rfl) rfl ?_
    refine go_test (c := ((sm u.st 3) : Int) = 0) (y_eq rfl rfl) rfl (fun hc47 => ?_) (fun hc47 => ?_)
    · refine go_ops_nil ?_
      refine go_cond_true rfl ?_
      refine go_region ?_
      refine go_y (v := .pointer (some ⟨b2, 12, none⟩)) (y_fieldAddr rfl ty_fl_25_12) rfl ?_
      refine go_store [.int .i64 1] (#[u.nm, u.bus, u.mn, u.mx, u.segs, u.noload, u.rup, u.rdn, u.sramp, u.pramp, .int .i64 (sm u.up 4), .int .i64 (sm u.dn 4), .int .i64 1, .int .i64 u.hc, .int .i64 u.cc, .int .i64 (sm u.hh 4), u.res, u.rpr, u.away, .int .i64 (sm u.state 3), .int .i64 (1 + (sm u.hours 6)), u.out]) rfl rfl rfl ty_sz_3 rfl hb5 (by show _ ≤ _; exact Nat.le_of_ble_eq_true rfl) (by repeat (first | exact one_nil | refine one_cons (by first | rfl | assumption) ?_)) (by kernel_rfl) rfl ?_
      intro w48 hch49 hb5'
      replace hb10 := hb10.chg hch49 (Ne.symm hd11)
      replace hx := hx.chg hch49 hn4
      replace hb5 := hb5'
      refine go_ops_nil ?_
      refine go_region ?_
      refine go_y (v := .pointer (some ⟨b2, 20, none⟩)) (y_fieldAddr rfl ty_fl_25_20) rfl ?_
      refine go_y (v := .int .i64 (1 + (sm u.hours 6))) (y_load_fld rfl hb5 ty_sc_3 rfl) rfl ?_
      refine go_y (v := .pointer (some ⟨b2, 12, none⟩)) (y_fieldAddr rfl ty_fl_25_12) rfl ?_
      refine go_y (v := .int .i64 1) (y_load_fld rfl hb5 ty_sc_3 rfl) rfl ?_
      refine go_c (enters_func ty_en_35 rfl) (small_ret (1 + (sm u.hours 6)) 1 _ (by omega) (by omega)) rfl ?_
      rintro _ w51 ⟨rfl, hx52⟩
      replace hb5 := hb5.ext hx52
      replace hb10 := hb10.ext hx52
      replace hx := hx.trans hx52
      have hsm50 := sm_bd (1 + (sm u.hours 6)) (n := 1) (by omega)
      refine go_y (v := .int .i64 (1 + (sm (1 + (sm u.hours 6)) 1))) (y_add rfl rfl (by unfold in64; omega)) rfl ?_
      refine go_y (v := .pointer (some ⟨b2, 20, none⟩)) (y_fieldAddr rfl ty_fl_25_20) rfl ?_
      refine go_store [.int .i64 (1 + (sm (1 + (sm u.hours 6)) 1))] (#[u.nm, u.bus, u.mn, u.mx, u.segs, u.noload, u.rup, u.rdn, u.sramp, u.pramp, .int .i64 (sm u.up 4), .int .i64 (sm u.dn 4), .int .i64 1, .int .i64 u.hc, .int .i64 u.cc, .int .i64 (sm u.hh 4), u.res, u.rpr, u.away, .int .i64 (sm u.state 3), .int .i64 (1 + (sm (1 + (sm u.hours 6)) 1)), u.out]) rfl rfl rfl ty_sz_3 rfl hb5 (by show _ ≤ _; exact Nat.le_of_ble_eq_true rfl) (by repeat (first | exact one_nil | refine one_cons (by first | rfl | assumption) ?_)) (by kernel_rfl) rfl ?_
      intro w53 hch54 hb5'
      replace hb10 := hb10.chg hch54 (Ne.symm hd11)
      replace hx := hx.chg hch54 hn4
      replace hb5 := hb5'
      refine go_ops_nil ?_
      refine go_seq ?_
      refine go_region ?_
      refine go_y (v := .slice none 0 0) (y_assign) rfl ?_
      refine go_ops_nil ?_
      refine go_seq ?_
      refine go_seq ?_
      refine go_region ?_
      refine go_y (v := .int .i64 0) (y_assign) rfl ?_
      refine go_ops_nil ?_
      refine go_block ?_
      have own55 : Own w53 w53.heap.size 3 1 ic (.slice none 0 0) [] := Own.nil _ _ _ _ _
      have hbase56 : w.heap.size ≤ w53.heap.size := hx.size
      skip
      have hz57 : w53.heap.size ≤ w53.heap.size := Nat.le_refl _
      have hd58 := own55.ne hb5.lt
      have hd59 := own55.ne hb10.lt
      refine go_loop2 (G := Nat ) (H := Value) [3, 4, 44, 45, 46, 47, 48, 49, 50, 51, 52, 53, 54, 55, 56, 57, 58, 59, 60, 61, 62, 63] (fun g vs => [(4, .int .i64 (g : Int)), (3, vs)]) (fun g vs w' => Ext w w' ∧ Blk w' b2 (#[u.nm, u.bus, u.mn, u.mx, u.segs, u.noload, u.rup, u.rdn, u.sramp, u.pramp, .int .i64 (sm u.up 4), .int .i64 (sm u.dn 4), .int .i64 1, .int .i64 u.hc, .int .i64 u.cc, .int .i64 (sm u.hh 4), u.res, u.rpr, u.away, .int .i64 (sm u.state 3), .int .i64 (1 + (sm (1 + (sm u.hours 6)) 1)), u.out]) 25 ∧ Blk w' b7 (#[.string ⟨#[]⟩, .int .i64 0, .int .i64 0, .int .i64 0, .slice none 0 0, .int .i64 0, .int .i64 0, .int .i64 0, .int .i64 0, .int .i64 0, .int .i64 0, .int .i64 0, .int .i64 0, .int .i64 0, .int .i64 0, .int .i64 0, .int .i64 0, .int .i64 0, .slice none 0 0, .int .i64 0, .int .i64 0, .int .i64 0]) 25 ∧ w53.heap.size ≤ w'.heap.size ∧ Own w' w53.heap.size 3 1 ic vs ((aw.take g).map (fun x => sm x 12)) ∧ some b2 ≠ Value.ownBlock vs ∧ some b7 ≠ Value.ownBlock vs ∧ g ≤ aw.length ∧ g ≤ 4) (fun g vs => 4 - g) 0 (.slice none 0 0) ⟨rfl, rfl, trivial⟩ ⟨hx, hb5, hb10, hz57, own55, hd58, hd59, (by omega), (by omega)⟩ ?_
      clear hx hb5 hb10 hz57 own55 hd58 hd59
      intro g vs X61 w60 ⟨hx, hb5, hb10, hz57, own55, hd58, hd59, hg, hg4⟩
      refine go_seq ?_
      refine go_seq ?_
      refine go_region ?_
      refine go_y (v := .int .i64 (g : Int)) (y_move) rfl ?_
      refine go_y (v := .pointer (some ⟨b2, 18, none⟩)) (y_fieldAddr rfl ty_fl_25_18) rfl ?_
      refine go_y (v := u.away) (y_load_fld rfl hb5 ty_sc_23 rfl) rfl ?_
      refine go_y (v := .int .i64 (aw.length : Int)) (y_len_sl hl rfl ty_sl_23 _) rfl ?_
      refine go_test (c := ((g : Int) : Int) < (aw.length : Int)) (y_lt rfl rfl) rfl (fun hc62 => ?_) (fun hc62 => ?_)
      · refine go_y (v := .bool true) (y_move) rfl ?_
        refine go_y (v := .int .i64 (g : Int)) (y_move) (on_of (t := 49) rfl rfl) ?_
        refine go_test (c := ((g : Int) : Int) < 4) (y_lt rfl rfl) (on_of (t := 49) rfl rfl) (fun hc63 => ?_) (fun hc63 => ?_)
        · refine go_y (v := .bool true) (y_pick_t rfl) rfl ?_
          refine go_ops_nil ?_
          refine go_cond_true rfl ?_
          refine go_skip ?_
          refine go_seq ?_
          refine go_block ?_
          refine go_region ?_
          refine go_y (v := vs) (y_move) rfl ?_
          refine go_y (v := .pointer (some ⟨b2, 18, none⟩)) (y_fieldAddr rfl ty_fl_25_18) rfl ?_
          refine go_y (v := u.away) (y_load_fld rfl hb5 ty_sc_23 rfl) rfl ?_
          refine go_y (v := .int .i64 (g : Int)) (y_move) rfl ?_
          obtain ⟨a64, ha65⟩ := el_some (l := aw) (i := g) (by omega)
          obtain ⟨bb66, oo67, cc68, hv69, hc70⟩ := (hl.ext hx).at_ ha65
          refine go_y (v := .pointer (some ⟨bb66, oo67 + g * 1, none⟩)) (y_idxn g rfl hv69 rfl (by omega) ty_sl_23 (el_lt ha65)) rfl ?_
          refine go_y (v := .int .i64 a64) (y_load_el0 rfl hc70 ty_sc_3) rfl ?_
          refine go_c (enters_func ty_en_35 rfl) (small_ret a64 12 _ (by omega) (by omega)) rfl ?_
          rintro _ w72 ⟨rfl, hx73⟩
          replace hb5 := hb5.ext hx73
          replace hb10 := hb10.ext hx73
          replace hz57 := Nat.le_trans hz57 hx73.size
          replace own55 := own55.ext hx73
          replace hc70 := hc70.ext hx73
          replace hx := hx.trans hx73
          have hsm71 := sm_bd a64 (n := 12) (by omega)
          refine go_lit [.int .i64 (sm a64 12)] (#[.int .i64 (sm a64 12)]) ty_sl_23 ty_ze_3 (by decide) (by decide) rfl (by intro x hx_; simp only [List.mem_cons, List.not_mem_nil, or_false] at hx_; subst hx_; rfl) rfl rfl rfl ?_
          intro w74 b75 hx76 hn77 hb78
          have hd79 : b2 ≠ b75 := by have := hb5.lt; omega
          have hd80 : b7 ≠ b75 := by have := hb10.lt; omega
          have hd81 := own55.ne_new hn77
          replace hn77 := Nat.le_trans hx.size hn77
          replace hb5 := hb5.ext hx76
          replace hb10 := hb10.ext hx76
          replace hz57 := Nat.le_trans hz57 hx76.size
          replace own55 := own55.ext hx76
          replace hc70 := hc70.ext hx76
          replace hx := hx.trans hx76
          refine go_app1 (f := ic) (sm a64 12) rfl rfl own55 hb78 rfl rfl ty_us_23 ty_in_3 rfl (by decide) (by repeat (first | exact one_nil | refine one_cons (by first | rfl | assumption) ?_)) (by decide) (by simp; omega) hz57 rfl ?_
          intro v82 w83 own84 hg85 hbk86
          have hd87 := ne_append hb5.lt hd58 hbk86
          replace hb5 := hb5.grown hg85 hd58
          have hd88 := ne_append hb10.lt hd59 hbk86
          replace hb10 := hb10.grown hg85 hd59
          replace hz57 := Nat.le_trans hz57 hg85.size
          replace hx := own55.below hx hg85 hbase56
          refine go_y (v := v82) (y_assign) rfl ?_
          refine go_ops_nil ?_
          refine go_blk ?_
          refine go_region ?_
          refine go_y (v := .int .i64 (g : Int)) (y_move) rfl ?_
          refine go_y (v := .int .i64 ((g : Int) + 1)) (y_add rfl rfl (by unfold in64; omega)) rfl ?_
          refine go_y (v := .int .i64 ((g : Int) + 1)) (y_assign) rfl ?_
          refine go_ops_nil ?_
          refine go_upto ⟨g + 1, v82, ?_, ⟨ie (by omega), rfl, trivial⟩, ⟨hx, hb5, hb10, hz57, (by rw [nearA_step ha65]; exact own84), hd87, hd88, (by omega), (by omega)⟩, (by omega)⟩
          repeat (refine Agree.upd rfl ?_)
          exact Agree.updL rfl (Agree.havoc rfl (Agree.refl _ _))
        · refine go_y (v := .bool false) (y_pick_t rfl) rfl ?_
          refine go_ops_nil ?_
          refine go_cond_false rfl ?_
          refine go_exit rfl ?_
          refine go_seq ?_
          refine go_region ?_
          refine go_y (v := vs) (y_move) rfl ?_
          refine go_y (v := .pointer (some ⟨b2, 18, none⟩)) (y_fieldAddr rfl ty_fl_25_18) rfl ?_
          obtain ⟨sa64, sc65, rfl⟩ := own_form own55
          refine go_store [.slice sa64 ((aw.take g).map (fun x => sm x 12)).length sc65] (#[u.nm, u.bus, u.mn, u.mx, u.segs, u.noload, u.rup, u.rdn, u.sramp, u.pramp, .int .i64 (sm u.up 4), .int .i64 (sm u.dn 4), .int .i64 1, .int .i64 u.hc, .int .i64 u.cc, .int .i64 (sm u.hh 4), u.res, u.rpr, .slice sa64 ((aw.take g).map (fun x => sm x 12)).length sc65, .int .i64 (sm u.state 3), .int .i64 (1 + (sm (1 + (sm u.hours 6)) 1)), u.out]) rfl rfl rfl ty_sz_23 rfl hb5 (by show _ ≤ _; exact Nat.le_of_ble_eq_true rfl) (by repeat (first | exact one_nil | refine one_cons (by first | rfl | assumption) ?_)) (by kernel_rfl) rfl ?_
          intro w66 hch67 hb5'
          replace hb10 := hb10.chg hch67 (Ne.symm hd11)
          replace hz57 := Nat.le_trans hz57 (Nat.le_of_eq hch67.2.2.2.1.symm)
          replace own55 := own55.chg hch67 hd58
          replace hx := hx.chg hch67 hn4
          replace hb5 := hb5'
          refine go_ops_nil ?_
          refine go_seq ?_
          refine go_region ?_
          refine go_y (v := .agg #[u.nm, u.bus, u.mn, u.mx, u.segs, u.noload, u.rup, u.rdn, u.sramp, u.pramp, .int .i64 (sm u.up 4), .int .i64 (sm u.dn 4), .int .i64 1, .int .i64 u.hc, .int .i64 u.cc, .int .i64 (sm u.hh 4), u.res, u.rpr, .slice sa64 ((aw.take g).map (fun x => sm x 12)).length sc65, .int .i64 (sm u.state 3), .int .i64 (1 + (sm (1 + (sm u.hours 6)) 1)), u.out]) (y_load_blk rfl hb5 ty_ag_25 rfl) rfl ?_
          refine go_store ((#[u.nm, u.bus, u.mn, u.mx, u.segs, u.noload, u.rup, u.rdn, u.sramp, u.pramp, .int .i64 (sm u.up 4), .int .i64 (sm u.dn 4), .int .i64 1, .int .i64 u.hc, .int .i64 u.cc, .int .i64 (sm u.hh 4), u.res, u.rpr, .slice sa64 ((aw.take g).map (fun x => sm x 12)).length sc65, .int .i64 (sm u.state 3), .int .i64 (1 + (sm (1 + (sm u.hours 6)) 1)), u.out]).toList) (#[u.nm, u.bus, u.mn, u.mx, u.segs, u.noload, u.rup, u.rdn, u.sramp, u.pramp, .int .i64 (sm u.up 4), .int .i64 (sm u.dn 4), .int .i64 1, .int .i64 u.hc, .int .i64 u.cc, .int .i64 (sm u.hh 4), u.res, u.rpr, .slice sa64 ((aw.take g).map (fun x => sm x 12)).length sc65, .int .i64 (sm u.state 3), .int .i64 (1 + (sm (1 + (sm u.hours 6)) 1)), u.out]) rfl rfl rfl ty_sz_25 rfl hb10 (by show _ ≤ _; exact Nat.le_of_ble_eq_true rfl) (by repeat (first | exact one_nil | refine one_cons (by first | rfl | assumption) ?_)) (by kernel_rfl) rfl ?_
          intro w68 hch69 hb10'
          replace hb5 := hb5.chg hch69 (hd11)
          replace hz57 := Nat.le_trans hz57 (Nat.le_of_eq hch69.2.2.2.1.symm)
          replace own55 := own55.chg hch69 hd59
          replace hx := hx.chg hch69 hn9
          replace hb10 := hb10'
          refine go_ops_nil ?_
          refine go_ret ?_
          exact ⟨_, (#[u.nm, u.bus, u.mn, u.mx, u.segs, u.noload, u.rup, u.rdn, u.sramp, u.pramp, .int .i64 (sm u.up 4), .int .i64 (sm u.dn 4), .int .i64 1, .int .i64 u.hc, .int .i64 u.cc, .int .i64 (sm u.hh 4), u.res, u.rpr, .slice sa64 ((aw.take g).map (fun x => sm x 12)).length sc65, .int .i64 (sm u.state 3), .int .i64 (1 + (sm (1 + (sm u.hours 6)) 1)), u.out]).toList, rfl, rfl, hb10.cellsAt, ⟨_, near_eq (u := u) (a := 1) (b := sm u.state 3) (c := 1 + (sm (1 + (sm u.hours 6)) 1)) (av := .slice sa64 ((aw.take g).map (fun x => sm x 12)).length sc65) (by unfold nst nstate; (repeat' split) <;> first | rfl | omega) rfl (by unfold nhours nst nstate; (repeat' split) <;> first | rfl | omega | (exfalso; omega)), by have e : nearA aw = (aw.take g).map (fun x => sm x 12) := (by unfold nearA; rw [take_eq (l := aw) (g := g) (by omega) (by omega)]); rw [e]; exact own55.slr (fun _ => rfl), own55.frs hbase56⟩, hx⟩
      · refine go_y (v := .bool false) (y_move) rfl ?_
        refine go_off (off_of (t := 49) (b' := false) rfl rfl rfl) ?_
        refine go_off (off_of (t := 49) (b' := false) rfl rfl rfl) ?_
        refine go_y (v := .bool false) (y_pick_f rfl) rfl ?_
        refine go_ops_nil ?_
        refine go_cond_false rfl ?_
        refine go_exit rfl ?_
        refine go_seq ?_
        refine go_region ?_
        refine go_y (v := vs) (y_move) rfl ?_
        refine go_y (v := .pointer (some ⟨b2, 18, none⟩)) (y_fieldAddr rfl ty_fl_25_18) rfl ?_
        obtain ⟨sa63, sc64, rfl⟩ := own_form own55
        refine go_store [.slice sa63 ((aw.take g).map (fun x => sm x 12)).length sc64] (#[u.nm, u.bus, u.mn, u.mx, u.segs, u.noload, u.rup, u.rdn, u.sramp, u.pramp, .int .i64 (sm u.up 4), .int .i64 (sm u.dn 4), .int .i64 1, .int .i64 u.hc, .int .i64 u.cc, .int .i64 (sm u.hh 4), u.res, u.rpr, .slice sa63 ((aw.take g).map (fun x => sm x 12)).length sc64, .int .i64 (sm u.state 3), .int .i64 (1 + (sm (1 + (sm u.hours 6)) 1)), u.out]) rfl rfl rfl ty_sz_23 rfl hb5 (by show _ ≤ _; exact Nat.le_of_ble_eq_true rfl) (by repeat (first | exact one_nil | refine one_cons (by first | rfl | assumption) ?_)) (by kernel_rfl) rfl ?_
        intro w65 hch66 hb5'
        replace hb10 := hb10.chg hch66 (Ne.symm hd11)
        replace hz57 := Nat.le_trans hz57 (Nat.le_of_eq hch66.2.2.2.1.symm)
        replace own55 := own55.chg hch66 hd58
        replace hx := hx.chg hch66 hn4
        replace hb5 := hb5'
        refine go_ops_nil ?_
        refine go_seq ?_
        refine go_region ?_
        refine go_y (v := .agg #[u.nm, u.bus, u.mn, u.mx, u.segs, u.noload, u.rup, u.rdn, u.sramp, u.pramp, .int .i64 (sm u.up 4), .int .i64 (sm u.dn 4), .int .i64 1, .int .i64 u.hc, .int .i64 u.cc, .int .i64 (sm u.hh 4), u.res, u.rpr, .slice sa63 ((aw.take g).map (fun x => sm x 12)).length sc64, .int .i64 (sm u.state 3), .int .i64 (1 + (sm (1 + (sm u.hours 6)) 1)), u.out]) (y_load_blk rfl hb5 ty_ag_25 rfl) rfl ?_
        refine go_store ((#[u.nm, u.bus, u.mn, u.mx, u.segs, u.noload, u.rup, u.rdn, u.sramp, u.pramp, .int .i64 (sm u.up 4), .int .i64 (sm u.dn 4), .int .i64 1, .int .i64 u.hc, .int .i64 u.cc, .int .i64 (sm u.hh 4), u.res, u.rpr, .slice sa63 ((aw.take g).map (fun x => sm x 12)).length sc64, .int .i64 (sm u.state 3), .int .i64 (1 + (sm (1 + (sm u.hours 6)) 1)), u.out]).toList) (#[u.nm, u.bus, u.mn, u.mx, u.segs, u.noload, u.rup, u.rdn, u.sramp, u.pramp, .int .i64 (sm u.up 4), .int .i64 (sm u.dn 4), .int .i64 1, .int .i64 u.hc, .int .i64 u.cc, .int .i64 (sm u.hh 4), u.res, u.rpr, .slice sa63 ((aw.take g).map (fun x => sm x 12)).length sc64, .int .i64 (sm u.state 3), .int .i64 (1 + (sm (1 + (sm u.hours 6)) 1)), u.out]) rfl rfl rfl ty_sz_25 rfl hb10 (by show _ ≤ _; exact Nat.le_of_ble_eq_true rfl) (by repeat (first | exact one_nil | refine one_cons (by first | rfl | assumption) ?_)) (by kernel_rfl) rfl ?_
        intro w67 hch68 hb10'
        replace hb5 := hb5.chg hch68 (hd11)
        replace hz57 := Nat.le_trans hz57 (Nat.le_of_eq hch68.2.2.2.1.symm)
        replace own55 := own55.chg hch68 hd59
        replace hx := hx.chg hch68 hn9
        replace hb10 := hb10'
        refine go_ops_nil ?_
        refine go_ret ?_
        exact ⟨_, (#[u.nm, u.bus, u.mn, u.mx, u.segs, u.noload, u.rup, u.rdn, u.sramp, u.pramp, .int .i64 (sm u.up 4), .int .i64 (sm u.dn 4), .int .i64 1, .int .i64 u.hc, .int .i64 u.cc, .int .i64 (sm u.hh 4), u.res, u.rpr, .slice sa63 ((aw.take g).map (fun x => sm x 12)).length sc64, .int .i64 (sm u.state 3), .int .i64 (1 + (sm (1 + (sm u.hours 6)) 1)), u.out]).toList, rfl, rfl, hb10.cellsAt, ⟨_, near_eq (u := u) (a := 1) (b := sm u.state 3) (c := 1 + (sm (1 + (sm u.hours 6)) 1)) (av := .slice sa63 ((aw.take g).map (fun x => sm x 12)).length sc64) (by unfold nst nstate; (repeat' split) <;> first | rfl | omega) rfl (by unfold nhours nst nstate; (repeat' split) <;> first | rfl | omega | (exfalso; omega)), by have e : nearA aw = (aw.take g).map (fun x => sm x 12) := (by unfold nearA; rw [take_eq (l := aw) (g := g) (by omega) (by omega)]); rw [e]; exact own55.slr (fun _ => rfl), own55.frs hbase56⟩, hx⟩
    · refine go_ops_nil ?_
      refine go_cond_false rfl ?_
      refine go_skip ?_
      refine go_region ?_
      refine go_y (v := .pointer (some ⟨b2, 20, none⟩)) (y_fieldAddr rfl ty_fl_25_20) rfl ?_
      refine go_y (v := .int .i64 (1 + (sm u.hours 6))) (y_load_fld rfl hb5 ty_sc_3 rfl) rfl ?_
      refine go_y (v := .pointer (some ⟨b2, 12, none⟩)) (y_fieldAddr rfl ty_fl_25_12) rfl ?_
      refine go_y (v := .int .i64 (sm u.st 3)) (y_load_fld rfl hb5 ty_sc_3 rfl) rfl ?_
      refine go_c (enters_func ty_en_35 rfl) (small_ret (1 + (sm u.hours 6)) (sm u.st 3) _ (by omega) (by omega)) rfl ?_
      rintro _ w49 ⟨rfl, hx50⟩
      replace hb5 := hb5.ext hx50
      replace hb10 := hb10.ext hx50
      replace hx := hx.trans hx50
      have hsm48 := sm_bd (1 + (sm u.hours 6)) (n := (sm u.st 3)) (by omega)
      refine go_y (v := .int .i64 (1 + (sm (1 + (sm u.hours 6)) (sm u.st 3)))) (y_add rfl rfl (by unfold in64; omega)) rfl ?_
      refine go_y (v := .pointer (some ⟨b2, 20, none⟩)) (y_fieldAddr rfl ty_fl_25_20) rfl ?_
      refine go_store [.int .i64 (1 + (sm (1 + (sm u.hours 6)) (sm u.st 3)))] (#[u.nm, u.bus, u.mn, u.mx, u.segs, u.noload, u.rup, u.rdn, u.sramp, u.pramp, .int .i64 (sm u.up 4), .int .i64 (sm u.dn 4), .int .i64 (sm u.st 3), .int .i64 u.hc, .int .i64 u.cc, .int .i64 (sm u.hh 4), u.res, u.rpr, u.away, .int .i64 (sm u.state 3), .int .i64 (1 + (sm (1 + (sm u.hours 6)) (sm u.st 3))), u.out]) rfl rfl rfl ty_sz_3 rfl hb5 (by show _ ≤ _; exact Nat.le_of_ble_eq_true rfl) (by repeat (first | exact one_nil | refine one_cons (by first | rfl | assumption) ?_)) (by kernel_rfl) rfl ?_
      intro w51 hch52 hb5'
      replace hb10 := hb10.chg hch52 (Ne.symm hd11)
      replace hx := hx.chg hch52 hn4
      replace hb5 := hb5'
      refine go_ops_nil ?_
      refine go_seq ?_
      refine go_region ?_
      refine go_y (v := .slice none 0 0) (y_assign) rfl ?_
      refine go_ops_nil ?_
      refine go_seq ?_
      refine go_seq ?_
      refine go_region ?_
      refine go_y (v := .int .i64 0) (y_assign) rfl ?_
      refine go_ops_nil ?_
      refine go_block ?_
      have own53 : Own w51 w51.heap.size 3 1 ic (.slice none 0 0) [] := Own.nil _ _ _ _ _
      have hbase54 : w.heap.size ≤ w51.heap.size := hx.size
      skip
      have hz55 : w51.heap.size ≤ w51.heap.size := Nat.le_refl _
      have hd56 := own53.ne hb5.lt
      have hd57 := own53.ne hb10.lt
      refine go_loop2 (G := Nat ) (H := Value) [3, 4, 44, 45, 46, 47, 48, 49, 50, 51, 52, 53, 54, 55, 56, 57, 58, 59, 60, 61, 62, 63] (fun g vs => [(4, .int .i64 (g : Int)), (3, vs)]) (fun g vs w' => Ext w w' ∧ Blk w' b2 (#[u.nm, u.bus, u.mn, u.mx, u.segs, u.noload, u.rup, u.rdn, u.sramp, u.pramp, .int .i64 (sm u.up 4), .int .i64 (sm u.dn 4), .int .i64 (sm u.st 3), .int .i64 u.hc, .int .i64 u.cc, .int .i64 (sm u.hh 4), u.res, u.rpr, u.away, .int .i64 (sm u.state 3), .int .i64 (1 + (sm (1 + (sm u.hours 6)) (sm u.st 3))), u.out]) 25 ∧ Blk w' b7 (#[.string ⟨#[]⟩, .int .i64 0, .int .i64 0, .int .i64 0, .slice none 0 0, .int .i64 0, .int .i64 0, .int .i64 0, .int .i64 0, .int .i64 0, .int .i64 0, .int .i64 0, .int .i64 0, .int .i64 0, .int .i64 0, .int .i64 0, .int .i64 0, .int .i64 0, .slice none 0 0, .int .i64 0, .int .i64 0, .int .i64 0]) 25 ∧ w51.heap.size ≤ w'.heap.size ∧ Own w' w51.heap.size 3 1 ic vs ((aw.take g).map (fun x => sm x 12)) ∧ some b2 ≠ Value.ownBlock vs ∧ some b7 ≠ Value.ownBlock vs ∧ g ≤ aw.length ∧ g ≤ 4) (fun g vs => 4 - g) 0 (.slice none 0 0) ⟨rfl, rfl, trivial⟩ ⟨hx, hb5, hb10, hz55, own53, hd56, hd57, (by omega), (by omega)⟩ ?_
      clear hx hb5 hb10 hz55 own53 hd56 hd57
      intro g vs X59 w58 ⟨hx, hb5, hb10, hz55, own53, hd56, hd57, hg, hg4⟩
      refine go_seq ?_
      refine go_seq ?_
      refine go_region ?_
      refine go_y (v := .int .i64 (g : Int)) (y_move) rfl ?_
      refine go_y (v := .pointer (some ⟨b2, 18, none⟩)) (y_fieldAddr rfl ty_fl_25_18) rfl ?_
      refine go_y (v := u.away) (y_load_fld rfl hb5 ty_sc_23 rfl) rfl ?_
      refine go_y (v := .int .i64 (aw.length : Int)) (y_len_sl hl rfl ty_sl_23 _) rfl ?_
      refine go_test (c := ((g : Int) : Int) < (aw.length : Int)) (y_lt rfl rfl) rfl (fun hc60 => ?_) (fun hc60 => ?_)
      · refine go_y (v := .bool true) (y_move) rfl ?_
        refine go_y (v := .int .i64 (g : Int)) (y_move) (on_of (t := 49) rfl rfl) ?_
        refine go_test (c := ((g : Int) : Int) < 4) (y_lt rfl rfl) (on_of (t := 49) rfl rfl) (fun hc61 => ?_) (fun hc61 => ?_)
        · refine go_y (v := .bool true) (y_pick_t rfl) rfl ?_
          refine go_ops_nil ?_
          refine go_cond_true rfl ?_
          refine go_skip ?_
          refine go_seq ?_
          refine go_block ?_
          refine go_region ?_
          refine go_y (v := vs) (y_move) rfl ?_
          refine go_y (v := .pointer (some ⟨b2, 18, none⟩)) (y_fieldAddr rfl ty_fl_25_18) rfl ?_
          refine go_y (v := u.away) (y_load_fld rfl hb5 ty_sc_23 rfl) rfl ?_
          refine go_y (v := .int .i64 (g : Int)) (y_move) rfl ?_
          obtain ⟨a62, ha63⟩ := el_some (l := aw) (i := g) (by omega)
          obtain ⟨bb64, oo65, cc66, hv67, hc68⟩ := (hl.ext hx).at_ ha63
          refine go_y (v := .pointer (some ⟨bb64, oo65 + g * 1, none⟩)) (y_idxn g rfl hv67 rfl (by omega) ty_sl_23 (el_lt ha63)) rfl ?_
          refine go_y (v := .int .i64 a62) (y_load_el0 rfl hc68 ty_sc_3) rfl ?_
          refine go_c (enters_func ty_en_35 rfl) (small_ret a62 12 _ (by omega) (by omega)) rfl ?_
          rintro _ w70 ⟨rfl, hx71⟩
          replace hb5 := hb5.ext hx71
          replace hb10 := hb10.ext hx71
          replace hz55 := Nat.le_trans hz55 hx71.size
          replace own53 := own53.ext hx71
          replace hc68 := hc68.ext hx71
          replace hx := hx.trans hx71
          have hsm69 := sm_bd a62 (n := 12) (by omega)
          refine go_lit [.int .i64 (sm a62 12)] (#[.int .i64 (sm a62 12)]) ty_sl_23 ty_ze_3 (by decide) (by decide) rfl (by intro x hx_; simp only [List.mem_cons, List.not_mem_nil, or_false] at hx_; subst hx_; rfl) rfl rfl rfl ?_
          intro w72 b73 hx74 hn75 hb76
          have hd77 : b2 ≠ b73 := by have := hb5.lt; omega
          have hd78 : b7 ≠ b73 := by have := hb10.lt; omega
          have hd79 := own53.ne_new hn75
          replace hn75 := Nat.le_trans hx.size hn75
          replace hb5 := hb5.ext hx74
          replace hb10 := hb10.ext hx74
          replace hz55 := Nat.le_trans hz55 hx74.size
          replace own53 := own53.ext hx74
          replace hc68 := hc68.ext hx74
          replace hx := hx.trans hx74
          refine go_app1 (f := ic) (sm a62 12) rfl rfl own53 hb76 rfl rfl ty_us_23 ty_in_3 rfl (by decide) (by repeat (first | exact one_nil | refine one_cons (by first | rfl | assumption) ?_)) (by decide) (by simp; omega) hz55 rfl ?_
          intro v80 w81 own82 hg83 hbk84
          have hd85 := ne_append hb5.lt hd56 hbk84
          replace hb5 := hb5.grown hg83 hd56
          have hd86 := ne_append hb10.lt hd57 hbk84
          replace hb10 := hb10.grown hg83 hd57
          replace hz55 := Nat.le_trans hz55 hg83.size
          replace hx := own53.below hx hg83 hbase54
          refine go_y (v := v80) (y_assign) rfl ?_
          refine go_ops_nil ?_
          refine go_blk ?_
          refine go_region ?_
          refine go_y (v := .int .i64 (g : Int)) (y_move) rfl ?_
          refine go_y (v := .int .i64 ((g : Int) + 1)) (y_add rfl rfl (by unfold in64; omega)) rfl ?_
          refine go_y (v := .int .i64 ((g : Int) + 1)) (y_assign) rfl ?_
          refine go_ops_nil ?_
          refine go_upto ⟨g + 1, v80, ?_, ⟨ie (by omega), rfl, trivial⟩, ⟨hx, hb5, hb10, hz55, (by rw [nearA_step ha63]; exact own82), hd85, hd86, (by omega), (by omega)⟩, (by omega)⟩
          repeat (refine Agree.upd rfl ?_)
          exact Agree.updL rfl (Agree.havoc rfl (Agree.refl _ _))
        · refine go_y (v := .bool false) (y_pick_t rfl) rfl ?_
          refine go_ops_nil ?_
          refine go_cond_false rfl ?_
          refine go_exit rfl ?_
          refine go_seq ?_
          refine go_region ?_
          refine go_y (v := vs) (y_move) rfl ?_
          refine go_y (v := .pointer (some ⟨b2, 18, none⟩)) (y_fieldAddr rfl ty_fl_25_18) rfl ?_
          obtain ⟨sa62, sc63, rfl⟩ := own_form own53
          refine go_store [.slice sa62 ((aw.take g).map (fun x => sm x 12)).length sc63] (#[u.nm, u.bus, u.mn, u.mx, u.segs, u.noload, u.rup, u.rdn, u.sramp, u.pramp, .int .i64 (sm u.up 4), .int .i64 (sm u.dn 4), .int .i64 (sm u.st 3), .int .i64 u.hc, .int .i64 u.cc, .int .i64 (sm u.hh 4), u.res, u.rpr, .slice sa62 ((aw.take g).map (fun x => sm x 12)).length sc63, .int .i64 (sm u.state 3), .int .i64 (1 + (sm (1 + (sm u.hours 6)) (sm u.st 3))), u.out]) rfl rfl rfl ty_sz_23 rfl hb5 (by show _ ≤ _; exact Nat.le_of_ble_eq_true rfl) (by repeat (first | exact one_nil | refine one_cons (by first | rfl | assumption) ?_)) (by kernel_rfl) rfl ?_
          intro w64 hch65 hb5'
          replace hb10 := hb10.chg hch65 (Ne.symm hd11)
          replace hz55 := Nat.le_trans hz55 (Nat.le_of_eq hch65.2.2.2.1.symm)
          replace own53 := own53.chg hch65 hd56
          replace hx := hx.chg hch65 hn4
          replace hb5 := hb5'
          refine go_ops_nil ?_
          refine go_seq ?_
          refine go_region ?_
          refine go_y (v := .agg #[u.nm, u.bus, u.mn, u.mx, u.segs, u.noload, u.rup, u.rdn, u.sramp, u.pramp, .int .i64 (sm u.up 4), .int .i64 (sm u.dn 4), .int .i64 (sm u.st 3), .int .i64 u.hc, .int .i64 u.cc, .int .i64 (sm u.hh 4), u.res, u.rpr, .slice sa62 ((aw.take g).map (fun x => sm x 12)).length sc63, .int .i64 (sm u.state 3), .int .i64 (1 + (sm (1 + (sm u.hours 6)) (sm u.st 3))), u.out]) (y_load_blk rfl hb5 ty_ag_25 rfl) rfl ?_
          refine go_store ((#[u.nm, u.bus, u.mn, u.mx, u.segs, u.noload, u.rup, u.rdn, u.sramp, u.pramp, .int .i64 (sm u.up 4), .int .i64 (sm u.dn 4), .int .i64 (sm u.st 3), .int .i64 u.hc, .int .i64 u.cc, .int .i64 (sm u.hh 4), u.res, u.rpr, .slice sa62 ((aw.take g).map (fun x => sm x 12)).length sc63, .int .i64 (sm u.state 3), .int .i64 (1 + (sm (1 + (sm u.hours 6)) (sm u.st 3))), u.out]).toList) (#[u.nm, u.bus, u.mn, u.mx, u.segs, u.noload, u.rup, u.rdn, u.sramp, u.pramp, .int .i64 (sm u.up 4), .int .i64 (sm u.dn 4), .int .i64 (sm u.st 3), .int .i64 u.hc, .int .i64 u.cc, .int .i64 (sm u.hh 4), u.res, u.rpr, .slice sa62 ((aw.take g).map (fun x => sm x 12)).length sc63, .int .i64 (sm u.state 3), .int .i64 (1 + (sm (1 + (sm u.hours 6)) (sm u.st 3))), u.out]) rfl rfl rfl ty_sz_25 rfl hb10 (by show _ ≤ _; exact Nat.le_of_ble_eq_true rfl) (by repeat (first | exact one_nil | refine one_cons (by first | rfl | assumption) ?_)) (by kernel_rfl) rfl ?_
          intro w66 hch67 hb10'
          replace hb5 := hb5.chg hch67 (hd11)
          replace hz55 := Nat.le_trans hz55 (Nat.le_of_eq hch67.2.2.2.1.symm)
          replace own53 := own53.chg hch67 hd57
          replace hx := hx.chg hch67 hn9
          replace hb10 := hb10'
          refine go_ops_nil ?_
          refine go_ret ?_
          exact ⟨_, (#[u.nm, u.bus, u.mn, u.mx, u.segs, u.noload, u.rup, u.rdn, u.sramp, u.pramp, .int .i64 (sm u.up 4), .int .i64 (sm u.dn 4), .int .i64 (sm u.st 3), .int .i64 u.hc, .int .i64 u.cc, .int .i64 (sm u.hh 4), u.res, u.rpr, .slice sa62 ((aw.take g).map (fun x => sm x 12)).length sc63, .int .i64 (sm u.state 3), .int .i64 (1 + (sm (1 + (sm u.hours 6)) (sm u.st 3))), u.out]).toList, rfl, rfl, hb10.cellsAt, ⟨_, near_eq (u := u) (a := sm u.st 3) (b := sm u.state 3) (c := 1 + (sm (1 + (sm u.hours 6)) (sm u.st 3))) (av := .slice sa62 ((aw.take g).map (fun x => sm x 12)).length sc63) (by unfold nst nstate; (repeat' split) <;> first | rfl | omega) rfl (by unfold nhours nst nstate; (repeat' split) <;> first | rfl | omega | (exfalso; omega)), by have e : nearA aw = (aw.take g).map (fun x => sm x 12) := (by unfold nearA; rw [take_eq (l := aw) (g := g) (by omega) (by omega)]); rw [e]; exact own53.slr (fun _ => rfl), own53.frs hbase54⟩, hx⟩
      · refine go_y (v := .bool false) (y_move) rfl ?_
        refine go_off (off_of (t := 49) (b' := false) rfl rfl rfl) ?_
        refine go_off (off_of (t := 49) (b' := false) rfl rfl rfl) ?_
        refine go_y (v := .bool false) (y_pick_f rfl) rfl ?_
        refine go_ops_nil ?_
        refine go_cond_false rfl ?_
        refine go_exit rfl ?_
        refine go_seq ?_
        refine go_region ?_
        refine go_y (v := vs) (y_move) rfl ?_
        refine go_y (v := .pointer (some ⟨b2, 18, none⟩)) (y_fieldAddr rfl ty_fl_25_18) rfl ?_
        obtain ⟨sa61, sc62, rfl⟩ := own_form own53
        refine go_store [.slice sa61 ((aw.take g).map (fun x => sm x 12)).length sc62] (#[u.nm, u.bus, u.mn, u.mx, u.segs, u.noload, u.rup, u.rdn, u.sramp, u.pramp, .int .i64 (sm u.up 4), .int .i64 (sm u.dn 4), .int .i64 (sm u.st 3), .int .i64 u.hc, .int .i64 u.cc, .int .i64 (sm u.hh 4), u.res, u.rpr, .slice sa61 ((aw.take g).map (fun x => sm x 12)).length sc62, .int .i64 (sm u.state 3), .int .i64 (1 + (sm (1 + (sm u.hours 6)) (sm u.st 3))), u.out]) rfl rfl rfl ty_sz_23 rfl hb5 (by show _ ≤ _; exact Nat.le_of_ble_eq_true rfl) (by repeat (first | exact one_nil | refine one_cons (by first | rfl | assumption) ?_)) (by kernel_rfl) rfl ?_
        intro w63 hch64 hb5'
        replace hb10 := hb10.chg hch64 (Ne.symm hd11)
        replace hz55 := Nat.le_trans hz55 (Nat.le_of_eq hch64.2.2.2.1.symm)
        replace own53 := own53.chg hch64 hd56
        replace hx := hx.chg hch64 hn4
        replace hb5 := hb5'
        refine go_ops_nil ?_
        refine go_seq ?_
        refine go_region ?_
        refine go_y (v := .agg #[u.nm, u.bus, u.mn, u.mx, u.segs, u.noload, u.rup, u.rdn, u.sramp, u.pramp, .int .i64 (sm u.up 4), .int .i64 (sm u.dn 4), .int .i64 (sm u.st 3), .int .i64 u.hc, .int .i64 u.cc, .int .i64 (sm u.hh 4), u.res, u.rpr, .slice sa61 ((aw.take g).map (fun x => sm x 12)).length sc62, .int .i64 (sm u.state 3), .int .i64 (1 + (sm (1 + (sm u.hours 6)) (sm u.st 3))), u.out]) (y_load_blk rfl hb5 ty_ag_25 rfl) rfl ?_
        refine go_store ((#[u.nm, u.bus, u.mn, u.mx, u.segs, u.noload, u.rup, u.rdn, u.sramp, u.pramp, .int .i64 (sm u.up 4), .int .i64 (sm u.dn 4), .int .i64 (sm u.st 3), .int .i64 u.hc, .int .i64 u.cc, .int .i64 (sm u.hh 4), u.res, u.rpr, .slice sa61 ((aw.take g).map (fun x => sm x 12)).length sc62, .int .i64 (sm u.state 3), .int .i64 (1 + (sm (1 + (sm u.hours 6)) (sm u.st 3))), u.out]).toList) (#[u.nm, u.bus, u.mn, u.mx, u.segs, u.noload, u.rup, u.rdn, u.sramp, u.pramp, .int .i64 (sm u.up 4), .int .i64 (sm u.dn 4), .int .i64 (sm u.st 3), .int .i64 u.hc, .int .i64 u.cc, .int .i64 (sm u.hh 4), u.res, u.rpr, .slice sa61 ((aw.take g).map (fun x => sm x 12)).length sc62, .int .i64 (sm u.state 3), .int .i64 (1 + (sm (1 + (sm u.hours 6)) (sm u.st 3))), u.out]) rfl rfl rfl ty_sz_25 rfl hb10 (by show _ ≤ _; exact Nat.le_of_ble_eq_true rfl) (by repeat (first | exact one_nil | refine one_cons (by first | rfl | assumption) ?_)) (by kernel_rfl) rfl ?_
        intro w65 hch66 hb10'
        replace hb5 := hb5.chg hch66 (hd11)
        replace hz55 := Nat.le_trans hz55 (Nat.le_of_eq hch66.2.2.2.1.symm)
        replace own53 := own53.chg hch66 hd57
        replace hx := hx.chg hch66 hn9
        replace hb10 := hb10'
        refine go_ops_nil ?_
        refine go_ret ?_
        exact ⟨_, (#[u.nm, u.bus, u.mn, u.mx, u.segs, u.noload, u.rup, u.rdn, u.sramp, u.pramp, .int .i64 (sm u.up 4), .int .i64 (sm u.dn 4), .int .i64 (sm u.st 3), .int .i64 u.hc, .int .i64 u.cc, .int .i64 (sm u.hh 4), u.res, u.rpr, .slice sa61 ((aw.take g).map (fun x => sm x 12)).length sc62, .int .i64 (sm u.state 3), .int .i64 (1 + (sm (1 + (sm u.hours 6)) (sm u.st 3))), u.out]).toList, rfl, rfl, hb10.cellsAt, ⟨_, near_eq (u := u) (a := sm u.st 3) (b := sm u.state 3) (c := 1 + (sm (1 + (sm u.hours 6)) (sm u.st 3))) (av := .slice sa61 ((aw.take g).map (fun x => sm x 12)).length sc62) (by unfold nst nstate; (repeat' split) <;> first | rfl | omega) rfl (by unfold nhours nst nstate; (repeat' split) <;> first | rfl | omega | (exfalso; omega)), by have e : nearA aw = (aw.take g).map (fun x => sm x 12) := (by unfold nearA; rw [take_eq (l := aw) (g := g) (by omega) (by omega)]); rw [e]; exact own53.slr (fun _ => rfl), own53.frs hbase54⟩, hx⟩
  · refine go_ops_nil ?_
    refine go_cond_false rfl ?_
    refine go_skip ?_
    refine go_seq ?_
    refine go_region ?_
    refine go_y (v := .slice none 0 0) (y_assign) rfl ?_
    refine go_ops_nil ?_
    refine go_seq ?_
    refine go_seq ?_
    refine go_region ?_
    refine go_y (v := .int .i64 0) (y_assign) rfl ?_
    refine go_ops_nil ?_
    refine go_block ?_
    have own47 : Own w44 w44.heap.size 3 1 ic (.slice none 0 0) [] := Own.nil _ _ _ _ _
    have hbase48 : w.heap.size ≤ w44.heap.size := hx.size
    skip
    have hz49 : w44.heap.size ≤ w44.heap.size := Nat.le_refl _
    have hd50 := own47.ne hb5.lt
    have hd51 := own47.ne hb10.lt
    refine go_loop2 (G := Nat ) (H := Value) [3, 4, 44, 45, 46, 47, 48, 49, 50, 51, 52, 53, 54, 55, 56, 57, 58, 59, 60, 61, 62, 63] (fun g vs => [(4, .int .i64 (g : Int)), (3, vs)]) (fun g vs w' => Ext w w' ∧ Blk w' b2 (#[u.nm, u.bus, u.mn, u.mx, u.segs, u.noload, u.rup, u.rdn, u.sramp, u.pramp, .int .i64 (sm u.up 4), .int .i64 (sm u.dn 4), .int .i64 (sm u.st 3), .int .i64 u.hc, .int .i64 u.cc, .int .i64 (sm u.hh 4), u.res, u.rpr, u.away, .int .i64 (sm u.state 3), .int .i64 (1 + (sm u.hours 6)), u.out]) 25 ∧ Blk w' b7 (#[.string ⟨#[]⟩, .int .i64 0, .int .i64 0, .int .i64 0, .slice none 0 0, .int .i64 0, .int .i64 0, .int .i64 0, .int .i64 0, .int .i64 0, .int .i64 0, .int .i64 0, .int .i64 0, .int .i64 0, .int .i64 0, .int .i64 0, .int .i64 0, .int .i64 0, .slice none 0 0, .int .i64 0, .int .i64 0, .int .i64 0]) 25 ∧ w44.heap.size ≤ w'.heap.size ∧ Own w' w44.heap.size 3 1 ic vs ((aw.take g).map (fun x => sm x 12)) ∧ some b2 ≠ Value.ownBlock vs ∧ some b7 ≠ Value.ownBlock vs ∧ g ≤ aw.length ∧ g ≤ 4) (fun g vs => 4 - g) 0 (.slice none 0 0) ⟨rfl, rfl, trivial⟩ ⟨hx, hb5, hb10, hz49, own47, hd50, hd51, (by omega), (by omega)⟩ ?_
    clear hx hb5 hb10 hz49 own47 hd50 hd51
    intro g vs X53 w52 ⟨hx, hb5, hb10, hz49, own47, hd50, hd51, hg, hg4⟩
    refine go_seq ?_
    refine go_seq ?_
    refine go_region ?_
    refine go_y (v := .int .i64 (g : Int)) (y_move) rfl ?_
    refine go_y (v := .pointer (some ⟨b2, 18, none⟩)) (y_fieldAddr rfl ty_fl_25_18) rfl ?_
    refine go_y (v := u.away) (y_load_fld rfl hb5 ty_sc_23 rfl) rfl ?_
    refine go_y (v := .int .i64 (aw.length : Int)) (y_len_sl hl rfl ty_sl_23 _) rfl ?_
    refine go_test (c := ((g : Int) : Int) < (aw.length : Int)) (y_lt rfl rfl) rfl (fun hc54 => ?_) (fun hc54 => ?_)
    · refine go_y (v := .bool true) (y_move) rfl ?_
      refine go_y (v := .int .i64 (g : Int)) (y_move) (on_of (t := 49) rfl rfl) ?_
      refine go_test (c := ((g : Int) : Int) < 4) (y_lt rfl rfl) (on_of (t := 49) rfl rfl) (fun hc55 => ?_) (fun hc55 => ?_)
      · refine go_y (v := .bool true) (y_pick_t rfl) rfl ?_
        refine go_ops_nil ?_
        refine go_cond_true rfl ?_
        refine go_skip ?_
        refine go_seq ?_
        refine go_block ?_
        refine go_region ?_
        refine go_y (v := vs) (y_move) rfl ?_
        refine go_y (v := .pointer (some ⟨b2, 18, none⟩)) (y_fieldAddr rfl ty_fl_25_18) rfl ?_
        refine go_y (v := u.away) (y_load_fld rfl hb5 ty_sc_23 rfl) rfl ?_
        refine go_y (v := .int .i64 (g : Int)) (y_move) rfl ?_
        obtain ⟨a56, ha57⟩ := el_some (l := aw) (i := g) (by omega)
        obtain ⟨bb58, oo59, cc60, hv61, hc62⟩ := (hl.ext hx).at_ ha57
        refine go_y (v := .pointer (some ⟨bb58, oo59 + g * 1, none⟩)) (y_idxn g rfl hv61 rfl (by omega) ty_sl_23 (el_lt ha57)) rfl ?_
        refine go_y (v := .int .i64 a56) (y_load_el0 rfl hc62 ty_sc_3) rfl ?_
        refine go_c (enters_func ty_en_35 rfl) (small_ret a56 12 _ (by omega) (by omega)) rfl ?_
        rintro _ w64 ⟨rfl, hx65⟩
        replace hb5 := hb5.ext hx65
        replace hb10 := hb10.ext hx65
        replace hz49 := Nat.le_trans hz49 hx65.size
        replace own47 := own47.ext hx65
        replace hc62 := hc62.ext hx65
        replace hx := hx.trans hx65
        have hsm63 := sm_bd a56 (n := 12) (by omega)
        refine go_lit [.int .i64 (sm a56 12)] (#[.int .i64 (sm a56 12)]) ty_sl_23 ty_ze_3 (by decide) (by decide) rfl (by intro x hx_; simp only [List.mem_cons, List.not_mem_nil, or_false] at hx_; subst hx_; rfl) rfl rfl rfl ?_
        intro w66 b67 hx68 hn69 hb70
        have hd71 : b2 ≠ b67 := by have := hb5.lt; omega
        have hd72 : b7 ≠ b67 := by have := hb10.lt; omega
        have hd73 := own47.ne_new hn69
        replace hn69 := Nat.le_trans hx.size hn69
        replace hb5 := hb5.ext hx68
        replace hb10 := hb10.ext hx68
        replace hz49 := Nat.le_trans hz49 hx68.size
        replace own47 := own47.ext hx68
        replace hc62 := hc62.ext hx68
        replace hx := hx.trans hx68
        refine go_app1 (f := ic) (sm a56 12) rfl rfl own47 hb70 rfl rfl ty_us_23 ty_in_3 rfl (by decide) (by repeat (first | exact one_nil | refine one_cons (by first | rfl | assumption) ?_)) (by decide) (by simp; omega) hz49 rfl ?_
        intro v74 w75 own76 hg77 hbk78
        have hd79 := ne_append hb5.lt hd50 hbk78
        replace hb5 := hb5.grown hg77 hd50
        have hd80 := ne_append hb10.lt hd51 hbk78
        replace hb10 := hb10.grown hg77 hd51
        replace hz49 := Nat.le_trans hz49 hg77.size
        replace hx := own47.below hx hg77 hbase48
        refine go_y (v := v74) (y_assign) rfl ?_
        refine go_ops_nil ?_
        refine go_blk ?_
        refine go_region ?_
        refine go_y (v := .int .i64 (g : Int)) (y_move) rfl ?_
        refine go_y (v := .int .i64 ((g : Int) + 1)) (y_add rfl rfl (by unfold in64; omega)) rfl ?_
        refine go_y (v := .int .i64 ((g : Int) + 1)) (y_assign) rfl ?_
        refine go_ops_nil ?_
        refine go_upto ⟨g + 1, v74, ?_, ⟨ie (by omega), rfl, trivial⟩, ⟨hx, hb5, hb10, hz49, (by rw [nearA_step ha57]; exact own76), hd79, hd80, (by omega), (by omega)⟩, (by omega)⟩
        repeat (refine Agree.upd rfl ?_)
        exact Agree.updL rfl (Agree.havoc rfl (Agree.refl _ _))
      · refine go_y (v := .bool false) (y_pick_t rfl) rfl ?_
        refine go_ops_nil ?_
        refine go_cond_false rfl ?_
        refine go_exit rfl ?_
        refine go_seq ?_
        refine go_region ?_
        refine go_y (v := vs) (y_move) rfl ?_
        refine go_y (v := .pointer (some ⟨b2, 18, none⟩)) (y_fieldAddr rfl ty_fl_25_18) rfl ?_
        obtain ⟨sa56, sc57, rfl⟩ := own_form own47
        refine go_store [.slice sa56 ((aw.take g).map (fun x => sm x 12)).length sc57] (#[u.nm, u.bus, u.mn, u.mx, u.segs, u.noload, u.rup, u.rdn, u.sramp, u.pramp, .int .i64 (sm u.up 4), .int .i64 (sm u.dn 4), .int .i64 (sm u.st 3), .int .i64 u.hc, .int .i64 u.cc, .int .i64 (sm u.hh 4), u.res, u.rpr, .slice sa56 ((aw.take g).map (fun x => sm x 12)).length sc57, .int .i64 (sm u.state 3), .int .i64 (1 + (sm u.hours 6)), u.out]) rfl rfl rfl ty_sz_23 rfl hb5 (by show _ ≤ _; exact Nat.le_of_ble_eq_true rfl) (by repeat (first | exact one_nil | refine one_cons (by first | rfl | assumption) ?_)) (by kernel_rfl) rfl ?_
        intro w58 hch59 hb5'
        replace hb10 := hb10.chg hch59 (Ne.symm hd11)
        replace hz49 := Nat.le_trans hz49 (Nat.le_of_eq hch59.2.2.2.1.symm)
        replace own47 := own47.chg hch59 hd50
        replace hx := hx.chg hch59 hn4
        replace hb5 := hb5'
        refine go_ops_nil ?_
        refine go_seq ?_
        refine go_region ?_
        refine go_y (v := .agg #[u.nm, u.bus, u.mn, u.mx, u.segs, u.noload, u.rup, u.rdn, u.sramp, u.pramp, .int .i64 (sm u.up 4), .int .i64 (sm u.dn 4), .int .i64 (sm u.st 3), .int .i64 u.hc, .int .i64 u.cc, .int .i64 (sm u.hh 4), u.res, u.rpr, .slice sa56 ((aw.take g).map (fun x => sm x 12)).length sc57, .int .i64 (sm u.state 3), .int .i64 (1 + (sm u.hours 6)), u.out]) (y_load_blk rfl hb5 ty_ag_25 rfl) rfl ?_
        refine go_store ((#[u.nm, u.bus, u.mn, u.mx, u.segs, u.noload, u.rup, u.rdn, u.sramp, u.pramp, .int .i64 (sm u.up 4), .int .i64 (sm u.dn 4), .int .i64 (sm u.st 3), .int .i64 u.hc, .int .i64 u.cc, .int .i64 (sm u.hh 4), u.res, u.rpr, .slice sa56 ((aw.take g).map (fun x => sm x 12)).length sc57, .int .i64 (sm u.state 3), .int .i64 (1 + (sm u.hours 6)), u.out]).toList) (#[u.nm, u.bus, u.mn, u.mx, u.segs, u.noload, u.rup, u.rdn, u.sramp, u.pramp, .int .i64 (sm u.up 4), .int .i64 (sm u.dn 4), .int .i64 (sm u.st 3), .int .i64 u.hc, .int .i64 u.cc, .int .i64 (sm u.hh 4), u.res, u.rpr, .slice sa56 ((aw.take g).map (fun x => sm x 12)).length sc57, .int .i64 (sm u.state 3), .int .i64 (1 + (sm u.hours 6)), u.out]) rfl rfl rfl ty_sz_25 rfl hb10 (by show _ ≤ _; exact Nat.le_of_ble_eq_true rfl) (by repeat (first | exact one_nil | refine one_cons (by first | rfl | assumption) ?_)) (by kernel_rfl) rfl ?_
        intro w60 hch61 hb10'
        replace hb5 := hb5.chg hch61 (hd11)
        replace hz49 := Nat.le_trans hz49 (Nat.le_of_eq hch61.2.2.2.1.symm)
        replace own47 := own47.chg hch61 hd51
        replace hx := hx.chg hch61 hn9
        replace hb10 := hb10'
        refine go_ops_nil ?_
        refine go_ret ?_
        exact ⟨_, (#[u.nm, u.bus, u.mn, u.mx, u.segs, u.noload, u.rup, u.rdn, u.sramp, u.pramp, .int .i64 (sm u.up 4), .int .i64 (sm u.dn 4), .int .i64 (sm u.st 3), .int .i64 u.hc, .int .i64 u.cc, .int .i64 (sm u.hh 4), u.res, u.rpr, .slice sa56 ((aw.take g).map (fun x => sm x 12)).length sc57, .int .i64 (sm u.state 3), .int .i64 (1 + (sm u.hours 6)), u.out]).toList, rfl, rfl, hb10.cellsAt, ⟨_, near_eq (u := u) (a := sm u.st 3) (b := sm u.state 3) (c := 1 + (sm u.hours 6)) (av := .slice sa56 ((aw.take g).map (fun x => sm x 12)).length sc57) (by unfold nst nstate; (repeat' split) <;> first | rfl | omega) rfl (by unfold nhours nst nstate; (repeat' split) <;> first | rfl | omega | (exfalso; omega)), by have e : nearA aw = (aw.take g).map (fun x => sm x 12) := (by unfold nearA; rw [take_eq (l := aw) (g := g) (by omega) (by omega)]); rw [e]; exact own47.slr (fun _ => rfl), own47.frs hbase48⟩, hx⟩
    · refine go_y (v := .bool false) (y_move) rfl ?_
      refine go_off (off_of (t := 49) (b' := false) rfl rfl rfl) ?_
      refine go_off (off_of (t := 49) (b' := false) rfl rfl rfl) ?_
      refine go_y (v := .bool false) (y_pick_f rfl) rfl ?_
      refine go_ops_nil ?_
      refine go_cond_false rfl ?_
      refine go_exit rfl ?_
      refine go_seq ?_
      refine go_region ?_
      refine go_y (v := vs) (y_move) rfl ?_
      refine go_y (v := .pointer (some ⟨b2, 18, none⟩)) (y_fieldAddr rfl ty_fl_25_18) rfl ?_
      obtain ⟨sa55, sc56, rfl⟩ := own_form own47
      refine go_store [.slice sa55 ((aw.take g).map (fun x => sm x 12)).length sc56] (#[u.nm, u.bus, u.mn, u.mx, u.segs, u.noload, u.rup, u.rdn, u.sramp, u.pramp, .int .i64 (sm u.up 4), .int .i64 (sm u.dn 4), .int .i64 (sm u.st 3), .int .i64 u.hc, .int .i64 u.cc, .int .i64 (sm u.hh 4), u.res, u.rpr, .slice sa55 ((aw.take g).map (fun x => sm x 12)).length sc56, .int .i64 (sm u.state 3), .int .i64 (1 + (sm u.hours 6)), u.out]) rfl rfl rfl ty_sz_23 rfl hb5 (by show _ ≤ _; exact Nat.le_of_ble_eq_true rfl) (by repeat (first | exact one_nil | refine one_cons (by first | rfl | assumption) ?_)) (by kernel_rfl) rfl ?_
      intro w57 hch58 hb5'
      replace hb10 := hb10.chg hch58 (Ne.symm hd11)
      replace hz49 := Nat.le_trans hz49 (Nat.le_of_eq hch58.2.2.2.1.symm)
      replace own47 := own47.chg hch58 hd50
      replace hx := hx.chg hch58 hn4
      replace hb5 := hb5'
      refine go_ops_nil ?_
      refine go_seq ?_
      refine go_region ?_
      refine go_y (v := .agg #[u.nm, u.bus, u.mn, u.mx, u.segs, u.noload, u.rup, u.rdn, u.sramp, u.pramp, .int .i64 (sm u.up 4), .int .i64 (sm u.dn 4), .int .i64 (sm u.st 3), .int .i64 u.hc, .int .i64 u.cc, .int .i64 (sm u.hh 4), u.res, u.rpr, .slice sa55 ((aw.take g).map (fun x => sm x 12)).length sc56, .int .i64 (sm u.state 3), .int .i64 (1 + (sm u.hours 6)), u.out]) (y_load_blk rfl hb5 ty_ag_25 rfl) rfl ?_
      refine go_store ((#[u.nm, u.bus, u.mn, u.mx, u.segs, u.noload, u.rup, u.rdn, u.sramp, u.pramp, .int .i64 (sm u.up 4), .int .i64 (sm u.dn 4), .int .i64 (sm u.st 3), .int .i64 u.hc, .int .i64 u.cc, .int .i64 (sm u.hh 4), u.res, u.rpr, .slice sa55 ((aw.take g).map (fun x => sm x 12)).length sc56, .int .i64 (sm u.state 3), .int .i64 (1 + (sm u.hours 6)), u.out]).toList) (#[u.nm, u.bus, u.mn, u.mx, u.segs, u.noload, u.rup, u.rdn, u.sramp, u.pramp, .int .i64 (sm u.up 4), .int .i64 (sm u.dn 4), .int .i64 (sm u.st 3), .int .i64 u.hc, .int .i64 u.cc, .int .i64 (sm u.hh 4), u.res, u.rpr, .slice sa55 ((aw.take g).map (fun x => sm x 12)).length sc56, .int .i64 (sm u.state 3), .int .i64 (1 + (sm u.hours 6)), u.out]) rfl rfl rfl ty_sz_25 rfl hb10 (by show _ ≤ _; exact Nat.le_of_ble_eq_true rfl) (by repeat (first | exact one_nil | refine one_cons (by first | rfl | assumption) ?_)) (by kernel_rfl) rfl ?_
      intro w59 hch60 hb10'
      replace hb5 := hb5.chg hch60 (hd11)
      replace hz49 := Nat.le_trans hz49 (Nat.le_of_eq hch60.2.2.2.1.symm)
      replace own47 := own47.chg hch60 hd51
      replace hx := hx.chg hch60 hn9
      replace hb10 := hb10'
      refine go_ops_nil ?_
      refine go_ret ?_
      exact ⟨_, (#[u.nm, u.bus, u.mn, u.mx, u.segs, u.noload, u.rup, u.rdn, u.sramp, u.pramp, .int .i64 (sm u.up 4), .int .i64 (sm u.dn 4), .int .i64 (sm u.st 3), .int .i64 u.hc, .int .i64 u.cc, .int .i64 (sm u.hh 4), u.res, u.rpr, .slice sa55 ((aw.take g).map (fun x => sm x 12)).length sc56, .int .i64 (sm u.state 3), .int .i64 (1 + (sm u.hours 6)), u.out]).toList, rfl, rfl, hb10.cellsAt, ⟨_, near_eq (u := u) (a := sm u.st 3) (b := sm u.state 3) (c := 1 + (sm u.hours 6)) (av := .slice sa55 ((aw.take g).map (fun x => sm x 12)).length sc56) (by unfold nst nstate; (repeat' split) <;> first | rfl | omega) rfl (by unfold nhours nst nstate; (repeat' split) <;> first | rfl | omega | (exfalso; omega)), by have e : nearA aw = (aw.take g).map (fun x => sm x 12) := (by unfold nearA; rw [take_eq (l := aw) (g := g) (by omega) (by omega)]); rw [e]; exact own47.slr (fun _ => rfl), own47.frs hbase48⟩, hx⟩

set_option maxHeartbeats 4000000 in
set_option maxRecDepth 100000 in
theorem example_ret (w : World) : Ret Try.prog 30 [] w (fun v w' => v = .agg exU.cells ∧ Ext w w') := by
  refine calls_of_go Try.func30 rfl (by show _ ≤ _; exact Nat.le_of_ble_eq_true rfl) (by kernel_rfl) _ (resC rfl ty_ag_25) ?_
  have hx : Ext w w := Ext.refl w
  refine go_seq ?_
  refine go_region ?_
  refine go_alloc (.agg #[.string ⟨#[]⟩, .int .i64 0, .int .i64 0, .int .i64 0, .slice none 0 0, .int .i64 0, .int .i64 0, .int .i64 0, .int .i64 0, .int .i64 0, .int .i64 0, .int .i64 0, .int .i64 0, .int .i64 0, .int .i64 0, .int .i64 0, .int .i64 0, .int .i64 0, .slice none 0 0, .int .i64 0, .int .i64 0, .int .i64 0]) (#[.string ⟨#[]⟩, .int .i64 0, .int .i64 0, .int .i64 0, .slice none 0 0, .int .i64 0, .int .i64 0, .int .i64 0, .int .i64 0, .int .i64 0, .int .i64 0, .int .i64 0, .int .i64 0, .int .i64 0, .int .i64 0, .int .i64 0, .int .i64 0, .int .i64 0, .slice none 0 0, .int .i64 0, .int .i64 0, .int .i64 0]) ty_ze_25 rfl rfl ?_
  intro w1 b2 hx3 hn4 hb5
  replace hn4 := Nat.le_trans hx.size hn4
  replace hx := hx.trans hx3
  refine go_ops_nil ?_
  refine go_seq ?_
  refine go_region ?_
  refine go_y (v := .agg #[.string ⟨#[]⟩, .int .i64 0, .int .i64 0, .int .i64 0, .slice none 0 0, .int .i64 0, .int .i64 0, .int .i64 0, .int .i64 0, .int .i64 0, .int .i64 2, .int .i64 1, .int .i64 1, .int .i64 5, .int .i64 9, .int .i64 2, .int .i64 0, .int .i64 0, .slice none 0 0, .int .i64 0, .int .i64 5, .int .i64 0]) (y_build (#[.string ⟨#[]⟩, .int .i64 0, .int .i64 0, .int .i64 0, .slice none 0 0, .int .i64 0, .int .i64 0, .int .i64 0, .int .i64 0, .int .i64 0, .int .i64 2, .int .i64 1, .int .i64 1, .int .i64 5, .int .i64 9, .int .i64 2, .int .i64 0, .int .i64 0, .slice none 0 0, .int .i64 0, .int .i64 5, .int .i64 0]) ty_ze_25 ty_pl_25 (by kernel_rfl)) rfl ?_
  refine go_store ((#[.string ⟨#[]⟩, .int .i64 0, .int .i64 0, .int .i64 0, .slice none 0 0, .int .i64 0, .int .i64 0, .int .i64 0, .int .i64 0, .int .i64 0, .int .i64 2, .int .i64 1, .int .i64 1, .int .i64 5, .int .i64 9, .int .i64 2, .int .i64 0, .int .i64 0, .slice none 0 0, .int .i64 0, .int .i64 5, .int .i64 0]).toList) (#[.string ⟨#[]⟩, .int .i64 0, .int .i64 0, .int .i64 0, .slice none 0 0, .int .i64 0, .int .i64 0, .int .i64 0, .int .i64 0, .int .i64 0, .int .i64 2, .int .i64 1, .int .i64 1, .int .i64 5, .int .i64 9, .int .i64 2, .int .i64 0, .int .i64 0, .slice none 0 0, .int .i64 0, .int .i64 5, .int .i64 0]) rfl rfl rfl ty_sz_25 rfl hb5 (by show _ ≤ _; exact Nat.le_of_ble_eq_true rfl) (by repeat (first | exact one_nil | refine one_cons (by first | rfl | assumption) ?_)) (by kernel_rfl) rfl ?_
  intro w6 hch7 hb5'
  replace hx := hx.chg hch7 hn4
  replace hb5 := hb5'
  refine go_ops_nil ?_
  refine go_ret ?_
  exact ⟨_, (#[.string ⟨#[]⟩, .int .i64 0, .int .i64 0, .int .i64 0, .slice none 0 0, .int .i64 0, .int .i64 0, .int .i64 0, .int .i64 0, .int .i64 0, .int .i64 2, .int .i64 1, .int .i64 1, .int .i64 5, .int .i64 9, .int .i64 2, .int .i64 0, .int .i64 0, .slice none 0 0, .int .i64 0, .int .i64 5, .int .i64 0]).toList, rfl, rfl, hb5.cellsAt, rfl, hx⟩
end Go.Proofs.Ytedfiemhfpcggaa
