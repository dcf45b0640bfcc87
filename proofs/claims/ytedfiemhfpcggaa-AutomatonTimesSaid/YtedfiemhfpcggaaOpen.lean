/- A unit among the arguments, opened; the statements. -/
import Derived.Test.YtedfiemhfpcggaaData5
import Derived.Test.YtedfiemhfpcggaaRows
import Derived.Test.YtedfiemhfpcggaaGwLaw
namespace Go.Proofs.Ytedfiemhfpcggaa
open Go.Gw Go.RowKit Go.ChangeShapes Go.WideShapes Go.ChangeAt
theorem laid : laidOutB Try.prog = true := by kernel_rfl
theorem own : ownKnob Try.prog.godebug = none := by kernel_rfl
theorem cells_u : Try.prog.cellsOf 25 = 22 := by kernel_rfl
theorem cells_s : Try.prog.cellsOf 27 = 2 := by kernel_rfl
theorem cells_1 : Try.prog.cellsOf 3 = 1 := by kernel_rfl
theorem cells_9 : Try.prog.cellsOf 9 = 1 := by kernel_rfl
theorem cells_22 : Try.prog.cellsOf 22 = 1 := by kernel_rfl
theorem cells_23 : Try.prog.cellsOf 23 = 1 := by kernel_rfl
theorem list22 {α : Type} {l : List α} (h : l.length = 22) : ∃ c0 c1 c2 c3 c4 c5 c6 c7 c8 c9 c10 c11 c12 c13 c14 c15 c16 c17 c18 c19 c20 c21, l = [c0, c1, c2, c3, c4, c5, c6, c7, c8, c9, c10, c11, c12, c13, c14, c15, c16, c17, c18, c19, c20, c21] := by
  match l, h with
  | [c0, c1, c2, c3, c4, c5, c6, c7, c8, c9, c10, c11, c12, c13, c14, c15, c16, c17, c18, c19, c20, c21], _ => exact ⟨_, _, _, _, _, _, _, _, _, _, _, _, _, _, _, _, _, _, _, _, _, _, rfl⟩
theorem list2 {α : Type} {l : List α} (h : l.length = 2) : ∃ a b, l = [a, b] := by
  match l, h with
  | [a, b], _ => exact ⟨_, _, rfl⟩
section
variable {H : Type} {enc : TypeId × Value → H}
theorem open_unit {W : World} {r : Reach} {b0 : Nat} {v : Value} {d : DataW H} {p : List MemPlace} (hv : Value.okWide Try.prog W r b0 25 v) (h : DataW.Trod enc Try.prog W 0 (fun _ => true) true 25 v d p) :
    ∃ (u : U) (aw : List Int), v = .agg u.cells ∧ u.ok ∧ SlR W 1 ic u.away aw ∧ aw.length ≤ 9223372036854775807 ∧ (∀ n ∈ aw, -9223372036854775808 ≤ n ∧ n ≤ 9223372036854775807) ∧
      (-9223372036854775808 ≤ u.hc ∧ u.hc ≤ 9223372036854775807) ∧ (-9223372036854775808 ≤ u.cc ∧ u.cc ≤ 9223372036854775807) := by
  obtain ⟨cs, rfl, hsz⟩ := okWide_struct Try.underlying25 hv
  rw [cells_u] at hsz
  obtain ⟨c0, c1, c2, c3, c4, c5, c6, c7, c8, c9, c10, c11, c12, c13, c14, c15, c16, c17, c18, c19, c20, c21, hcs⟩ := list22 (l := cs.toList) (by simpa using hsz)
  obtain ⟨fuel, hf⟩ := h
  have hcells : (Value.agg cs).cells.toList = [c0, c1, c2, c3, c4, c5, c6, c7, c8, c9, c10, c11, c12, c13, c14, c15, c16, c17, c18, c19, c20, c21] := hcs
  rw [hcells] at hf
  obtain ⟨xs, n, _, _, _, hxl, hx⟩ := DataW.trod_struct Try.underlying25 hf
  have hxl : xs.length = 22 := hxl
  have t0 := field_trod hx 0 9 0 1 _ [c0] (by kernel_rfl) cells_9 (List.getElem?_eq_getElem (by omega)) rfl
  obtain ⟨s0, e0, _, _⟩ := DataW.trod_string Try.underlying9 t0
  obtain rfl : c0 = .string s0 := by simpa using e0
  have t1 := field_trod hx 1 3 1 1 _ [c1] (by kernel_rfl) cells_1 (List.getElem?_eq_getElem (by omega)) rfl
  obtain ⟨n1, e1, _, w1⟩ := DataW.trod_int Try.underlying3 t1
  obtain rfl : c1 = .int .i64 n1 := by simpa using e1
  have t2 := field_trod hx 2 3 2 1 _ [c2] (by kernel_rfl) cells_1 (List.getElem?_eq_getElem (by omega)) rfl
  obtain ⟨n2, e2, _, w2⟩ := DataW.trod_int Try.underlying3 t2
  obtain rfl : c2 = .int .i64 n2 := by simpa using e2
  have t3 := field_trod hx 3 3 3 1 _ [c3] (by kernel_rfl) cells_1 (List.getElem?_eq_getElem (by omega)) rfl
  obtain ⟨n3, e3, _, w3⟩ := DataW.trod_int Try.underlying3 t3
  obtain rfl : c3 = .int .i64 n3 := by simpa using e3
  have t4 := field_trod hx 4 22 4 1 _ [c4] (by kernel_rfl) cells_22 (List.getElem?_eq_getElem (by omega)) rfl
  have o4 : c4.oneCell' = true := by
    rcases DataW.trod_slice Try.underlying22 t4 with ⟨e, _⟩ | ⟨a, len, cap, _, _, _, _, e, _⟩
    · obtain rfl : c4 = .slice none 0 0 := by simpa using e
      rfl
    · obtain rfl : c4 = .slice (some a) len cap := by simpa using e
      rfl
  have t5 := field_trod hx 5 3 5 1 _ [c5] (by kernel_rfl) cells_1 (List.getElem?_eq_getElem (by omega)) rfl
  obtain ⟨n5, e5, _, w5⟩ := DataW.trod_int Try.underlying3 t5
  obtain rfl : c5 = .int .i64 n5 := by simpa using e5
  have t6 := field_trod hx 6 3 6 1 _ [c6] (by kernel_rfl) cells_1 (List.getElem?_eq_getElem (by omega)) rfl
  obtain ⟨n6, e6, _, w6⟩ := DataW.trod_int Try.underlying3 t6
  obtain rfl : c6 = .int .i64 n6 := by simpa using e6
  have t7 := field_trod hx 7 3 7 1 _ [c7] (by kernel_rfl) cells_1 (List.getElem?_eq_getElem (by omega)) rfl
  obtain ⟨n7, e7, _, w7⟩ := DataW.trod_int Try.underlying3 t7
  obtain rfl : c7 = .int .i64 n7 := by simpa using e7
  have t8 := field_trod hx 8 3 8 1 _ [c8] (by kernel_rfl) cells_1 (List.getElem?_eq_getElem (by omega)) rfl
  obtain ⟨n8, e8, _, w8⟩ := DataW.trod_int Try.underlying3 t8
  obtain rfl : c8 = .int .i64 n8 := by simpa using e8
  have t9 := field_trod hx 9 3 9 1 _ [c9] (by kernel_rfl) cells_1 (List.getElem?_eq_getElem (by omega)) rfl
  obtain ⟨n9, e9, _, w9⟩ := DataW.trod_int Try.underlying3 t9
  obtain rfl : c9 = .int .i64 n9 := by simpa using e9
  have t10 := field_trod hx 10 3 10 1 _ [c10] (by kernel_rfl) cells_1 (List.getElem?_eq_getElem (by omega)) rfl
  obtain ⟨n10, e10, _, w10⟩ := DataW.trod_int Try.underlying3 t10
  obtain rfl : c10 = .int .i64 n10 := by simpa using e10
  have t11 := field_trod hx 11 3 11 1 _ [c11] (by kernel_rfl) cells_1 (List.getElem?_eq_getElem (by omega)) rfl
  obtain ⟨n11, e11, _, w11⟩ := DataW.trod_int Try.underlying3 t11
  obtain rfl : c11 = .int .i64 n11 := by simpa using e11
  have t12 := field_trod hx 12 3 12 1 _ [c12] (by kernel_rfl) cells_1 (List.getElem?_eq_getElem (by omega)) rfl
  obtain ⟨n12, e12, _, w12⟩ := DataW.trod_int Try.underlying3 t12
  obtain rfl : c12 = .int .i64 n12 := by simpa using e12
  have t13 := field_trod hx 13 3 13 1 _ [c13] (by kernel_rfl) cells_1 (List.getElem?_eq_getElem (by omega)) rfl
  obtain ⟨n13, e13, _, w13⟩ := DataW.trod_int Try.underlying3 t13
  obtain rfl : c13 = .int .i64 n13 := by simpa using e13
  have t14 := field_trod hx 14 3 14 1 _ [c14] (by kernel_rfl) cells_1 (List.getElem?_eq_getElem (by omega)) rfl
  obtain ⟨n14, e14, _, w14⟩ := DataW.trod_int Try.underlying3 t14
  obtain rfl : c14 = .int .i64 n14 := by simpa using e14
  have t15 := field_trod hx 15 3 15 1 _ [c15] (by kernel_rfl) cells_1 (List.getElem?_eq_getElem (by omega)) rfl
  obtain ⟨n15, e15, _, w15⟩ := DataW.trod_int Try.underlying3 t15
  obtain rfl : c15 = .int .i64 n15 := by simpa using e15
  have t16 := field_trod hx 16 3 16 1 _ [c16] (by kernel_rfl) cells_1 (List.getElem?_eq_getElem (by omega)) rfl
  obtain ⟨n16, e16, _, w16⟩ := DataW.trod_int Try.underlying3 t16
  obtain rfl : c16 = .int .i64 n16 := by simpa using e16
  have t17 := field_trod hx 17 3 17 1 _ [c17] (by kernel_rfl) cells_1 (List.getElem?_eq_getElem (by omega)) rfl
  obtain ⟨n17, e17, _, w17⟩ := DataW.trod_int Try.underlying3 t17
  obtain rfl : c17 = .int .i64 n17 := by simpa using e17
  have t18 := field_trod hx 18 23 18 1 _ [c18] (by kernel_rfl) cells_23 (List.getElem?_eq_getElem (by omega)) rfl
  obtain ⟨va, aw, ea, hsl, hal, hab⟩ := slr_ints Try.underlying23 Try.underlying3 cells_1 t18
  obtain rfl : c18 = va := by simpa using ea
  have t19 := field_trod hx 19 3 19 1 _ [c19] (by kernel_rfl) cells_1 (List.getElem?_eq_getElem (by omega)) rfl
  obtain ⟨n19, e19, _, w19⟩ := DataW.trod_int Try.underlying3 t19
  obtain rfl : c19 = .int .i64 n19 := by simpa using e19
  have t20 := field_trod hx 20 3 20 1 _ [c20] (by kernel_rfl) cells_1 (List.getElem?_eq_getElem (by omega)) rfl
  obtain ⟨n20, e20, _, w20⟩ := DataW.trod_int Try.underlying3 t20
  obtain rfl : c20 = .int .i64 n20 := by simpa using e20
  have t21 := field_trod hx 21 3 21 1 _ [c21] (by kernel_rfl) cells_1 (List.getElem?_eq_getElem (by omega)) rfl
  obtain ⟨n21, e21, _, w21⟩ := DataW.trod_int Try.underlying3 t21
  obtain rfl : c21 = .int .i64 n21 := by simpa using e21
  refine ⟨{ nm := .string s0, bus := .int .i64 n1, mn := .int .i64 n2, mx := .int .i64 n3, segs := c4, noload := .int .i64 n5, rup := .int .i64 n6, rdn := .int .i64 n7, sramp := .int .i64 n8, pramp := .int .i64 n9, up := n10, dn := n11, st := n12, hc := n13, cc := n14, hh := n15, res := .int .i64 n16, rpr := .int .i64 n17, away := c18, state := n19, hours := n20, out := .int .i64 n21 }, aw, ?_, ⟨rfl, rfl, rfl, rfl, o4, rfl, rfl, rfl, rfl, rfl, rfl, rfl, slr_one hsl, rfl⟩, hsl, hal, hab, wf_i64_bd w13, wf_i64_bd w14⟩
  congr 1
  apply Array.ext'
  rw [hcs]
  rfl
theorem open_slice {W : World} {r : Reach} {b0 : Nat} {v : Value} {d : DataW H} {p : List MemPlace} (hv : Value.okWide Try.prog W r b0 23 v) (h : DataW.Trod enc Try.prog W 0 (fun _ => true) true 23 v d p) :
    ∃ l : List Int, SlR W 1 ic v l ∧ l.length ≤ 9223372036854775807 ∧ ∀ n ∈ l, -9223372036854775808 ≤ n ∧ n ≤ 9223372036854775807 := by
  obtain ⟨a, len, cap, rfl⟩ := okWide_slice Try.underlying23 hv
  obtain ⟨fuel, hf⟩ := h
  obtain ⟨va, l, ea, hsl, hal, hab⟩ := slr_ints Try.underlying23 Try.underlying3 cells_1 hf
  have he : [Value.slice a len cap] = [va] := ea
  obtain rfl : Value.slice a len cap = va := by simpa using he
  exact ⟨l, hsl, hal, hab⟩
theorem open_state {W : World} {r : Reach} {b0 : Nat} {v : Value} {d : DataW H} {p : List MemPlace} (hv : Value.okWide Try.prog W r b0 27 v) (h : DataW.Trod enc Try.prog W 0 (fun _ => true) true 27 v d p) :
    ∃ k h : Int, v = .agg #[.int .i64 k, .int .i64 h] ∧ -9223372036854775808 ≤ k ∧ k ≤ 9223372036854775807 ∧ -9223372036854775808 ≤ h ∧ h ≤ 9223372036854775807 := by
  obtain ⟨cs, rfl, hsz⟩ := okWide_struct Try.underlying27 hv
  rw [cells_s] at hsz
  obtain ⟨c0, c1, hcs⟩ := list2 (l := cs.toList) (by simpa using hsz)
  obtain ⟨fuel, hf⟩ := h
  have hcells : (Value.agg cs).cells.toList = [c0, c1] := hcs
  rw [hcells] at hf
  obtain ⟨xs, n, _, _, _, hxl, hx⟩ := DataW.trod_struct Try.underlying27 hf
  have hxl : xs.length = 2 := hxl
  have t0 := field_trod hx 0 3 0 1 _ [c0] (by kernel_rfl) cells_1 (List.getElem?_eq_getElem (by omega)) rfl
  obtain ⟨n0, e0, _, w0⟩ := DataW.trod_int Try.underlying3 t0
  obtain rfl : c0 = .int .i64 n0 := by simpa using e0
  have t1 := field_trod hx 1 3 1 1 _ [c1] (by kernel_rfl) cells_1 (List.getElem?_eq_getElem (by omega)) rfl
  obtain ⟨n1, e1, _, w1⟩ := DataW.trod_int Try.underlying3 t1
  obtain rfl : c1 = .int .i64 n1 := by simpa using e1
  have b0 := wf_i64_bd w0
  have b1 := wf_i64_bd w1
  refine ⟨n0, n1, ?_, b0.1, b0.2, b1.1, b1.2⟩
  congr 1
  apply Array.ext'
  rw [hcs]
end
end Go.Proofs.Ytedfiemhfpcggaa
