/- Closed facts on the types and functions of the program, by the kernel. -/
import Derived.Test.YtedfiemhfpcggaaRows
import Derived.Test.YtedfiemhfpcggaaGwMap
namespace Go.Proofs.Ytedfiemhfpcggaa
open Go.Gw
theorem mixed : Try.prog.follows .mixedOrders = true := by kernel_rfl
theorem ty_ag_25 : aggT Try.prog 25 22 = true := by kernel_rfl
theorem ty_ag_27 : aggT Try.prog 27 2 = true := by kernel_rfl
theorem ty_e2_27 : eq2T Try.prog 27 = true := by kernel_rfl
theorem ty_en_10 : enters Try.prog 10 = true := by kernel_rfl
theorem ty_en_11 : enters Try.prog 11 = true := by kernel_rfl
theorem ty_en_12 : enters Try.prog 12 = true := by kernel_rfl
theorem ty_en_13 : enters Try.prog 13 = true := by kernel_rfl
theorem ty_en_14 : enters Try.prog 14 = true := by kernel_rfl
theorem ty_en_15 : enters Try.prog 15 = true := by kernel_rfl
theorem ty_en_16 : enters Try.prog 16 = true := by kernel_rfl
theorem ty_en_17 : enters Try.prog 17 = true := by kernel_rfl
theorem ty_en_18 : enters Try.prog 18 = true := by kernel_rfl
theorem ty_en_19 : enters Try.prog 19 = true := by kernel_rfl
theorem ty_en_20 : enters Try.prog 20 = true := by kernel_rfl
theorem ty_en_21 : enters Try.prog 21 = true := by kernel_rfl
theorem ty_en_22 : enters Try.prog 22 = true := by kernel_rfl
theorem ty_en_23 : enters Try.prog 23 = true := by kernel_rfl
theorem ty_en_24 : enters Try.prog 24 = true := by kernel_rfl
theorem ty_en_25 : enters Try.prog 25 = true := by kernel_rfl
theorem ty_en_26 : enters Try.prog 26 = true := by kernel_rfl
theorem ty_en_30 : enters Try.prog 30 = true := by kernel_rfl
theorem ty_en_31 : enters Try.prog 31 = true := by kernel_rfl
theorem ty_en_32 : enters Try.prog 32 = true := by kernel_rfl
theorem ty_en_33 : enters Try.prog 33 = true := by kernel_rfl
theorem ty_en_34 : enters Try.prog 34 = true := by kernel_rfl
theorem ty_en_35 : enters Try.prog 35 = true := by kernel_rfl
theorem ty_en_36 : enters Try.prog 36 = true := by kernel_rfl
theorem ty_en_37 : enters Try.prog 37 = true := by kernel_rfl
theorem ty_en_38 : enters Try.prog 38 = true := by kernel_rfl
theorem ty_en_41 : enters Try.prog 41 = true := by kernel_rfl
theorem ty_en_8 : enters Try.prog 8 = true := by kernel_rfl
theorem ty_en_9 : enters Try.prog 9 = true := by kernel_rfl
theorem ty_fl_25_10 : fieldT Try.prog 25 10 10 = true := by kernel_rfl
theorem ty_fl_25_11 : fieldT Try.prog 25 11 11 = true := by kernel_rfl
theorem ty_fl_25_12 : fieldT Try.prog 25 12 12 = true := by kernel_rfl
theorem ty_fl_25_13 : fieldT Try.prog 25 13 13 = true := by kernel_rfl
theorem ty_fl_25_14 : fieldT Try.prog 25 14 14 = true := by kernel_rfl
theorem ty_fl_25_15 : fieldT Try.prog 25 15 15 = true := by kernel_rfl
theorem ty_fl_25_18 : fieldT Try.prog 25 18 18 = true := by kernel_rfl
theorem ty_fl_25_19 : fieldT Try.prog 25 19 19 = true := by kernel_rfl
theorem ty_fl_25_20 : fieldT Try.prog 25 20 20 = true := by kernel_rfl
theorem ty_fl_27_0 : fieldT Try.prog 27 0 0 = true := by kernel_rfl
theorem ty_fl_27_1 : fieldT Try.prog 27 1 1 = true := by kernel_rfl
theorem ty_in_27 : infoT Try.prog 27 (.agg #[.int .i64 0, .int .i64 0]) 2 16 := infoT_mk (by kernel_rfl)
theorem ty_in_3 : infoT Try.prog 3 (.int .i64 0) 1 8 := infoT_mk (by kernel_rfl)
theorem ty_ki_3 : KeyOk Try.prog 3 iv := keyOk_int (by kernel_rfl)
theorem ty_mp_59 : mapT Try.prog 59 3 4 = true := by kernel_rfl
theorem ty_pl_25 : placesT Try.prog 25 = some [(0, 1), (1, 1), (2, 1), (3, 1), (4, 1), (5, 1), (6, 1), (7, 1), (8, 1), (9, 1), (10, 1), (11, 1), (12, 1), (13, 1), (14, 1), (15, 1), (16, 1), (17, 1), (18, 1), (19, 1), (20, 1), (21, 1)] := by kernel_rfl
theorem ty_pl_27 : placesT Try.prog 27 = some [(0, 1), (1, 1)] := by kernel_rfl
theorem ty_sc_23 : scalarT Try.prog 23 = true := by kernel_rfl
theorem ty_sc_3 : scalarT Try.prog 3 = true := by kernel_rfl
theorem ty_sl_23 : sliceT Try.prog 23 3 1 = true := by kernel_rfl
theorem ty_sl_35 : sliceT Try.prog 35 27 2 = true := by kernel_rfl
theorem ty_sz_23 : sizeT Try.prog 23 1 = true := by kernel_rfl
theorem ty_sz_25 : sizeT Try.prog 25 22 = true := by kernel_rfl
theorem ty_sz_27 : sizeT Try.prog 27 2 = true := by kernel_rfl
theorem ty_sz_3 : sizeT Try.prog 3 1 = true := by kernel_rfl
theorem ty_ua_53 : Try.prog.underlying 53 = some (.array 4 3) := by kernel_rfl
theorem ty_ub_4 : Try.prog.underlying 4 = some .bool := by kernel_rfl
theorem ty_us_23 : Try.prog.underlying 23 = some (.slice 3) := by kernel_rfl
theorem ty_us_35 : Try.prog.underlying 35 = some (.slice 27) := by kernel_rfl
theorem ty_ze_25 : zeroT Try.prog 25 = some (.agg #[.string ⟨#[]⟩, .int .i64 0, .int .i64 0, .int .i64 0, .slice none 0 0, .int .i64 0, .int .i64 0, .int .i64 0, .int .i64 0, .int .i64 0, .int .i64 0, .int .i64 0, .int .i64 0, .int .i64 0, .int .i64 0, .int .i64 0, .int .i64 0, .int .i64 0, .slice none 0 0, .int .i64 0, .int .i64 0, .int .i64 0]) := by kernel_rfl
theorem ty_ze_27 : zeroT Try.prog 27 = some (.agg #[.int .i64 0, .int .i64 0]) := by kernel_rfl
theorem ty_ze_3 : zeroT Try.prog 3 = some (.int .i64 0) := by kernel_rfl
theorem ty_ze_53 : zeroT Try.prog 53 = some (.agg #[.int .i64 0, .int .i64 0, .int .i64 0, .int .i64 0]) := by kernel_rfl
end Go.Proofs.Ytedfiemhfpcggaa
