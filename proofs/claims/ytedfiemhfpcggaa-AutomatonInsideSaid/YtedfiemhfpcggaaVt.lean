/- The types of the seat. -/
import Derived.Test.YtedfiemhfpcggaaRows
import Derived.Test.YtedfiemhfpcggaaVc20
namespace Go.Proofs.Ytedfiemhfpcggaa
open Go.Vc Go.Gw
abbrev tU : Ty := (.pair .str (.pair (.int .i64) (.pair (.int .i64) (.pair (.int .i64) (.pair (.sl (.pair (.int .i64) (.int .i64))) (.pair (.int .i64) (.pair (.int .i64) (.pair (.int .i64) (.pair (.int .i64) (.pair (.int .i64) (.pair (.int .i64) (.pair (.int .i64) (.pair (.int .i64) (.pair (.int .i64) (.pair (.int .i64) (.pair (.int .i64) (.pair (.int .i64) (.pair (.int .i64) (.pair (.sl (.int .i64)) (.pair (.int .i64) (.pair (.int .i64) (.int .i64))))))))))))))))))))))
abbrev tS : Ty := (.pair (.int .i64) (.int .i64))
def tys : List (Nat × TI) := [(3, { ty := (.int .i64), agg := false }),
  (23, { ty := (.sl (.int .i64)), agg := false, elem := 3, bytes := 8 }),
  (25, { ty := tU, agg := true, fields := [(0, 1, false), (1, 1, false), (2, 1, false), (3, 1, false), (4, 1, false), (5, 1, false), (6, 1, false), (7, 1, false), (8, 1, false), (9, 1, false), (10, 1, false), (11, 1, false), (12, 1, false), (13, 1, false), (14, 1, false), (15, 1, false), (16, 1, false), (17, 1, false), (18, 1, false), (19, 1, false), (20, 1, false), (21, 1, false)] }),
  (27, { ty := tS, agg := true, fields := [(0, 1, false), (1, 1, false)], eq := true }),
  (35, { ty := (.sl tS), agg := false, elem := 27, bytes := 16 }),
  (48, { ty := (.sl (.sl tS)), agg := false, elem := 35, bytes := 24 }),
  (50, { ty := (.int .u64), agg := false }),
  (53, { ty := (.pair (.int .i64) (.pair (.int .i64) tS)), agg := true, elem := 3, arr := 4 }),
  (59, { ty := (.mp false (.int .i64) false .bool), agg := false, elem := 4, key := 3 }),
  (65, { ty := (.mp true tS false .bool), agg := false, elem := 4, key := 27 })]
theorem tys_ok : tysOk Try.prog tys = true := by kernel_rfl
end Go.Proofs.Ytedfiemhfpcggaa
