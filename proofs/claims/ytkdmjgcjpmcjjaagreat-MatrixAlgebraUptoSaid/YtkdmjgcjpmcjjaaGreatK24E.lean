/- Part. -/
import Derived.Test.YtkdmjgcjpmcjjaaGreatRows
import Derived.Test.YtkdmjgcjpmcjjaaGreatK24D
namespace Go.Proofs.YtkdmjgcjpmcjjaaGreat
open Go.Vc Go.Gw
abbrev G2 (a : Int) : Prop := IntKind.i64.min <= a /\ a <= IntKind.i64.max
abbrev K9 (a : Int) : Prop := IntKind.u64.min <= a /\ a <= IntKind.u64.max
abbrev WfU (l : List Int) : Prop := List.length l <= (9223372036854775807 : Nat) /\ ∀ (x : Int), x ∈ l -> IntKind.u32.min <= x /\ x <= IntKind.u32.max
abbrev WfI (l : List Int) : Prop := List.length l <= (9223372036854775807 : Nat) /\ ∀ (x : Int), x ∈ l -> IntKind.i64.min <= x /\ x <= IntKind.i64.max
abbrev WfZ (z : Bool × List Int) : Prop := True /\ WfU z.2
abbrev WfQ (q : (Bool × List Int) × List Int) : Prop := WfZ q.1 /\ WfU q.2
abbrev WfE (e : Int × (Bool × List Int) × List Int) : Prop := G2 e.1 /\ WfZ e.2.1 /\ WfU e.2.2
abbrev B8j (l : List (Int × (Bool × List Int) × List Int)) : Prop := List.length l <= (9223372036854775807 : Nat) /\ ∀ (x : Int × (Bool × List Int) × List Int), x ∈ l -> WfE x
abbrev QQ := (Bool × List Int) × List Int
abbrev EE := Int × (Bool × List Int) × List Int
abbrev dQ : QQ := ((false, []), [])
abbrev dEE : EE := ((0 : Int), (false, []), [])
abbrev MM := Int × Int × List (List EE)
abbrev WfL (l : List QQ) : Prop := List.length l <= 9223372036854775807 /\ ∀ (x : QQ), x ∈ l -> WfQ x
abbrev G4a (l : List (List QQ)) : Prop := List.length l <= 9223372036854775807 /\ ∀ (x : List QQ), x ∈ l -> x.length <= 9223372036854775807 /\ ∀ (y : QQ), y ∈ x -> WfQ y
abbrev F4z (l : List (List EE)) : Prop := List.length l <= 9223372036854775807 /\ ∀ (x : List EE), x ∈ l -> x.length <= 9223372036854775807 /\ ∀ (y : EE), y ∈ x -> WfE y
abbrev WfM (m : MM) : Prop := G2 m.1 /\ G2 m.2.1 /\ F4z m.2.2
abbrev tQ : Ty := (.pair (.pair .bool (.sl (.int .u32))) (.sl (.int .u32)))
abbrev tE : Ty := (.pair (.int .i64) tQ)
abbrev tM : Ty := (.pair (.int .i64) (.pair (.int .i64) (.sl (.sl tE))))
def tys : List (Nat × TI) := [(2, { ty := (.int .i64), agg := false }),
  (3, { ty := (.int .i64), agg := false }),
  (4, { ty := .bool, agg := false }),
  (5, { ty := (.int .u8), agg := false }),
  (9, { ty := .str, agg := false }),
  (22, { ty := (.sl (.sl tE)), agg := false, elem := 92, bytes := 24 }),
  (24, { ty := tM, agg := true, fields := [(0, 1, false), (1, 1, false), (2, 1, false)] }),
  (25, { ty := (.sl (.int .i64)), agg := false, elem := 3, bytes := 8 }),
  (27, { ty := (.sl (.int .u32)), agg := false, elem := 153, bytes := 4 }),
  (29, { ty := (.pair .bool (.sl (.int .u32))), agg := true, fields := [(0, 1, false), (1, 1, false)] }),
  (31, { ty := tQ, agg := true, fields := [(0, 2, true), (2, 1, false)] }),
  (53, { ty := (.pair (.sl (.int .i64)) (.pair (.sl (.int .i64)) (.pair tM tM))), agg := true, fields := [(0, 1, false), (1, 1, false), (2, 3, true), (5, 3, true)] }),
  (56, { ty := (.sl tQ), agg := false, elem := 31, bytes := 56 }),
  (66, { ty := (.sl tM), agg := false, elem := 24, bytes := 40 }),
  (83, { ty := (.sl (.sl tQ)), agg := false, elem := 56, bytes := 24 }),
  (92, { ty := (.sl tE), agg := false, elem := 94, bytes := 64 }),
  (94, { ty := tE, agg := true, fields := [(0, 1, false), (1, 3, true)] }),
  (103, { ty := (.pair (.sl (.int .i64)) (.int .i64)), agg := true, fields := [(0, 1, false), (1, 1, false)] }),
  (110, { ty := (.mp false (.int .i64) false (.sl tE)), agg := false, elem := 92, key := 3 }),
  (114, { ty := (.ptr (.pair (.sl (.sl tE)) (.pair (.sl (.sl tE)) (.pair (.sl (.mp false (.int .i64) false .bool)) (.sl (.int .i64)))))), agg := false }),
  (119, { ty := (.sl (.mp false (.int .i64) false .bool)), agg := false, elem := 168, bytes := 8 }),
  (121, { ty := (.pair (.sl (.sl tE)) (.pair (.sl (.sl tE)) (.pair (.sl (.mp false (.int .i64) false .bool)) (.sl (.int .i64))))), agg := true, fields := [(0, 1, false), (1, 1, false), (2, 1, false), (3, 1, false)] }),
  (140, { ty := (.mp false (.int .i64) false (.sl (.int .i64))), agg := false, elem := 25, key := 3 }),
  (144, { ty := (.int .u64), agg := false }),
  (153, { ty := (.int .u32), agg := false }),
  (161, { ty := (.sl .bool), agg := false, elem := 4, bytes := 1 }),
  (164, { ty := (.sl (.sl (.int .i64))), agg := false, elem := 25, bytes := 24 }),
  (168, { ty := (.mp false (.int .i64) false .bool), agg := false, elem := 4, key := 3 }),
  (176, { ty := (.int .u64), agg := false }),
  (179, { ty := (.mp false (.int .i64) true tQ), agg := false, elem := 31, key := 3 }),
  (207, { ty := (.pair (.int .u64) (.pair (.int .u64) (.pair (.int .u64) (.pair (.int .u64) .bool)))), agg := true, fields := [(0, 1, false), (1, 1, false), (2, 1, false), (3, 1, false), (4, 1, false)] }),
  (217, { ty := (.int .u64), agg := false })]
theorem A8 : R2 Tryz.prog tys = true := by kernel_rfl
def F8e : List (Nat × TI) := [(2, { ty := (.int .i64), agg := false }),
  (3, { ty := (.int .i64), agg := false }),
  (4, { ty := .bool, agg := false }),
  (5, { ty := (.int .u8), agg := false }),
  (9, { ty := .str, agg := false }),
  (22, { ty := (.sl (.sl tE)), agg := false, elem := 92, bytes := 24, rows := true }),
  (24, { ty := tM, agg := true, fields := [(0, 1, false), (1, 1, false), (2, 1, false)] }),
  (25, { ty := (.sl (.int .i64)), agg := false, elem := 3, bytes := 8 }),
  (27, { ty := (.sl (.int .u32)), agg := false, elem := 153, bytes := 4 }),
  (29, { ty := (.pair .bool (.sl (.int .u32))), agg := true, fields := [(0, 1, false), (1, 1, false)] }),
  (31, { ty := tQ, agg := true, fields := [(0, 2, true), (2, 1, false)] }),
  (53, { ty := (.pair (.sl (.int .i64)) (.pair (.sl (.int .i64)) (.pair tM tM))), agg := true, fields := [(0, 1, false), (1, 1, false), (2, 3, true), (5, 3, true)] }),
  (56, { ty := (.sl tQ), agg := false, elem := 31, bytes := 56 }),
  (66, { ty := (.sl tM), agg := false, elem := 24, bytes := 40 }),
  (83, { ty := (.sl (.sl tQ)), agg := false, elem := 56, bytes := 24, rows := true }),
  (92, { ty := (.sl tE), agg := false, elem := 94, bytes := 64 }),
  (94, { ty := tE, agg := true, fields := [(0, 1, false), (1, 3, true)] }),
  (103, { ty := (.pair (.sl (.int .i64)) (.int .i64)), agg := true, fields := [(0, 1, false), (1, 1, false)] }),
  (110, { ty := (.mp false (.int .i64) false (.sl tE)), agg := false, elem := 92, key := 3 }),
  (114, { ty := (.ptr (.pair (.sl (.sl tE)) (.pair (.sl (.sl tE)) (.pair (.sl (.mp false (.int .i64) false .bool)) (.sl (.int .i64)))))), agg := false }),
  (119, { ty := (.sl (.mp false (.int .i64) false .bool)), agg := false, elem := 168, bytes := 8 }),
  (121, { ty := (.pair (.sl (.sl tE)) (.pair (.sl (.sl tE)) (.pair (.sl (.mp false (.int .i64) false .bool)) (.sl (.int .i64))))), agg := true, fields := [(0, 1, false), (1, 1, false), (2, 1, false), (3, 1, false)] }),
  (140, { ty := (.mp false (.int .i64) false (.sl (.int .i64))), agg := false, elem := 25, key := 3, rows := true }),
  (144, { ty := (.int .u64), agg := false }),
  (153, { ty := (.int .u32), agg := false }),
  (161, { ty := (.sl .bool), agg := false, elem := 4, bytes := 1 }),
  (164, { ty := (.sl (.sl (.int .i64))), agg := false, elem := 25, bytes := 24 }),
  (168, { ty := (.mp false (.int .i64) false .bool), agg := false, elem := 4, key := 3 }),
  (176, { ty := (.int .u64), agg := false }),
  (179, { ty := (.mp false (.int .i64) true tQ), agg := false, elem := 31, key := 3 }),
  (207, { ty := (.pair (.int .u64) (.pair (.int .u64) (.pair (.int .u64) (.pair (.int .u64) .bool)))), agg := true, fields := [(0, 1, false), (1, 1, false), (2, 1, false), (3, 1, false), (4, 1, false)] }),
  (217, { ty := (.int .u64), agg := false })]
theorem D7d : R2 Tryz.prog F8e = true := by kernel_rfl
def T5 : B9 := { args := [.val true tQ, .val true tQ], res := [.val false .bool], shared := false, pre := fun (x : QQ × QQ × Unit) => True, post := fun (x : QQ × QQ × Unit) (r : Bool × Unit) => r.1 = decide (x.1 = x.2.1) }
def A0d : B9 := { args := [.val true tQ], res := [.val false (.int .i64)], shared := false, pre := fun (x : QQ × Unit) => sh3 x.1, post := fun (x : QQ × Unit) (r : Int × Unit) => r.1 = (rv x.1).num.sign }
def A3a : B9 := { args := [.val true tQ, .val true tQ], res := [.val true tQ], shared := true, pre := fun (x : QQ × QQ × Unit) => sh3 x.1 /\ sh3 x.2.1, post := fun (x : QQ × QQ × Unit) (r : QQ × Unit) => r.1 = rc (rv x.1 + rv x.2.1) }
def Q0 : B9 := { args := [.val false (.int .i64)], res := [.val true tQ], shared := true, pre := fun (x : Int × Unit) => True, post := fun (x : Int × Unit) (r : QQ × Unit) => r.1 = ri x.1 }
def G5 : B9 := { args := [.val false (.int .i64)], res := [.val true tQ], shared := true, pre := fun (x : Int × Unit) => True, post := fun (x : Int × Unit) (r : QQ × Unit) => r.1 = ri x.1 }
def J1 : B9 := { args := [.val true tQ, .val true tQ], res := [.val true tQ], shared := true, pre := fun (x : QQ × QQ × Unit) => sh3 x.1 /\ sh3 x.2.1, post := fun (x : QQ × QQ × Unit) (r : QQ × Unit) => r.1 = rc (rv x.1 * rv x.2.1) }
def O0 : B9 := { args := [.val true tQ], res := [.val true tQ], shared := true, pre := fun (x : QQ × Unit) => sh3 x.1, post := fun (x : QQ × Unit) (r : QQ × Unit) => r.1 = rc (-(rv x.1)) }
def T8 : B9 := { args := [], res := [.val true tQ], shared := true, pre := fun (x : Unit) => True, post := fun (x : Unit) (r : QQ × Unit) => r.1 = rc 0 }
def V4 : B9 := { args := [.val true (.pair .bool (.sl (.int .u32))), .val true (.pair .bool (.sl (.int .u32)))], res := [.val false .bool], shared := false, pre := fun (x : (Bool × (List Int)) × (Bool × (List Int)) × Unit) => True, post := fun (x : (Bool × (List Int)) × (Bool × (List Int)) × Unit) (r : Bool × Unit) => r.1 = decide (x.1 = x.2.1) }
def Q4 : B9 := { args := [.val false (.sl (.int .u32)), .val false (.sl (.int .u32))], res := [.val false .bool], shared := false, pre := fun (x : (List Int) × (List Int) × Unit) => True, post := fun (x : (List Int) × (List Int) × Unit) (r : Bool × Unit) => r.1 = decide (x.1 = x.2.1) }
def Q9 : B9 := { args := [.val true (.pair .bool (.sl (.int .u32))), .val true (.pair .bool (.sl (.int .u32)))], res := [.val true tQ], shared := true, pre := fun (x : (Bool × (List Int)) × (Bool × (List Int)) × Unit) => sh2 x.1.2 /\ sh2 x.2.1.2, post := fun (x : (Bool × (List Int)) × (Bool × (List Int)) × Unit) (r : QQ × Unit) => r.1 = rc (C1c x.1 x.2.1) }
def A2z : B9 := { args := [.val true (.pair .bool (.sl (.int .u32))), .val true (.pair .bool (.sl (.int .u32)))], res := [.val true (.pair .bool (.sl (.int .u32)))], shared := true, pre := fun (x : (Bool × (List Int)) × (Bool × (List Int)) × Unit) => sh1 x.1.2 /\ sh1 x.2.1.2, post := fun (x : (Bool × (List Int)) × (Bool × (List Int)) × Unit) (r : (Bool × (List Int)) × Unit) => r.1 = ic (iv x.1 * iv x.2.1) }
def R4 : B9 := { args := [.val true tQ], res := [.val true tQ], shared := true, pre := fun (x : QQ × Unit) => sh3 x.1, post := fun (x : QQ × Unit) (r : QQ × Unit) => r.1 = rc (rv x.1) }
def A2o : B9 := { args := [.val true tQ], res := [.val true (.pair .bool (.sl (.int .u32)))], shared := true, pre := fun (x : QQ × Unit) => sh3 x.1, post := fun (x : QQ × Unit) (r : (Bool × (List Int)) × Unit) => r.1 = ic ((rv x.1).den : Int) }
def W4 : B9 := { args := [.val true (.pair .bool (.sl (.int .u32)))], res := [.val false (.int .i64)], shared := false, pre := fun (x : (Bool × (List Int)) × Unit) => sh0 x.1.2, post := fun (x : (Bool × (List Int)) × Unit) (r : Int × Unit) => r.1 = (iv x.1).sign }
def X8 : B9 := { args := [.val true (.pair .bool (.sl (.int .u32))), .val true (.pair .bool (.sl (.int .u32)))], res := [.val true (.pair .bool (.sl (.int .u32)))], shared := true, pre := fun (x : (Bool × (List Int)) × (Bool × (List Int)) × Unit) => sh1 x.1.2 /\ sh1 x.2.1.2, post := fun (x : (Bool × (List Int)) × (Bool × (List Int)) × Unit) (r : (Bool × (List Int)) × Unit) => r.1 = ic (iv x.1 + iv x.2.1) }
def L5 : B9 := { args := [.val true tQ], res := [.val false .bool], shared := false, pre := fun (x : QQ × Unit) => sh3 x.1, post := fun (x : QQ × Unit) (r : Bool × Unit) => r.1 = decide (x.1 = rc (rv x.1)) }
def E1 : B9 := { args := [.val true tQ], res := [.val true tQ], shared := true, pre := fun (x : QQ × Unit) => sh3 x.1, post := fun (x : QQ × Unit) (r : QQ × Unit) => r.1 = rc (rv x.1) }
def I8 : B9 := { args := [.val false (.int .i64), .val false (.int .i64)], res := [.val false (.int .i64)], shared := false, pre := fun (x : Int × Int × Unit) => True, post := fun (x : Int × Int × Unit) (r : Int × Unit) => r.1 = C7b x.1 x.2.1 }
def N6 : B9 := { args := [.val true tQ], res := [.val true tQ, .val false .bool], shared := true, pre := fun (x : QQ × Unit) => sh3 x.1, post := fun (x : QQ × Unit) (r : QQ × Bool × Unit) => (rv x.1 = 0 -> r.2.1 = false) /\ (rv x.1 ≠ 0 -> r.1 = rc (rv x.1)⁻¹ /\ r.2.1 = true) }
def H4 : B9 := { args := [.val true tQ, .val true tQ], res := [.val true tQ], shared := true, pre := fun (x : QQ × QQ × Unit) => sh3 x.1 /\ sh3 x.2.1, post := fun (x : QQ × QQ × Unit) (r : QQ × Unit) => r.1 = rc (rv x.1 + rv x.2.1) }
def L3 : B9 := { args := [.val false (.int .i64)], res := [.val true (.pair .bool (.sl (.int .u32)))], shared := true, pre := fun (x : Int × Unit) => True, post := fun (x : Int × Unit) (r : (Bool × (List Int)) × Unit) => r.1 = ic x.1 }
def I0 : B9 := { args := [.val false (.int .i64)], res := [.val true (.pair .bool (.sl (.int .u32)))], shared := true, pre := fun (x : Int × Unit) => True, post := fun (x : Int × Unit) (r : (Bool × (List Int)) × Unit) => r.1 = ic x.1 }
def F8 : B9 := { args := [.val true tQ], res := [.val false (.int .i64), .val false (.int .i64), .val false .bool], shared := false, pre := fun (x : QQ × Unit) => True, post := fun (x : QQ × Unit) (r : Int × Int × Bool × Unit) => (O4 x.1 -> r.1 = D8p x.1 /\ r.2.1 = D3y x.1 /\ r.2.2.1 = true) /\ (¬ O4 x.1 -> r.2.2.1 = false) }
def D6 : B9 := { args := [.val false (.int .i64), .val false (.int .i64)], res := [.val true tQ], shared := true, pre := fun (x : Int × Int × Unit) => 0 < x.2.1, post := fun (x : Int × Int × Unit) (r : QQ × Unit) => r.1 = rc (mkRat x.1 x.2.1.toNat) }
def E5 : B9 := { args := [.val true tQ], res := [.val true (.pair .bool (.sl (.int .u32))), .val false (.sl (.int .u32))], shared := true, pre := fun (x : QQ × Unit) => True, post := fun (x : QQ × Unit) (r : (Bool × (List Int)) × (List Int) × Unit) => (nv x.1.2 = 0 -> r.1 = zi /\ r.2.1 = [1]) /\ (nv x.1.2 ≠ 0 -> r.1 = x.1.1 /\ r.2.1 = x.1.2) }
def E7 : B9 := { args := [.val true (.pair .bool (.sl (.int .u32))), .val false (.sl (.int .u32))], res := [.val true tQ], shared := true, pre := fun (x : (Bool × (List Int)) × (List Int) × Unit) => nv x.2.1 ≠ 0 /\ sh2 x.1.2 /\ sh2 x.2.1, post := fun (x : (Bool × (List Int)) × (List Int) × Unit) (r : QQ × Unit) => r.1 = rc (mkRat (iv x.1) (nv x.2.1)) }
def N4 : B9 := { args := [.val true (.pair .bool (.sl (.int .u32))), .val true (.pair .bool (.sl (.int .u32)))], res := [.val true (.pair .bool (.sl (.int .u32)))], shared := true, pre := fun (x : (Bool × (List Int)) × (Bool × (List Int)) × Unit) => sh1 x.1.2 /\ sh1 x.2.1.2, post := fun (x : (Bool × (List Int)) × (Bool × (List Int)) × Unit) (r : (Bool × (List Int)) × Unit) => r.1 = ic (iv x.1 * iv x.2.1) }
def J3 : B9 := { args := [.val false (.sl (.int .u32)), .val false (.sl (.int .u32))], res := [.val false (.sl (.int .u32))], shared := true, pre := fun (x : (List Int) × (List Int) × Unit) => sh1 x.1 /\ sh1 x.2.1, post := fun (x : (List Int) × (List Int) × Unit) (r : (List Int) × Unit) => r.1 = nc (nv x.1 * nv x.2.1) }
def P7 : B9 := { args := [.val true (.pair .bool (.sl (.int .u32)))], res := [.val true (.pair .bool (.sl (.int .u32)))], shared := true, pre := fun (x : (Bool × (List Int)) × Unit) => sh0 x.1.2, post := fun (x : (Bool × (List Int)) × Unit) (r : (Bool × (List Int)) × Unit) => r.1 = ic (- iv x.1) }
def A5j : B9 := { args := [.val false (.int .i64), .val false (.int .i64)], res := [.val true tQ], shared := true, pre := fun (x : Int × Int × Unit) => True, post := fun (x : Int × Int × Unit) (r : QQ × Unit) => r.1 = rc (Rat.divInt x.1 x.2.1) }
def W8 : B9 := { args := [.val true (.pair .bool (.sl (.int .u32)))], res := [.val true (.pair .bool (.sl (.int .u32)))], shared := true, pre := fun (x : (Bool × (List Int)) × Unit) => sh0 x.1.2, post := fun (x : (Bool × (List Int)) × Unit) (r : (Bool × (List Int)) × Unit) => r.1 = ic (iv x.1) }
def A2m : B9 := { args := [.val true (.pair .bool (.sl (.int .u32))), .val true (.pair .bool (.sl (.int .u32)))], res := [.val true (.pair .bool (.sl (.int .u32)))], shared := true, pre := fun (x : (Bool × (List Int)) × (Bool × (List Int)) × Unit) => sh2 x.1.2 /\ sh2 x.2.1.2, post := fun (x : (Bool × (List Int)) × (Bool × (List Int)) × Unit) (r : (Bool × (List Int)) × Unit) => r.1 = ic (Nat.gcd (nv x.1.2) (nv x.2.1.2) : Int) }
def S9 : B9 := { args := [.val true (.pair .bool (.sl (.int .u32))), .val true (.pair .bool (.sl (.int .u32)))], res := [.val true (.pair .bool (.sl (.int .u32))), .val true (.pair .bool (.sl (.int .u32))), .val false .bool], shared := true, pre := fun (x : (Bool × (List Int)) × (Bool × (List Int)) × Unit) => sh2 x.1.2 /\ sh2 x.2.1.2, post := fun (x : (Bool × (List Int)) × (Bool × (List Int)) × Unit) (r : (Bool × (List Int)) × (Bool × (List Int)) × Bool × Unit) => iv x.2.1 ≠ 0 -> r.1 = ic (iv x.1 / iv x.2.1) /\ r.2.1 = ic (iv x.1 % iv x.2.1) /\ r.2.2.1 = true }
def A1f : B9 := { args := [.val true (.pair .bool (.sl (.int .u32)))], res := [.val true (.pair .bool (.sl (.int .u32)))], shared := true, pre := fun (x : (Bool × (List Int)) × Unit) => sh0 x.1.2, post := fun (x : (Bool × (List Int)) × Unit) (r : (Bool × (List Int)) × Unit) => r.1 = ic (- iv x.1) }
def K6 : B9 := { args := [.val false .bool, .val false (.sl (.int .u32))], res := [.val true (.pair .bool (.sl (.int .u32)))], shared := true, pre := fun (x : Bool × (List Int) × Unit) => sh0 x.2.1, post := fun (x : Bool × (List Int) × Unit) (r : (Bool × (List Int)) × Unit) => r.1 = ic (iv (x.1, x.2.1)) }
def A2n : B9 := { args := [.val false (.sl (.int .u32)), .val false (.sl (.int .u32))], res := [.val false (.sl (.int .u32))], shared := true, pre := fun (x : (List Int) × (List Int) × Unit) => sh1 x.1 /\ sh1 x.2.1, post := fun (x : (List Int) × (List Int) × Unit) (r : (List Int) × Unit) => r.1 = nc (nv x.1 * nv x.2.1) }
def A1c : B9 := { args := [.val false (.sl (.int .u32)), .val false (.sl (.int .u32))], res := [.val false (.sl (.int .u32))], shared := true, pre := fun (x : (List Int) × (List Int) × Unit) => sh1 x.1 /\ sh1 x.2.1, post := fun (x : (List Int) × (List Int) × Unit) (r : (List Int) × Unit) => r.1 = nc (nv x.1 + nv x.2.1) }
def A0v : B9 := { args := [.val false (.sl (.int .u32)), .val false (.sl (.int .u32))], res := [.val false (.sl (.int .u32)), .val false .bool], shared := true, pre := fun (x : (List Int) × (List Int) × Unit) => sh1 x.1 /\ sh1 x.2.1, post := fun (x : (List Int) × (List Int) × Unit) (r : (List Int) × Bool × Unit) => (nv x.1 < nv x.2.1 -> r.1 = [] /\ r.2.1 = false) /\ (nv x.2.1 <= nv x.1 -> r.1 = nc (nv x.1 - nv x.2.1) /\ r.2.1 = true) }
def E2 : B9 := { args := [.val true tQ], res := [.val false (.int .i64)], shared := false, pre := fun (x : QQ × Unit) => True, post := fun (x : QQ × Unit) (r : Int × Unit) => r.1 = (rv x.1).num.sign }
def L6 : B9 := { args := [.val false (.int .i64)], res := [.val false .bool], shared := false, pre := fun (x : Int × Unit) => True, post := fun (x : Int × Unit) (r : Bool × Unit) => r.1 = false }
def C8 : B9 := { args := [.val false (.sl (.int .u32)), .val false (.sl (.int .u32))], res := [.val false (.int .i64)], shared := false, pre := fun (x : (List Int) × (List Int) × Unit) => True, post := fun (x : (List Int) × (List Int) × Unit) (r : Int × Unit) => r.1 = B7b (nv x.1) (nv x.2.1) }
def P8 : B9 := { args := [.val true (.pair .bool (.sl (.int .u32))), .val true (.pair .bool (.sl (.int .u32)))], res := [.val true (.pair .bool (.sl (.int .u32)))], shared := true, pre := fun (x : (Bool × (List Int)) × (Bool × (List Int)) × Unit) => sh1 x.1.2 /\ sh1 x.2.1.2, post := fun (x : (Bool × (List Int)) × (Bool × (List Int)) × Unit) (r : (Bool × (List Int)) × Unit) => r.1 = ic (iv x.1 + iv x.2.1) }
def H7 : B9 := { args := [.val false (.int .u64)], res := [.val false (.sl (.int .u32))], shared := true, pre := fun (x : Int × Unit) => True, post := fun (x : Int × Unit) (r : (List Int) × Unit) => r.1 = nc x.1.toNat }
def D9 : B9 := { args := [.val false .bool, .val false (.sl (.int .u32))], res := [.val true (.pair .bool (.sl (.int .u32)))], shared := true, pre := fun (x : Bool × (List Int) × Unit) => True, post := fun (x : Bool × (List Int) × Unit) (r : (Bool × (List Int)) × Unit) => r.1 = (x.1 && decide (x.2.1 ≠ []), x.2.1) }
def C4 : B9 := { args := [.val false (.int .u64)], res := [.val false (.sl (.int .u32))], shared := true, pre := fun (x : Int × Unit) => True, post := fun (x : Int × Unit) (r : (List Int) × Unit) => r.1 = nc x.1.toNat }
def J8 : B9 := { args := [.val false (.sl (.int .u32))], res := [.val false (.int .u64), .val false .bool], shared := false, pre := fun (x : (List Int) × Unit) => True, post := fun (x : (List Int) × Unit) (r : Int × Bool × Unit) => (nv x.1 < 18446744073709551616 -> r.1 = (nv x.1 : Int) /\ r.2.1 = true) /\ (18446744073709551616 <= nv x.1 -> r.2.1 = false) }
def O2 : B9 := { args := [.val true (.pair .bool (.sl (.int .u32)))], res := [.val true (.pair .bool (.sl (.int .u32)))], shared := true, pre := fun (x : (Bool × (List Int)) × Unit) => sh0 x.1.2, post := fun (x : (Bool × (List Int)) × Unit) (r : (Bool × (List Int)) × Unit) => r.1 = ic (iv x.1) }
def F6 : B9 := { args := [.val false (.sl (.int .u32))], res := [.val false (.sl (.int .u32))], shared := true, pre := fun (x : (List Int) × Unit) => sh0 x.1, post := fun (x : (List Int) × Unit) (r : (List Int) × Unit) => r.1 = nc (nv x.1) }
def O8 : B9 := { args := [.val false (.sl (.int .u32)), .val false (.sl (.int .u32))], res := [.val false (.sl (.int .u32))], shared := true, pre := fun (x : (List Int) × (List Int) × Unit) => sh2 x.1 /\ sh2 x.2.1, post := fun (x : (List Int) × (List Int) × Unit) (r : (List Int) × Unit) => r.1 = nc (Nat.gcd (nv x.1) (nv x.2.1)) }
def H6 : B9 := { args := [.val false (.sl (.int .u32)), .val false (.sl (.int .u32))], res := [.val false (.sl (.int .u32)), .val false (.sl (.int .u32)), .val false .bool], shared := true, pre := fun (x : (List Int) × (List Int) × Unit) => sh1 x.1, post := fun (x : (List Int) × (List Int) × Unit) (r : (List Int) × (List Int) × Bool × Unit) => (nv x.2.1 = 0 -> r.1 = [] /\ r.2.1 = [] /\ r.2.2.1 = false) /\ (nv x.2.1 ≠ 0 -> r.1 = nc (nv x.1 / nv x.2.1) /\ r.2.1 = nc (nv x.1 % nv x.2.1) /\ r.2.2.1 = true) }
def C7 : B9 := { args := [.val false (.sl (.int .u32))], res := [.val false (.sl (.int .u32))], shared := true, pre := fun (x : (List Int) × Unit) => True, post := fun (x : (List Int) × Unit) (r : (List Int) × Unit) => r.1 = nc (nv x.1) }
def A2k : B9 := { args := [.val false (.sl (.int .u32)), .val false (.sl (.int .u32))], res := [.val false (.sl (.int .u32))], shared := true, pre := fun (x : (List Int) × (List Int) × Unit) => sh2 x.1 /\ sh2 x.2.1, post := fun (x : (List Int) × (List Int) × Unit) (r : (List Int) × Unit) => r.1 = nc (Nat.gcd (nv x.1) (nv x.2.1)) }
def O9 : B9 := { args := [.val false (.sl (.int .u32)), .val false (.sl (.int .u32))], res := [.val false (.sl (.int .u32)), .val false (.sl (.int .u32)), .val false .bool], shared := true, pre := fun (x : (List Int) × (List Int) × Unit) => sh2 x.1 /\ sh2 x.2.1, post := fun (x : (List Int) × (List Int) × Unit) (r : (List Int) × (List Int) × Bool × Unit) => (nv x.2.1 = 0 -> r.2.2.1 = false) /\ (nv x.2.1 ≠ 0 -> r.1 = nc (nv x.1 / nv x.2.1) /\ r.2.1 = nc (nv x.1 % nv x.2.1) /\ r.2.2.1 = true) }
def A2u : B9 := { args := [.val true (.pair .bool (.sl (.int .u32)))], res := [.val true (.pair .bool (.sl (.int .u32)))], shared := true, pre := fun (x : (Bool × (List Int)) × Unit) => sh0 x.1.2, post := fun (x : (Bool × (List Int)) × Unit) (r : (Bool × (List Int)) × Unit) => r.1 = ic ((iv x.1).natAbs : Int) }
def A2l : B9 := { args := [.val true (.pair .bool (.sl (.int .u32))), .val true (.pair .bool (.sl (.int .u32)))], res := [.val true (.pair .bool (.sl (.int .u32)))], shared := true, pre := fun (x : (Bool × (List Int)) × (Bool × (List Int)) × Unit) => sh1 x.1.2 /\ sh1 x.2.1.2, post := fun (x : (Bool × (List Int)) × (Bool × (List Int)) × Unit) (r : (Bool × (List Int)) × Unit) => r.1 = ic (iv x.1 - iv x.2.1) }
def I7 : B9 := { args := [.val false (.sl (.int .u32))], res := [.val false (.sl (.int .u32))], shared := true, pre := fun (x : (List Int) × Unit) => sh0 x.1, post := fun (x : (List Int) × Unit) (r : (List Int) × Unit) => r.1 = nc (nv x.1) }
def P0 : B9 := { args := [.val false (.sl (.int .u32)), .val false (.sl (.int .u32))], res := [.val false (.int .i64)], shared := false, pre := fun (x : (List Int) × (List Int) × Unit) => sh1 x.1 /\ sh1 x.2.1, post := fun (x : (List Int) × (List Int) × Unit) (r : Int × Unit) => r.1 = B7b (nv x.1) (nv x.2.1) }
def O1 : B9 := { args := [.val true (.pair .bool (.sl (.int .u32)))], res := [.val false (.int .i64)], shared := false, pre := fun (x : (Bool × (List Int)) × Unit) => True, post := fun (x : (Bool × (List Int)) × Unit) (r : Int × Unit) => r.1 = (iv x.1).sign }
def S6 : B9 := { args := [.val false (.int .u32)], res := [.val false (.int .i64)], shared := false, pre := fun (x : Int × Unit) => True, post := fun (x : Int × Unit) (r : Int × Unit) => r.1 = (X7 x.1.toNat : Int) }
def P6 : B9 := { args := [.val false (.sl (.int .u32)), .val false (.sl (.int .u32))], res := [.val false (.sl (.int .u32))], shared := true, pre := fun (x : (List Int) × (List Int) × Unit) => sh1 x.1 /\ sh1 x.2.1, post := fun (x : (List Int) × (List Int) × Unit) (r : (List Int) × Unit) => r.1 = nc (nv x.1 + nv x.2.1) }
def N3 : B9 := { args := [.val false (.sl (.int .u32)), .val false (.sl (.int .u32))], res := [.val false (.sl (.int .u32)), .val false .bool], shared := true, pre := fun (x : (List Int) × (List Int) × Unit) => sh1 x.1 /\ sh1 x.2.1, post := fun (x : (List Int) × (List Int) × Unit) (r : (List Int) × Bool × Unit) => (nv x.1 < nv x.2.1 -> r.1 = [] /\ r.2.1 = false) /\ (nv x.2.1 <= nv x.1 -> r.1 = nc (nv x.1 - nv x.2.1) /\ r.2.1 = true) }
def J2 : B9 := { args := [.val false (.sl (.int .u32))], res := [.val false (.int .u64)], shared := false, pre := fun (x : (List Int) × Unit) => x.1.length <= 2, post := fun (x : (List Int) × Unit) (r : Int × Unit) => r.1 = (nv x.1 : Int) }
def I9 : B9 := { args := [.val false (.sl (.int .u32)), .val false (.sl (.int .u32))], res := [.val true (.pair (.int .u64) (.pair (.int .u64) (.pair (.int .u64) (.pair (.int .u64) .bool))))], shared := false, pre := fun (x : (List Int) × (List Int) × Unit) => sh1 x.1 /\ 3 <= x.1.length /\ B2n x.1 /\ nv x.2.1 <= nv x.1 /\ x.2.1.length <= x.1.length, post := fun (x : (List Int) × (List Int) × Unit) (r : (Int × (Int × (Int × (Int × Bool)))) × Unit) => G3n (nv x.1) (nv x.2.1) r.1.1 r.1.2.1 r.1.2.2.1 r.1.2.2.2.1 r.1.2.2.2.2 }
def H9 : B9 := { args := [.val false (.sl (.int .u32)), .val false (.int .u64), .val false (.sl (.int .u32)), .val false (.int .u64)], res := [.val false (.sl (.int .u32))], shared := true, pre := fun (x : (List Int) × Int × (List Int) × Int × Unit) => sh2 x.1 /\ sh2 x.2.2.1 /\ nv x.2.2.1 * x.2.2.2.1.toNat <= nv x.1 * x.2.1.toNat, post := fun (x : (List Int) × Int × (List Int) × Int × Unit) (r : (List Int) × Unit) => r.1 = nc (nv x.1 * x.2.1.toNat - nv x.2.2.1 * x.2.2.2.1.toNat) }
def D7 : B9 := { args := [.val false (.sl (.int .u32)), .val false (.int .u32)], res := [.val false (.sl (.int .u32)), .val false (.sl (.int .u32))], shared := true, pre := fun (x : (List Int) × Int × Unit) => sh1 x.1 /\ x.2.1 ≠ 0, post := fun (x : (List Int) × Int × Unit) (r : (List Int) × (List Int) × Unit) => r.1 = nc (nv x.1 / x.2.1.toNat) /\ r.2.1 = nc (nv x.1 % x.2.1.toNat) }
def F0 : B9 := { args := [.val false (.sl (.int .u32)), .val false (.sl (.int .u32))], res := [.val false (.sl (.int .u32)), .val false (.sl (.int .u32))], shared := true, pre := fun (x : (List Int) × (List Int) × Unit) => sh1 x.1 /\ 2 <= x.2.1.length /\ x.2.1.length <= x.1.length /\ B2n x.2.1, post := fun (x : (List Int) × (List Int) × Unit) (r : (List Int) × (List Int) × Unit) => r.1 = nc (nv x.1 / nv x.2.1) /\ r.2.1 = nc (nv x.1 % nv x.2.1) }
def S8 : B9 := { args := [.val false (.sl (.int .u32))], res := [.val false (.int .u64), .val false .bool], shared := false, pre := fun (x : (List Int) × Unit) => sh0 x.1, post := fun (x : (List Int) × Unit) (r : Int × Bool × Unit) => (nv x.1 < 18446744073709551616 -> r.1 = (nv x.1 : Int) /\ r.2.1 = true) /\ (18446744073709551616 <= nv x.1 -> r.2.1 = false) }
def A0a : B9 := { args := [.val false (.sl (.int .u32))], res := [.val false (.int .i64)], shared := false, pre := fun (x : (List Int) × Unit) => sh1 x.1, post := fun (x : (List Int) × Unit) (r : Int × Unit) => r.1 = (X7 (nv x.1) : Int) }
def A2p : B9 := { args := [.val false (.sl (.int .u32)), .val false (.int .i64)], res := [.val false (.int .u32)], shared := false, pre := fun (x : (List Int) × Int × Unit) => 0 <= x.2.1, post := fun (x : (List Int) × Int × Unit) (r : Int × Unit) => r.1 = ((nv x.1 / 2 ^ x.2.1.toNat % 2 : Nat) : Int) }
def D5 : B9 := { args := [.val false (.int .u32)], res := [.val false (.int .i64)], shared := false, pre := fun (x : Int × Unit) => True, post := fun (x : Int × Unit) (r : Int × Unit) => r.1 = 32 - (X7 x.1.toNat : Int) }
def J9 : B9 := { args := [.val false (.sl (.int .u32)), .val false (.int .i64), .val false (.int .i64)], res := [.val false (.int .u64)], shared := false, pre := fun (x : (List Int) × Int × Int × Unit) => 3 <= x.2.1 /\ (x.1.length : Int) <= x.2.1 /\ x.2.1 <= 17592186044416 /\ 0 <= x.2.2.1 /\ x.2.2.1 <= 31 /\ nv x.1 * 2 ^ x.2.2.1.toNat < 4294967296 ^ x.2.1.toNat, post := fun (x : (List Int) × Int × Int × Unit) (r : Int × Unit) => r.1 = ((nv x.1 * 2 ^ x.2.2.1.toNat / 4294967296 ^ (x.2.1.toNat - 2) : Nat) : Int) }
def I6 : B9 := { args := [.val false (.sl (.int .u32)), .val false (.int .i64)], res := [.own (.int .u32) 153], shared := false, pre := fun (x : (List Int) × Int × Unit) => sh1 x.1 /\ 0 <= x.2.1 /\ x.2.1 <= 31, post := fun (x : (List Int) × Int × Unit) (r : (List Int) × Unit) => r.1.length = x.1.length + 1 /\ nv r.1 = nv x.1 * 2 ^ x.2.1.toNat }
def E9 : B9 := { args := [.val false (.sl (.int .u32)), .val false (.int .i64)], res := [.val false (.sl (.int .u32)), .val false .bool], shared := true, pre := fun (x : (List Int) × Int × Unit) => sh1 x.1, post := fun (x : (List Int) × Int × Unit) (r : (List Int) × Bool × Unit) => (x.2.1 < 0 -> r.1 = [] /\ r.2.1 = false) /\ (0 <= x.2.1 -> r.1 = nc (nv x.1 / 2 ^ x.2.1.toNat) /\ r.2.1 = true) }
def G6 : B9 := { args := [.val false (.int .i64), .val false (.ptr (.sl (.int .u32)))], res := [.val false (.int .u64)], shared := false, pre := fun (x : Int × (List Int) × Unit) => 0 <= x.1, post := fun (x : Int × (List Int) × Unit) (r : Int × Unit) => r.1 = (if x.1 < (x.2.1.length : Int) then x.2.1.getD x.1.toNat 0 else 0) }
def B8 : B9 := { args := [.val false (.sl (.int .i64)), .val true tQ], res := [.val false .bool], shared := false, pre := fun (x : (List Int) × QQ × Unit) => sz 1048576 x.2.1, post := fun (x : (List Int) × QQ × Unit) (r : Bool × Unit) => r.1 = true }
def Z8 : B9 := { args := [.val false (.sl (.int .i64))], res := [.obox 103 (.pair (.sl (.int .i64)) (.int .i64))], shared := true, pre := fun (x : (List Int) × Unit) => True, post := fun (x : (List Int) × Unit) (r : ((List Int) × Int) × Unit) => r.1 = (x.1, 0) }
def H1 : B9 := { args := [.box 103 (.pair (.sl (.int .i64)) (.int .i64)), .val false (.int .i64), .val false (.int .i64)], res := [.val true tM], shared := true, pre := fun (x : ((List Int) × Int) × Int × Int × Unit) => 0 <= x.2.1 /\ x.2.1 <= 20 /\ 0 <= x.2.2.1 /\ x.2.2.1 <= 20 /\ 0 <= x.1.2 /\ x.1.2 <= (x.1.1.length : Int), post := fun (x : ((List Int) × Int) × Int × Int × Unit) (r : MM × Unit) => F9g x.2.1.toNat x.2.2.1.toNat r.1, mpost := fun (x : ((List Int) × Int) × Int × Int × Unit) (r : MM × Unit) (o : ((List Int) × Int) × Unit) => o.1.1 = x.1.1 /\ 0 <= o.1.2 /\ o.1.2 <= (x.1.1.length : Int) }
def F7 : B9 := { args := [.box 103 (.pair (.sl (.int .i64)) (.int .i64)), .val false (.int .i64)], res := [.val false (.int .i64)], shared := true, pre := fun (x : ((List Int) × Int) × Int × Unit) => 0 < x.2.1 /\ 0 <= x.1.2 /\ x.1.2 <= (x.1.1.length : Int), post := fun (x : ((List Int) × Int) × Int × Unit) (r : Int × Unit) => 0 <= r.1 /\ r.1 < x.2.1, mpost := fun (x : ((List Int) × Int) × Int × Unit) (r : Int × Unit) (o : ((List Int) × Int) × Unit) => o.1.1 = x.1.1 /\ 0 <= o.1.2 /\ o.1.2 <= (x.1.1.length : Int) }
def L8 : B9 := { args := [.val true tM, .val false (.sl (.int .i64)), .val false (.sl (.int .i64))], res := [.val true tM, .val false (.int .i64)], shared := true, pre := fun (x : MM × (List Int) × (List Int) × Unit) => okM K1 x.1 /\ x.2.1.length <= 1000 /\ x.2.2.1.length <= 1000 /\ x.2.2.1.Nodup, post := fun (x : MM × (List Int) × (List Int) × Unit) (r : MM × Int × Unit) => (¬ A6 x.1 -> r.1 = zm /\ r.2.1 = 1) /\ (A6 x.1 -> (((∃ i ∈ x.2.1, i < 0 \/ x.1.1 <= i) \/ (∃ i ∈ x.2.2.1, i < 0 \/ x.1.2.1 <= i)) -> r.1 = zm /\ r.2.1 = 3) /\ (¬ ((∃ i ∈ x.2.1, i < 0 \/ x.1.1 <= i) \/ (∃ i ∈ x.2.2.1, i < 0 \/ x.1.2.1 <= i)) -> ((16384 < x.2.1.length \/ 16384 < x.2.2.1.length) -> r.1 = zm /\ r.2.1 = 8) /\ (x.2.1.length <= 16384 /\ x.2.2.1.length <= 16384 -> isM x.2.1.length x.2.2.1.length (fun i j => el x.1 (x.2.1.getD i 0).toNat (x.2.2.1.getD j 0).toNat) r.1 /\ r.2.1 = 0))) }
def P5 : B9 := { args := [], res := [.val false .bool], shared := false, pre := fun (x : Unit) => True, post := fun (x : Unit) (r : Bool × Unit) => r.1 = true }
def A0e : B9 := { args := [.val false (.int .i64), .val false (.int .i64)], res := [.val false (.int .i64)], shared := false, pre := fun (x : Int × Int × Unit) => 0 < x.2.1, post := fun (x : Int × Int × Unit) (r : Int × Unit) => 0 < x.2.1 -> 0 <= r.1 /\ r.1 < x.2.1 /\ r.1 = (IntKind.u64.wrap x.1).tmod x.2.1 }
def N8 : B9 := { args := [.val true tM, .val false (.int .i64), .val false (.int .i64)], res := [.val true tM, .val false (.int .i64)], shared := true, pre := fun (x : MM × Int × Int × Unit) => okM K0 x.1, post := fun (x : MM × Int × Int × Unit) (r : MM × Int × Unit) => (¬ A6 x.1 -> r.1 = zm /\ r.2.1 = 1) /\ (A6 x.1 -> (¬ (0 <= x.2.1 /\ x.2.1 < x.1.1 /\ 0 <= x.2.2.1 /\ x.2.2.1 < x.1.2.1) -> r.1 = zm /\ r.2.1 = 3) /\ (0 <= x.2.1 /\ x.2.1 < x.1.1 /\ 0 <= x.2.2.1 /\ x.2.2.1 < x.1.2.1 -> (el x.1 x.2.1.toNat x.2.2.1.toNat = 0 -> r.1 = zm /\ r.2.1 = 5) /\ (el x.1 x.2.1.toNat x.2.2.1.toNat ≠ 0 -> isM (x.1.1 - 1).toNat (x.1.2.1 - 1).toNat (F4s x.1 x.2.1.toNat x.2.2.1.toNat) r.1 /\ r.2.1 = 0))) }
def P4 : B9 := { args := [.val true tM, .val true tM], res := [.val true tM, .val false (.int .i64)], shared := true, pre := fun (x : MM × MM × Unit) => okM K0 x.1 /\ okM K0 x.2.1 /\ x.1.2.1 <= 1000, post := fun (x : MM × MM × Unit) (r : MM × Int × Unit) => (¬ (A6 x.1 /\ A6 x.2.1) -> r.1 = zm /\ r.2.1 = 1) /\ (A6 x.1 /\ A6 x.2.1 -> (x.1.2.1 ≠ x.2.1.1 -> r.1 = zm /\ r.2.1 = 4) /\ (x.1.2.1 = x.2.1.1 -> isM x.1.1.toNat x.2.1.2.1.toNat (fun i j => A0h x.1.2.1.toNat fun k => el x.1 i k * el x.2.1 k j) r.1 /\ r.2.1 = 0)) }
def G9 : B9 := { args := [.val true tM], res := [.val true tM, .val false (.int .i64)], shared := true, pre := fun (x : MM × Unit) => okM K1 x.1, post := fun (x : MM × Unit) (r : MM × Int × Unit) => (¬ A6 x.1 -> r.1 = zm /\ r.2.1 = 1) /\ (A6 x.1 -> isM x.1.2.1.toNat x.1.1.toNat (fun i j => el x.1 j i) r.1 /\ r.2.1 = 0) }
def S7 : B9 := { args := [.val true tM, .val true tQ, .val true tM], res := [.val true tM, .val false (.int .i64)], shared := true, pre := fun (x : MM × QQ × MM × Unit) => okM K1 x.1 /\ sz K1 x.2.1 /\ okM K1 x.2.2.1, post := fun (x : MM × QQ × MM × Unit) (r : MM × Int × Unit) => (¬ (A6 x.1 /\ A6 x.2.2.1) -> r.1 = zm /\ r.2.1 = 1) /\ (A6 x.1 /\ A6 x.2.2.1 -> (¬ (x.1.1 = x.2.2.1.1 /\ x.1.2.1 = x.2.2.1.2.1) -> r.1 = zm /\ r.2.1 = 4) /\ (x.1.1 = x.2.2.1.1 /\ x.1.2.1 = x.2.2.1.2.1 -> isM x.1.1.toNat x.1.2.1.toNat (fun i j => el x.1 i j + rv x.2.1 * el x.2.2.1 i j) r.1 /\ r.2.1 = 0)) }
def J5 : B9 := { args := [.val true tM, .val true tM], res := [.val false .bool], shared := false, pre := fun (x : MM × MM × Unit) => okM K1 x.1, post := fun (x : MM × MM × Unit) (r : Bool × Unit) => r.1 = true ↔ x.1 = x.2.1 /\ ∀ v ∈ x.1.2.2, ∀ e ∈ v, e.2 = rc (rv e.2) }
def W3 : B9 := { args := [.val false (.sl (.sl tQ)), .val false (.int .i64)], res := [.val true tM], shared := true, pre := fun (x : (List (List QQ)) × Int × Unit) => (∀ l ∈ x.1, szL K1 l /\ (l.length : Int) = x.2.1) /\ 0 <= x.2.1 /\ x.2.1 <= 16384 /\ x.1.length <= 16384, post := fun (x : (List (List QQ)) × Int × Unit) (r : MM × Unit) => isM x.1.length x.2.1.toNat (fun i j => rv ((x.1.getD i []).getD j zr)) r.1 }
def L4 : B9 := { args := [.box 103 (.pair (.sl (.int .i64)) (.int .i64))], res := [.val true tQ], shared := true, pre := fun (x : ((List Int) × Int) × Unit) => 0 <= x.1.2 /\ x.1.2 <= (x.1.1.length : Int), post := fun (x : ((List Int) × Int) × Unit) (r : QQ × Unit) => F3e r.1, mpost := fun (x : ((List Int) × Int) × Unit) (r : QQ × Unit) (o : ((List Int) × Int) × Unit) => o.1.1 = x.1.1 /\ 0 <= o.1.2 /\ o.1.2 <= (x.1.1.length : Int) }
def F9 : B9 := { args := [.val true tM], res := [.val false .bool], shared := false, pre := fun (x : MM × Unit) => True, post := fun (x : MM × Unit) (r : Bool × Unit) => r.1 = decide (A6 x.1) }
def L9 : B9 := { args := [.val false (.sl tQ)], res := [.val false (.sl tE)], shared := true, pre := fun (x : (List QQ) × Unit) => x.1.length <= 100000 /\ szL K1 x.1, post := fun (x : (List QQ) × Unit) (r : (List EE) × Unit) => isV x.1.length (fun j => rv (x.1.getD j zr)) r.1 }
def E4 : B9 := { args := [.val false (.int .i64), .val false (.ptr (.int .i64))], res := [.val false .bool], shared := false, pre := fun (x : Int × Int × Unit) => True, post := fun (x : Int × Int × Unit) (r : Bool × Unit) => r.1 = decide (x.1 < 0 \/ x.2.1 <= x.1) }
def C3 : B9 := { args := [.val false (.sl (.int .i64)), .fn [(false, (.int .i64))] false .bool], res := [.val false .bool], shared := false, pre := fun (x : (List Int) × (((Int × Unit) -> Prop) × ((Int × Unit) -> Bool)) × Unit) => ∀ i ∈ x.1, x.2.1.1 (i, ()), post := fun (x : (List Int) × (((Int × Unit) -> Prop) × ((Int × Unit) -> Bool)) × Unit) (r : Bool × Unit) => r.1 = decide (∃ i ∈ x.1, x.2.1.2 (i, ()) = true) }
def H5 : B9 := { args := [.val false (.int .i64)], res := [.val false .bool], shared := false, pre := fun (x : Int × Unit) => True, post := fun (x : Int × Unit) (r : Bool × Unit) => r.1 = decide (0 <= x.1 /\ x.1 <= 16384) }
def T3 : B9 := { args := [.val false (.sl (.sl (.int .i64)))], res := [.val true tM], shared := true, pre := fun (x : (List (List Int)) × Unit) => x.1 ≠ [] /\ x.1.length <= 10 /\ ∀ l ∈ x.1, l.length = (x.1.getD 0 []).length /\ l.length <= 10 /\ ∀ v ∈ l, v.natAbs < 4294967296, post := fun (x : (List (List Int)) × Unit) (r : MM × Unit) => isM x.1.length (x.1.getD 0 []).length (fun i j => (((x.1.getD i []).getD j 0 : Int) : Rat)) r.1 }
def S0 : B9 := { args := [.val false (.sl tE), .val false (.int .i64)], res := [.val true tQ], shared := true, pre := fun (x : (List EE) × Int × Unit) => okV K1 x.1, post := fun (x : (List EE) × Int × Unit) (r : QQ × Unit) => r.1 = rc (F2 x.1 x.2.1) }
def F4 : B9 := { args := [.val false (.sl tE), .val true tQ, .val false (.sl tE)], res := [.val false (.sl tE)], shared := true, pre := fun (x : (List EE) × QQ × (List EE) × Unit) => okV K1 x.1 /\ sz K1 x.2.1 /\ okV K1 x.2.2.1, post := fun (x : (List EE) × QQ × (List EE) × Unit) (r : (List EE) × Unit) => isC (fun i => F2 x.1 i + rv x.2.1 * F2 x.2.2.1 i) r.1 }
def A2x : B9 := { args := [.val false (.sl tE), .val false (.int .i64)], res := [.val true tQ], shared := true, pre := fun (x : (List EE) × Int × Unit) => okV K1 x.1, post := fun (x : (List EE) × Int × Unit) (r : QQ × Unit) => r.1 = rc (F2 x.1 x.2.1) }
def E8 : B9 := { args := [.val false (.sl tE), .val true tM], res := [.val false (.sl tE)], shared := true, pre := fun (x : (List EE) × MM × Unit) => okV K0 x.1 /\ okM K0 x.2.1 /\ A6 x.2.1 /\ V5 x.1 x.2.1.1 /\ x.2.1.1 <= 1000, post := fun (x : (List EE) × MM × Unit) (r : (List EE) × Unit) => isC (fun j => A9e x.1 fun k => F2 (x.2.1.2.2.getD k.toNat []) j) r.1 }
def M0 : B9 := { args := [.val false (.sl tE), .val false (.sl tE)], res := [.val false .bool], shared := false, pre := fun (x : (List EE) × (List EE) × Unit) => szV K1 x.1, post := fun (x : (List EE) × (List EE) × Unit) (r : Bool × Unit) => r.1 = decide (x.1 = x.2.1 /\ ∀ e ∈ x.1, e.2 = rc (rv e.2)) }
def N5 : B9 := { args := [.val false (.sl tE), .val false (.int .i64)], res := [.val false .bool], shared := false, pre := fun (x : (List EE) × Int × Unit) => True, post := fun (x : (List EE) × Int × Unit) (r : Bool × Unit) => r.1 = decide (V5 x.1 x.2.1) }
def J6 : B9 := { args := [.val true tE, .val true tE], res := [.val false (.int .i64)], shared := false, pre := fun (x : EE × EE × Unit) => True, post := fun (x : EE × EE × Unit) (r : Int × Unit) => r.1 = C7b x.1.1 x.2.1.1 }
def A0c : B9 := { args := [.val false (.sl tE)], res := [.val false (.sl tE)], shared := true, pre := fun (x : (List EE) × Unit) => okV K1 x.1, post := fun (x : (List EE) × Unit) (r : (List EE) × Unit) => isC (F2 x.1) r.1 }
def C6 : B9 := { args := [.val false (.sl (.int .i64)), .fn [(false, (.int .i64))] false .bool], res := [.val false (.int .i64)], shared := false, pre := fun (x : (List Int) × (((Int × Unit) -> Prop) × ((Int × Unit) -> Bool)) × Unit) => ∀ i ∈ x.1, x.2.1.1 (i, ()), post := fun (x : (List Int) × (((Int × Unit) -> Prop) × ((Int × Unit) -> Bool)) × Unit) (r : Int × Unit) => r.1 = F6b (fun i => x.2.1.2 (i, ())) x.1 }
def N9 : B9 := { args := [.val false (.sl tE), .val false (.sl tE), .fn [(true, tQ), (true, tQ)] true tQ], res := [.val false (.sl tE)], shared := true, pre := fun (x : (List EE) × (List EE) × (((QQ × QQ × Unit) -> Prop) × ((QQ × QQ × Unit) -> QQ)) × Unit) => x.1.length <= 100000 /\ x.2.1.length <= 100000 /\ ∀ u v, (u = zr \/ ∃ e ∈ x.1, e.2 = u) -> (v = zr \/ ∃ e ∈ x.2.1, e.2 = v) -> x.2.2.1.1 (u, v, ()), post := fun (x : (List EE) × (List EE) × (((QQ × QQ × Unit) -> Prop) × ((QQ × QQ × Unit) -> QQ)) × Unit) (r : (List EE) × Unit) => r.1 = M9 x.2.2.1.2 x.1 x.2.1 }
def J7 : B9 := { args := [.val false (.sl tE)], res := [.val false (.sl tE)], shared := true, pre := fun (x : (List EE) × Unit) => asc x.1, post := fun (x : (List EE) × Unit) (r : (List EE) × Unit) => r.1 = x.1 }
def F1 : B9 := { args := [.val true tQ, .val true tQ, .val false (.ptr tQ)], res := [.val true tQ], shared := true, pre := fun (x : QQ × QQ × QQ × Unit) => sz K1 x.1 /\ sz K1 x.2.1 /\ sz K1 x.2.2.1, post := fun (x : QQ × QQ × QQ × Unit) (r : QQ × Unit) => r.1 = rc (rv x.1 + rv x.2.2.1 * rv x.2.1) }
def F3 : B9 := { args := [.val false (.sl tE)], res := [.val false .bool], shared := false, pre := fun (x : (List EE) × Unit) => True, post := fun (x : (List EE) × Unit) (r : Bool × Unit) => r.1 = decide (asc x.1) }
def P9 : B9 := { args := [.val false (.sl (.sl tE))], res := [.val false (.sl (.int .i64))], shared := true, pre := fun (x : (List (List EE)) × Unit) => x.1.length <= 4 /\ ∀ v ∈ x.1, v.length <= 100000, post := fun (x : (List (List EE)) × Unit) (r : (List Int) × Unit) => r.1.Pairwise (· < ·) /\ ∀ i, i ∈ r.1 ↔ ∃ v ∈ x.1, ∃ e ∈ v, e.1 = i }
def N7 : B9 := { args := [.row tE 94, .fn [(true, tE), (true, tE)] false (.int .i64)], res := [], shared := true, pre := fun (x : (List EE) × (((EE × EE × Unit) -> Prop) × ((EE × EE × Unit) -> Int)) × Unit) => False, post := fun (x : (List EE) × (((EE × EE × Unit) -> Prop) × ((EE × EE × Unit) -> Int)) × Unit) (r : Unit) => True }
def C4b : An := {}
def A7r : B6 := [(114, I8)]
def A1p : A7 J6.args -> Prop := fun (x : EE × EE × Unit) => True /\ ∀ (r : Int × Unit), G2 r.1 /\ True -> r.1 = C7b x.1.1 x.2.1.1 -> r.1 = C7b x.1.1 x.2.1.1
theorem B3h (x : A7 J6.args) : K8 Tryz.prog tys A7r C4b J6 Tryz.f156 x = A1p x := by kernel_rfl
def C0x : An := {}
def A5u : B6 := [(168, L6)]
def C5w : An := {}
def A9n : B6 := []
def A0l : A7 I8.args -> Prop := fun (x : Int × Int × Unit) => True /\ ∀ (r : Bool × Unit), True /\ True -> r.1 = false -> True /\ ∀ (a : Bool × Unit), True /\ True -> a.1 = false -> (r.1 = true -> (a.1 = true -> (0 : Int) = C7b x.1 x.2.1) /\ (a.1 = false -> (-1 : Int) = C7b x.1 x.2.1)) /\ (r.1 = false -> (a.1 = true -> (1 : Int) = C7b x.1 x.2.1) /\ (a.1 = false -> (decide (x.1 < x.2.1) = true -> (-1 : Int) = C7b x.1 x.2.1) /\ (decide (x.1 < x.2.1) = false -> (decide (x.2.1 < x.1) = true -> (1 : Int) = C7b x.1 x.2.1) /\ (decide (x.2.1 < x.1) = false -> (0 : Int) = C7b x.1 x.2.1))))
theorem B2a (x : A7 I8.args) : K8 Tryz.prog tys A5u C0x I8 Tryz.f114 x = A0l x := by kernel_rfl
def A3c : A7 L6.args -> Prop := fun (x : Int × Unit) => decide (x.1 ≠ x.1) = false
theorem B5w (x : A7 L6.args) : K8 Tryz.prog tys A9n C5w L6 Tryz.f168 x = A3c x := by kernel_rfl
theorem B5u (x : A7 L6.args) (_ : awf L6.args x) (_ : L6.pre x) : A3c x := by
  simp [A3c]
theorem B3j (x : A7 J6.args) (hw : awf J6.args x) (_ : J6.pre x) : A1p x := by
  simp only [A1p]
  refine ⟨trivial, ?_⟩
  rintro ⟨r, _⟩ _ hr
  exact hr
def D2i : An := { loop := [(2, ⟨[0], [], [(3, false, [.val (.int .i64)])], [], []⟩)] }
def B4n : B6 := []
def B1z : An := {}
def A2t : B6 := [(186, C7)]
def D0p : An := { loop := [(3, ⟨[6, 7], [], [(3, false, [.val (.int .u64)]), (8, false, [.val (.int .i64)])], [], []⟩)] }
def B1y : B6 := []
def C3d : An := {}
def A7k : B6 := [(186, C7), (219, J2)]
def B8l : An := { loop := [(7, ⟨[0, 1], [], [(5, false, [.val (.int .i64)])], [], []⟩)], plan := [(9, [3, 7], [], true, (.p 0 (.p 1 (.p 2 (.q 3 (.p 4 (.p 5 (.p 6 (.q 7 (.p 8 .done)))))))))), (11, [3, 7], [], true, (.p 0 (.p 1 (.p 2 (.q 3 (.p 4 (.p 5 (.p 6 (.q 7 (.p 8 .done))))))))))] }
def A5v : B6 := [(186, C7)]
def D0u : An := {}
def B2q : B6 := [(186, C7)]
def A6g : A7 C7.args -> Prop := fun (x : List Int × Unit) => ∃ (I : Int × Unit -> Prop), ∃ (μ : Int × Unit -> Nat), I ((x.1.length : Int), ()) /\ ∀ (p : Int × Unit), G2 p.1 /\ True -> I p -> (decide (0 < p.1) = true -> (0 : Int) <= IntKind.i64.wrap (p.1 - 1) /\ IntKind.i64.wrap (p.1 - 1) < (x.1.length : Int)) /\ (sel (decide (0 < p.1)) (decide (gx (0 : Int) x.1 (IntKind.i64.wrap (p.1 - 1)) = (0 : Int))) false = true -> I (IntKind.i64.wrap (p.1 - 1), ()) /\ μ (IntKind.i64.wrap (p.1 - 1), ()) < μ p) /\ (sel (decide (0 < p.1)) (decide (gx (0 : Int) x.1 (IntKind.i64.wrap (p.1 - 1)) = (0 : Int))) false = false -> ((0 : Int) <= (0 : Int) /\ 0 <= p.1 /\ p.1 <= (x.1.length : Int)) /\ List.drop (Int.toNat (0 : Int)) (List.take (Int.toNat p.1) x.1) = nc (nv x.1))
theorem C4i (x : A7 C7.args) : K8 Tryz.prog tys B4n D2i C7 Tryz.f186 x = A6g x := by kernel_rfl
def V8 : A7 C4.args -> Prop := fun (x : Int × Unit) => (0 : (Ty.int IntKind.u64).den) <= (32 : Int) /\ True /\ ∀ (r : List Int × Unit), WfU r.1 /\ True -> r.1 = nc (nv [IntKind.u32.wrap x.1, IntKind.u32.wrap (Int.fdiv x.1 ((2 : Int) ^ Min.min (Int.toNat (32 : Int)) IntKind.u64.bits))]) -> r.1 = nc x.1.toNat
theorem A7s (x : A7 C4.args) : K8 Tryz.prog tys A2t B1z C4 Tryz.f180 x = V8 x := by kernel_rfl
def A4u : A7 J2.args -> Prop := fun (x : List Int × Unit) => ∃ (I : Int × Int × Unit -> Prop), ∃ (μ : Int × Int × Unit -> Nat), I ((0 : Int), (0 : Int), ()) /\ ∀ (p : Int × Int × Unit), K9 p.1 /\ G2 p.2.1 /\ True -> I p -> (decide (p.2.1 < (x.1.length : Int)) = true -> (0 <= p.2.1 /\ p.2.1 < (x.1.length : Int)) /\ (0 : (Ty.int IntKind.i64).den) <= IntKind.i64.wrap (32 * p.2.1) /\ I (IntKind.u64.wrap (↑(BitVec.ofInt IntKind.u64.bits p.1 ||| BitVec.ofInt IntKind.u64.bits (IntKind.u64.wrap (IntKind.u64.wrap (gx (0 : Int) x.1 p.2.1) * (2 : Int) ^ Min.min (IntKind.i64.wrap (32 * p.2.1)).toNat IntKind.u64.bits))).toNat : Int), IntKind.i64.wrap (p.2.1 + 1), ()) /\ μ (IntKind.u64.wrap (↑(BitVec.ofInt IntKind.u64.bits p.1 ||| BitVec.ofInt IntKind.u64.bits (IntKind.u64.wrap (IntKind.u64.wrap (gx (0 : Int) x.1 p.2.1) * (2 : Int) ^ Min.min (IntKind.i64.wrap (32 * p.2.1)).toNat IntKind.u64.bits))).toNat : Int), IntKind.i64.wrap (p.2.1 + 1), ()) < μ p) /\ (decide (p.2.1 < (x.1.length : Int)) = false -> p.1 = (↑(nv x.1) : Int))
theorem C0q (x : A7 J2.args) : K8 Tryz.prog tys B1y D0p J2 Tryz.f219 x = A4u x := by kernel_rfl
def A1z : A7 J8.args -> Prop := fun (x : List Int × Unit) => True /\ ∀ (r : List Int × Unit), WfU r.1 /\ True -> r.1 = nc (nv x.1) -> (decide ((2 : Int) < (r.1.length : Int)) = true -> (nv x.1 < 18446744073709551616 -> (0 : Int) = (↑(nv x.1) : Int) /\ false = true) /\ ((18446744073709551616 : Nat) <= nv x.1 -> false = false)) /\ (decide ((2 : Int) < (r.1.length : Int)) = false -> List.length r.1 <= 2 /\ ∀ (a : Int × Unit), K9 a.1 /\ True -> a.1 = (↑(nv r.1) : Int) -> (nv x.1 < 18446744073709551616 -> a.1 = (↑(nv x.1) : Int) /\ true = true) /\ ((18446744073709551616 : Nat) <= nv x.1 -> true = false))
theorem B3o (x : A7 J8.args) : K8 Tryz.prog tys A7k C3d J8 Tryz.f181 x = A1z x := by kernel_rfl
def A0w : A7 C8.args -> Prop := fun (x : List Int × List Int × Unit) => True /\ ∀ (r : List Int × Unit), WfU r.1 /\ True -> r.1 = nc (nv x.1) -> True /\ ∀ (a : List Int × Unit), WfU a.1 /\ True -> a.1 = nc (nv x.2.1) -> (decide ((r.1.length : Int) ≠ (a.1.length : Int)) = true -> (decide ((r.1.length : Int) < (a.1.length : Int)) = true -> (-1 : Int) = B7b (nv x.1) (nv x.2.1)) /\ (decide ((r.1.length : Int) < (a.1.length : Int)) = false -> (1 : Int) = B7b (nv x.1) (nv x.2.1))) /\ (decide ((r.1.length : Int) ≠ (a.1.length : Int)) = false -> ∃ (I : Int × Unit -> Prop), ∃ (μ : Int × Unit -> Nat), I (IntKind.i64.wrap ((r.1.length : Int) - (1 : Int)), ()) /\ ∀ (p : Int × Unit), G2 p.1 /\ True -> I p -> (decide (0 <= p.1) = true -> (0 <= p.1 /\ p.1 < (r.1.length : Int)) /\ (0 <= p.1 /\ p.1 < (a.1.length : Int)) /\ (decide (gx (0 : Int) r.1 p.1 < gx (0 : Int) a.1 p.1) = true -> (-1 : Int) = B7b (nv x.1) (nv x.2.1)) /\ (decide (gx (0 : Int) r.1 p.1 < gx (0 : Int) a.1 p.1) = false -> (0 <= p.1 /\ p.1 < (r.1.length : Int)) /\ (0 <= p.1 /\ p.1 < (a.1.length : Int)) /\ (decide (gx (0 : Int) a.1 p.1 < gx (0 : Int) r.1 p.1) = true -> (1 : Int) = B7b (nv x.1) (nv x.2.1)) /\ (decide (gx (0 : Int) a.1 p.1 < gx (0 : Int) r.1 p.1) = false -> I (IntKind.i64.wrap (p.1 - 1), ()) /\ μ (IntKind.i64.wrap (p.1 - 1), ()) < μ p))) /\ (decide (0 <= p.1) = false -> (0 : Int) = B7b (nv x.1) (nv x.2.1)))
theorem B1w (x : A7 C8.args) : K8 Tryz.prog tys A5v B8l C8 Tryz.f172 x = A0w x := by kernel_rfl
def A4e : A7 F6.args -> Prop := fun (x : List Int × Unit) => True /\ ∀ (r : List Int × Unit), WfU r.1 /\ True -> r.1 = nc (nv x.1) -> ((0 : Int) <= (r.1.length : Int) /\ (r.1.length : Int) <= (r.1.length : Int) /\ (↑(4 : Nat) : Int) * (r.1.length : Int) <= (281474976710656 : Int) /\ (r.1.length : Int) <= (9223372036854775807 : Int)) /\ C3z (List.replicate (r.1.length : Int).toNat (0 : Int)) r.1 = nc (nv x.1)
theorem C0y (x : A7 F6.args) : K8 Tryz.prog tys B2q D0u F6 Tryz.f183 x = A4e x := by kernel_rfl
theorem C1m (x : A7 C7.args) (hw : awf C7.args x) (_ : C7.pre x) : A6g x := by
  obtain ⟨l, _⟩ := x
  have hl : l.length <= 9223372036854775807 := hw.1.1
  have hb : A9 l := A5 hw.1.2
  change List Int at l
  simp only [A6g]
  refine ⟨fun p => 0 <= p.1 /\ p.1 <= (l.length : Int) /\ ∀ i x, p.1.toNat <= i -> l[i]? = some x -> x = 0, fun p => p.1.toNat, ⟨Int.natCast_nonneg _, Int.le_refl _, fun i x hi hx => ?_⟩, ?_⟩
  . rw [List.getElem?_eq_none (by simpa using hi)] at hx; cases hx
  rintro ⟨n, _⟩ _ ⟨h0, h1, h2⟩
  change Int at n
  simp only at h0 h1 h2 ⊢
  refine ⟨fun h => ?_, fun h => ?_, fun h => ?_⟩
  . have h := of_decide_eq_true h
    rw [wr (by omega) (by omega)]
    exact ⟨by omega, by omega⟩
  . rw [U2] at h
    simp only [Bool.and_eq_true, decide_eq_true_eq] at h
    obtain ⟨h3, h4⟩ := h
    rw [wr (by omega) (by omega)] at h4 ⊢
    refine ⟨⟨by omega, by omega, fun i x hi hx => ?_⟩, by omega⟩
    by_cases he : i = (n - 1).toNat
    . subst he
      rw [M7 (d := (0 : Int)) (by omega) (by omega)] at hx
      cases hx; exact h4
    . exact h2 i x (by omega) hx
  . refine ⟨⟨Int.le_refl _, h0, h1⟩, ?_⟩
    show (l.take n.toNat).drop 0 = _
    rw [List.drop_zero]
    refine F2b hb (by omega) h2 ?_
    rw [U2] at h
    simp only [Bool.and_eq_false_iff, decide_eq_false_iff_not] at h
    rcases h with h | h
    . exact .inl (by omega)
    . by_cases hn : n = 0
      . exact .inl (by omega)
      . rw [wr (by omega) (by omega)] at h
        refine .inr ⟨gx 0 l (n - 1), ?_, h⟩
        have := M7 (d := (0 : Int)) (l := l) (i := n - 1) (by omega) (by omega)
        rw [<- this]; congr 1; omega
theorem A6x (x : A7 C4.args) (hw : awf C4.args x) (_ : C4.pre x) : V8 x := by
  obtain ⟨v, _⟩ := x
  change Int at v
  have hv : IntKind.u64.min <= v /\ v <= IntKind.u64.max := hw.1
  rw [E4e, C3a] at hv
  simp only [V8]
  refine ⟨by decide, trivial, ?_⟩
  rintro ⟨r, _⟩ _ hr
  simp only at hr ⊢
  rw [hr]
  congr 1
  rw [show Min.min (Int.toNat 32) IntKind.u64.bits = 32 from rfl]
  simp only [nv, A1a]
  rw [Int.fdiv_eq_ediv_of_nonneg _ (by decide), show (2 : Int) ^ 32 = 4294967296 from rfl]
  omega
theorem B8f (x : A7 J2.args) (hw : awf J2.args x) (hp : J2.pre x) : A4u x := by
  obtain ⟨l, _⟩ := x
  have hb : A9 l := A5 hw.1.2
  have hl : l.length <= 2 := hp
  change List Int at l
  simp only [A4u]
  refine ⟨fun p => 0 <= p.2.1 /\ p.2.1 <= (l.length : Int) /\ p.1 = (nv (l.take p.2.1.toNat) : Int), fun p => ((l.length : Int) - p.2.1).toNat, ⟨Int.le_refl _, Int.natCast_nonneg _, rfl⟩, ?_⟩
  rintro ⟨v, i, _⟩ hv ⟨h0, h1, h2⟩
  change Int at v i
  simp only at h0 h1 h2 ⊢
  refine ⟨fun h => ?_, fun h => ?_⟩
  . have h := of_decide_eq_true h
    have hg := B7n hb h0 h
    have hlt := A8p (l := l.take i.toNat) fun x hx => hb x (List.mem_of_mem_take hx)
    rw [List.length_take, Nat.min_eq_left (by omega)] at hlt
    have hs := C4z h0 h
    rw [wr (a := 32 * i) (by omega) (by omega), wr (a := i + 1) (by omega) (by omega), w64 hg.1 (by omega)]
    have hm : Min.min (32 * i).toNat IntKind.u64.bits = 32 * i.toNat := by
      show Min.min (32 * i).toNat 64 = _
      omega
    rw [hm]
    have hi : i.toNat = 0 \/ i.toNat = 1 := by omega
    refine ⟨⟨h0, h⟩, by show (0 : Int) <= 32 * i; omega, ?_⟩
    have key : IntKind.u64.wrap (((BitVec.ofInt 64 v ||| BitVec.ofInt 64 (IntKind.u64.wrap (gx 0 l i * 2 ^ (32 * i.toNat)))).toNat : Nat) : Int) = (nv (l.take (i + 1).toNat) : Int) := by
      rw [hs]
      generalize gx 0 l i = b at hg
      rcases hi with hi | hi
      . rw [hi] at hlt ⊢
        have hv0 : v = 0 := by rw [h2, hi]; simp [nv]
        rw [w64 (a := b * 2 ^ (32 * 0)) (by omega) (by omega), E0g (v := v) (b := b) (k := 32 * 0) (by omega) (by omega) hg.1 (by omega) (by omega), w64 (by omega) (by omega)]
        simp [nv]
        omega
      . rw [hi] at hlt ⊢
        rw [hi] at h2
        rw [w64 (a := b * 2 ^ (32 * 1)) (by omega) (by omega), E0g (v := v) (b := b) (k := 32 * 1) (by omega) (by omega) hg.1 (by omega) (by omega), w64 (by omega) (by omega)]
        omega
    exact ⟨⟨by omega, by omega, key⟩, by omega⟩
  . have h := of_decide_eq_false h
    rw [G7 (by omega)] at h2
    exact h2
theorem B3g (x : A7 J8.args) (hw : awf J8.args x) (_ : J8.pre x) : A1z x := by
  obtain ⟨l, _⟩ := x
  change List Int at l
  simp only [A1z]
  refine ⟨trivial, ?_⟩
  rintro ⟨r, _⟩ _ hr
  simp only at hr ⊢
  subst hr
  refine ⟨fun h => ?_, fun h => ?_⟩
  . have h := of_decide_eq_true h
    have := F9i (k := 2) (n := nv l) (by omega)
    refine ⟨fun h2 => ?_, fun _ => trivial⟩
    rw [show (4294967296 : Nat) ^ 2 = 18446744073709551616 from rfl] at this
    omega
  . have h := of_decide_eq_false h
    have hle : (nc (nv l)).length <= 2 := by omega
    refine ⟨hle, ?_⟩
    rintro ⟨r, _⟩ _ hr
    simp only at hr ⊢
    have hlt := Nat.lt_of_lt_of_le (A7e (nv l)) (Nat.pow_le_pow_right (by decide) hle)
    rw [H2] at hr
    refine ⟨fun _ => ⟨hr, trivial⟩, fun h2 => ?_⟩
    rw [show (4294967296 : Nat) ^ 2 = 18446744073709551616 from rfl] at hlt
    omega
theorem B2d (x : A7 C8.args) (hw : awf C8.args x) (_ : C8.pre x) : A0w x := by
  obtain ⟨a, b, _⟩ := x
  change List Int at a b
  simp only [A0w]
  refine ⟨trivial, ?_⟩
  rintro ⟨r, _⟩ ⟨⟨hla, _⟩, _⟩ hr
  simp only at hr hla ⊢
  subst hr
  refine ⟨trivial, ?_⟩
  rintro ⟨s, _⟩ ⟨⟨hlb, _⟩, _⟩ hs
  simp only at hs hlb ⊢
  subst hs
  have ha := N0 (nv a)
  have hb := N0 (nv b)
  refine ⟨fun hne => ⟨fun h => ?_, fun h => ?_⟩, fun hne => ?_⟩
  . have h := of_decide_eq_true h
    exact (B0x (B9f (by omega))).symm
  . have h := of_decide_eq_false h
    have hne := of_decide_eq_true hne
    exact (D5u (B9f (by omega))).symm
  . have hlen : (nc (nv a)).length = (nc (nv b)).length := by have := of_decide_eq_false hne; omega
    have ea := H2 (nv a)
    have eb := H2 (nv b)
    generalize nc (nv a) = r at *
    generalize nc (nv b) = s at *
    rw [<- ea, <- eb]
    refine ⟨fun p => -1 <= p.1 /\ p.1 < (r.length : Int) /\ r.drop (p.1 + 1).toNat = s.drop (p.1 + 1).toNat, fun p => (p.1 + 1).toNat, ?_, ?_⟩
    . rw [wr (by omega) (by omega)]
      refine ⟨by omega, by omega, ?_⟩
      rw [List.drop_of_length_le (by omega), List.drop_of_length_le (by omega)]
    rintro ⟨i, _⟩ _ ⟨h0, h1, h2⟩
    change Int at i
    simp only at h0 h1 h2 ⊢
    refine ⟨fun h => ?_, fun h => ?_⟩
    . have h := of_decide_eq_true h
      refine ⟨⟨h, h1⟩, ⟨h, by omega⟩, fun hlt => ?_, fun hlt => ⟨⟨h, h1⟩, ⟨h, by omega⟩, fun hgt => ?_, fun hgt => ?_⟩⟩
      . exact (B0x (E4z ha hb hlen h h1 h2 (of_decide_eq_true hlt))).symm
      . exact (D5u (E4z hb ha hlen.symm h (by omega) h2.symm (of_decide_eq_true hgt))).symm
      . have hlt := of_decide_eq_false hlt
        have hgt := of_decide_eq_false hgt
        rw [wr (by omega) (by omega)]
        refine ⟨⟨by omega, by omega, ?_⟩, by omega⟩
        rw [show i - 1 + 1 = i from by omega, T0 h h1, T0 h (by omega), h2, show gx 0 r i = gx 0 s i from by omega]
    . have h := of_decide_eq_false h
      rw [show (i + 1).toNat = 0 from by omega, List.drop_zero, List.drop_zero] at h2
      rw [h2, D9v]
theorem E9b {α : Type} {l : List α} {d : α} : C3z (List.replicate ((l.length : Nat) : Int).toNat d) l = l := by
  unfold C3z
  rw [List.length_replicate, Int.toNat_natCast, List.take_length, List.drop_of_length_le (by simp), List.append_nil]
theorem B9n (x : A7 F6.args) (hw : awf F6.args x) (hp : F6.pre x) : A4e x := by
  obtain ⟨l, _⟩ := x
  have hb : A9 l := A5 hw.1.2
  have hl : l.length <= 35184372088832 := hp
  simp only [A4e]
  refine ⟨trivial, ?_⟩
  rintro ⟨r, _⟩ _ hr
  simp only at hr ⊢
  have h1 : r.length <= l.length := by rw [hr]; exact C5 hb
  refine ⟨⟨by omega, Int.le_refl _, by simp; omega, by omega⟩, ?_⟩
  rw [E9b, hr]
def D1k : An := { join := [(4, ⟨[], [], [(0, false, [.val (.sl (.int .u32))]), (1, false, [.val (.sl (.int .u32))])], [], []⟩), (12, ⟨[0, 1, 5, 7, 24, 25, 26], [0], [(6, false, [.val (.int .u64)])], [], []⟩)], loop := [(7, ⟨[0, 1, 5, 24, 25], [], [(6, false, [.val (.int .u64)]), (26, false, [.val (.int .i64)])], [], [(0, .row (.int .u32) 153)]⟩)] }
def B4w : B6 := [(186, C7)]
def D1z : An := { join := [(12, ⟨[1, 6, 8, 22, 23, 24], [0], [(10, false, [.val (.int .u64)])], [], []⟩)], loop := [(7, ⟨[1, 6, 22, 23], [], [(7, false, [.val (.int .u64)]), (24, false, [.val (.int .i64)])], [], [(0, .row (.int .u32) 153)]⟩)] }
def B4y : B6 := [(172, C8), (186, C7)]
def D1q : An := { join := [(18, ⟨[1, 5, 29, 30, 31], [], [], [], [(0, .row (.int .u32) 153)]⟩)], loop := [(11, ⟨[1, 5, 6, 7, 29, 30, 31, 38, 39], [], [(8, false, [.val (.int .u64)]), (40, false, [.val (.int .i64)])], [], [(0, .row (.int .u32) 153)]⟩), (6, ⟨[1, 5, 29, 30], [], [(31, false, [.val (.int .i64)])], [], [(0, .row (.int .u32) 153)]⟩)] }
def B4r : B6 := [(186, C7)]
def A8d : An := { loop := [(4, ⟨[0, 1, 4], [], [(6, false, [.val (.int .u64)]), (7, false, [.val (.int .i64)])], [], [(0, .row (.int .u32) 153)]⟩)] }
def A0t : B6 := [(180, C4), (186, C7)]
def B0m : An := { join := [(15, ⟨[0, 6, 7, 8, 29, 30, 31], [0], [(10, false, [.val (.int .u64)])], [], []⟩)], loop := [(10, ⟨[0, 6, 7, 29, 30], [], [(31, false, [.val (.int .i64)])], [], [(0, .row (.int .u32) 153)]⟩)] }
def A2v : B6 := [(186, C7)]
def C1a : An := { loop := [(4, ⟨[0, 1, 5, 13, 14], [], [(6, false, [.val (.int .u64)]), (15, false, [.val (.int .i64)])], [], [(0, .row (.int .u32) 153)]⟩)] }
def A5o : B6 := []
def A6h : A7 P6.args -> Prop := fun (x : List Int × List Int × Unit) => True /\ ∀ (r : List Int × Unit), WfU r.1 /\ True -> r.1 = nc (nv x.1) -> True /\ ∀ (b : List Int × Unit), WfU b.1 /\ True -> b.1 = nc (nv x.2.1) -> ∃ (J : List Int × List Int × Unit -> Prop), ((decide ((r.1.length : Int) < (b.1.length : Int)) = true -> J (b.1, r)) /\ (decide ((r.1.length : Int) < (b.1.length : Int)) = false -> J (r.1, b))) /\ ∀ (p : List Int × List Int × Unit), WfU p.1 /\ WfU p.2.1 /\ True -> J p -> ((0 : Int) <= IntKind.i64.wrap ((p.1.length : Int) + (1 : Int)) /\ IntKind.i64.wrap ((p.1.length : Int) + (1 : Int)) <= IntKind.i64.wrap ((p.1.length : Int) + (1 : Int)) /\ (↑(4 : Nat) : Int) * IntKind.i64.wrap ((p.1.length : Int) + (1 : Int)) <= (281474976710656 : Int) /\ IntKind.i64.wrap ((p.1.length : Int) + (1 : Int)) <= (9223372036854775807 : Int)) /\ ∃ (I : Int × Int × List Int × Unit -> Prop), ∃ (μ : Int × Int × List Int × Unit -> Nat), I ((0 : Int), (0 : Int), List.replicate (IntKind.i64.wrap ((p.1.length : Int) + (1 : Int))).toNat (0 : Int), ()) /\ ∀ (a : Int × Int × List Int × Unit), K9 a.1 /\ G2 a.2.1 /\ WfU a.2.2.1 /\ True -> I a -> (decide (a.2.1 < (p.1.length : Int)) = true -> (0 <= a.2.1 /\ a.2.1 < (p.1.length : Int)) /\ ∃ (J : Int × Unit -> Prop), ((decide (a.2.1 < (p.2.1.length : Int)) = true -> (0 <= a.2.1 /\ a.2.1 < (p.2.1.length : Int)) /\ J (IntKind.u64.wrap (IntKind.u64.wrap (a.1 + IntKind.u64.wrap (gx (0 : Int) p.1 a.2.1)) + IntKind.u64.wrap (gx (0 : Int) p.2.1 a.2.1)), ())) /\ (decide (a.2.1 < (p.2.1.length : Int)) = false -> J (IntKind.u64.wrap (a.1 + IntKind.u64.wrap (gx (0 : Int) p.1 a.2.1)), ()))) /\ ∀ (p : Int × Unit), K9 p.1 /\ True -> J p -> (0 <= a.2.1 /\ a.2.1 < (a.2.2.1.length : Int)) /\ (0 : (Ty.int IntKind.u64).den) <= (32 : Int) /\ I (Int.fdiv p.1 ((2 : Int) ^ Min.min (Int.toNat (32 : Int)) IntKind.u64.bits), IntKind.i64.wrap (a.2.1 + 1), List.set a.2.2.1 (Int.toNat a.2.1) (IntKind.u32.wrap p.1), ()) /\ μ (Int.fdiv p.1 ((2 : Int) ^ Min.min (Int.toNat (32 : Int)) IntKind.u64.bits), IntKind.i64.wrap (a.2.1 + 1), List.set a.2.2.1 (Int.toNat a.2.1) (IntKind.u32.wrap p.1), ()) < μ a) /\ (decide (a.2.1 < (p.1.length : Int)) = false -> ((0 : Int) <= (p.1.length : Int) /\ (p.1.length : Int) < (a.2.2.1.length : Int)) /\ True /\ ∀ (r : List Int × Unit), WfU r.1 /\ True -> r.1 = nc (nv (List.set a.2.2.1 (p.1.length : Int).toNat (IntKind.u32.wrap a.1))) -> r.1 = nc (nv x.1 + nv x.2.1))
theorem C2p (x : A7 P6.args) : K8 Tryz.prog tys B4w D1k P6 Tryz.f211 x = A6h x := by kernel_rfl
def A6c : A7 N3.args -> Prop := fun (x : List Int × List Int × Unit) => True /\ ∀ (r : List Int × Unit), WfU r.1 /\ True -> r.1 = nc (nv x.1) -> True /\ ∀ (a : List Int × Unit), WfU a.1 /\ True -> a.1 = nc (nv x.2.1) -> True /\ ∀ (c : Int × Unit), G2 c.1 /\ True -> c.1 = B7b (nv r.1) (nv a.1) -> (decide (c.1 < 0) = true -> (nv x.1 < nv x.2.1 -> E0m Int = [] /\ false = false) /\ (nv x.2.1 <= nv x.1 -> E0m Int = nc (nv x.1 - nv x.2.1) /\ false = true)) /\ (decide (c.1 < 0) = false -> ((0 : Int) <= (r.1.length : Int) /\ (r.1.length : Int) <= (r.1.length : Int) /\ (↑(4 : Nat) : Int) * (r.1.length : Int) <= (281474976710656 : Int) /\ (r.1.length : Int) <= (9223372036854775807 : Int)) /\ ∃ (I : Int × Int × List Int × Unit -> Prop), ∃ (μ : Int × Int × List Int × Unit -> Nat), I ((0 : Int), (0 : Int), List.replicate (r.1.length : Int).toNat (0 : Int), ()) /\ ∀ (p : Int × Int × List Int × Unit), K9 p.1 /\ G2 p.2.1 /\ WfU p.2.2.1 /\ True -> I p -> (decide (p.2.1 < (r.1.length : Int)) = true -> (0 <= p.2.1 /\ p.2.1 < (r.1.length : Int)) /\ ∃ (J : Int × Unit -> Prop), ((decide (p.2.1 < (a.1.length : Int)) = true -> (0 <= p.2.1 /\ p.2.1 < (a.1.length : Int)) /\ J (IntKind.u64.wrap (IntKind.u64.wrap (IntKind.u64.wrap (gx (0 : Int) r.1 p.2.1) - p.1) - IntKind.u64.wrap (gx (0 : Int) a.1 p.2.1)), ())) /\ (decide (p.2.1 < (a.1.length : Int)) = false -> J (IntKind.u64.wrap (IntKind.u64.wrap (gx (0 : Int) r.1 p.2.1) - p.1), ()))) /\ ∀ (b : Int × Unit), K9 b.1 /\ True -> J b -> (0 <= p.2.1 /\ p.2.1 < (p.2.2.1.length : Int)) /\ (0 : (Ty.int IntKind.u64).den) <= (63 : Int) /\ I (Int.fdiv b.1 ((2 : Int) ^ Min.min (Int.toNat (63 : Int)) IntKind.u64.bits), IntKind.i64.wrap (p.2.1 + 1), List.set p.2.2.1 (Int.toNat p.2.1) (IntKind.u32.wrap b.1), ()) /\ μ (Int.fdiv b.1 ((2 : Int) ^ Min.min (Int.toNat (63 : Int)) IntKind.u64.bits), IntKind.i64.wrap (p.2.1 + 1), List.set p.2.2.1 (Int.toNat p.2.1) (IntKind.u32.wrap b.1), ()) < μ p) /\ (decide (p.2.1 < (r.1.length : Int)) = false -> True /\ ∀ (r : List Int × Unit), WfU r.1 /\ True -> r.1 = nc (nv p.2.2.1) -> (nv x.1 < nv x.2.1 -> r.1 = [] /\ true = false) /\ (nv x.2.1 <= nv x.1 -> r.1 = nc (nv x.1 - nv x.2.1) /\ true = true)))
theorem C1z (x : A7 N3.args) : K8 Tryz.prog tys B4y D1z N3 Tryz.f212 x = A6c x := by kernel_rfl
def A6l : A7 J3.args -> Prop := fun (x : List Int × List Int × Unit) => True /\ ∀ (r : List Int × Unit), WfU r.1 /\ True -> r.1 = nc (nv x.1) -> True /\ ∀ (b : List Int × Unit), WfU b.1 /\ True -> b.1 = nc (nv x.2.1) -> (sel (decide ((r.1.length : Int) = (0 : Int))) true (decide ((b.1.length : Int) = (0 : Int))) = true -> E0m Int = nc (nv x.1 * nv x.2.1)) /\ (sel (decide ((r.1.length : Int) = (0 : Int))) true (decide ((b.1.length : Int) = (0 : Int))) = false -> ((0 : Int) <= IntKind.i64.wrap ((r.1.length : Int) + (b.1.length : Int)) /\ IntKind.i64.wrap ((r.1.length : Int) + (b.1.length : Int)) <= IntKind.i64.wrap ((r.1.length : Int) + (b.1.length : Int)) /\ (↑(4 : Nat) : Int) * IntKind.i64.wrap ((r.1.length : Int) + (b.1.length : Int)) <= (281474976710656 : Int) /\ IntKind.i64.wrap ((r.1.length : Int) + (b.1.length : Int)) <= (9223372036854775807 : Int)) /\ ∃ (I : Int × List Int × Unit -> Prop), ∃ (μ : Int × List Int × Unit -> Nat), I ((0 : Int), List.replicate (IntKind.i64.wrap ((r.1.length : Int) + (b.1.length : Int))).toNat (0 : Int), ()) /\ ∀ (p : Int × List Int × Unit), G2 p.1 /\ WfU p.2.1 /\ True -> I p -> (decide (p.1 < (r.1.length : Int)) = true -> ∃ (J : List Int × Unit -> Prop), ((0 <= p.1 /\ p.1 < (r.1.length : Int)) /\ (decide (gx (0 : Int) r.1 p.1 = 0) = true -> J (p.2.1, ())) /\ (decide (gx (0 : Int) r.1 p.1 = 0) = false -> ∃ (I : Int × Int × List Int × Unit -> Prop), ∃ (μ : Int × Int × List Int × Unit -> Nat), I ((0 : Int), (0 : Int), p.2.1, ()) /\ ∀ (a : Int × Int × List Int × Unit), K9 a.1 /\ G2 a.2.1 /\ WfU a.2.2.1 /\ True -> I a -> (decide (a.2.1 < (b.1.length : Int)) = true -> (0 <= a.2.1 /\ a.2.1 < (b.1.length : Int)) /\ ((0 : Int) <= IntKind.i64.wrap (p.1 + a.2.1) /\ IntKind.i64.wrap (p.1 + a.2.1) < (a.2.2.1.length : Int)) /\ ((0 : Int) <= IntKind.i64.wrap (p.1 + a.2.1) /\ IntKind.i64.wrap (p.1 + a.2.1) < (a.2.2.1.length : Int)) /\ (0 : (Ty.int IntKind.u64).den) <= (32 : Int) /\ I ((IntKind.u64.wrap (a.1 + IntKind.u64.wrap (IntKind.u64.wrap (IntKind.u64.wrap (gx (0 : Int) r.1 p.1) * IntKind.u64.wrap (gx (0 : Int) b.1 a.2.1)) + IntKind.u64.wrap (List.getD a.2.2.1 (IntKind.i64.wrap (p.1 + a.2.1)).toNat (0 : Int))))).fdiv ((2 : Int) ^ Min.min (Int.toNat (32 : Int)) IntKind.u64.bits), IntKind.i64.wrap (a.2.1 + 1), List.set a.2.2.1 (IntKind.i64.wrap (p.1 + a.2.1)).toNat (IntKind.u32.wrap (IntKind.u64.wrap (a.1 + IntKind.u64.wrap (IntKind.u64.wrap (IntKind.u64.wrap (gx (0 : Int) r.1 p.1) * IntKind.u64.wrap (gx (0 : Int) b.1 a.2.1)) + IntKind.u64.wrap (List.getD a.2.2.1 (IntKind.i64.wrap (p.1 + a.2.1)).toNat (0 : Int)))))), ()) /\ μ ((IntKind.u64.wrap (a.1 + IntKind.u64.wrap (IntKind.u64.wrap (IntKind.u64.wrap (gx (0 : Int) r.1 p.1) * IntKind.u64.wrap (gx (0 : Int) b.1 a.2.1)) + IntKind.u64.wrap (List.getD a.2.2.1 (IntKind.i64.wrap (p.1 + a.2.1)).toNat (0 : Int))))).fdiv ((2 : Int) ^ Min.min (Int.toNat (32 : Int)) IntKind.u64.bits), IntKind.i64.wrap (a.2.1 + 1), List.set a.2.2.1 (IntKind.i64.wrap (p.1 + a.2.1)).toNat (IntKind.u32.wrap (IntKind.u64.wrap (a.1 + IntKind.u64.wrap (IntKind.u64.wrap (IntKind.u64.wrap (gx (0 : Int) r.1 p.1) * IntKind.u64.wrap (gx (0 : Int) b.1 a.2.1)) + IntKind.u64.wrap (List.getD a.2.2.1 (IntKind.i64.wrap (p.1 + a.2.1)).toNat (0 : Int)))))), ()) < μ a) /\ (decide (a.2.1 < (b.1.length : Int)) = false -> ((0 : Int) <= IntKind.i64.wrap (p.1 + (b.1.length : Int)) /\ IntKind.i64.wrap (p.1 + (b.1.length : Int)) < (a.2.2.1.length : Int)) /\ J (List.set a.2.2.1 (IntKind.i64.wrap (p.1 + (b.1.length : Int))).toNat (IntKind.u32.wrap a.1), ())))) /\ ∀ (a : List Int × Unit), WfU a.1 /\ True -> J a -> I (IntKind.i64.wrap (p.1 + 1), a) /\ μ (IntKind.i64.wrap (p.1 + 1), a) < μ p) /\ (decide (p.1 < (r.1.length : Int)) = false -> True /\ ∀ (r : List Int × Unit), WfU r.1 /\ True -> r.1 = nc (nv p.2.1) -> r.1 = nc (nv x.1 * nv x.2.1)))
theorem C2w (x : A7 J3.args) : K8 Tryz.prog tys B4r D1q J3 Tryz.f142 x = A6l x := by kernel_rfl
def T4 : A7 D7.args -> Prop := fun (x : List Int × Int × Unit) => ((0 : Int) <= (x.1.length : Int) /\ (x.1.length : Int) <= (x.1.length : Int) /\ (↑(4 : Nat) : Int) * (x.1.length : Int) <= (281474976710656 : Int) /\ (x.1.length : Int) <= (9223372036854775807 : Int)) /\ ∃ (I : Int × Int × List Int × Unit -> Prop), ∃ (μ : Int × Int × List Int × Unit -> Nat), I ((0 : Int), IntKind.i64.wrap ((x.1.length : Int) - (1 : Int)), List.replicate (x.1.length : Int).toNat (0 : Int), ()) /\ ∀ (p : Int × Int × List Int × Unit), K9 p.1 /\ G2 p.2.1 /\ WfU p.2.2.1 /\ True -> I p -> (decide (0 <= p.2.1) = true -> (0 : (Ty.int IntKind.u64).den) <= (32 : Int) /\ (0 <= p.2.1 /\ p.2.1 < (x.1.length : Int)) /\ IntKind.u64.wrap x.2.1 ≠ 0 /\ (0 <= p.2.1 /\ p.2.1 < (p.2.2.1.length : Int)) /\ IntKind.u64.wrap x.2.1 ≠ 0 /\ I ((IntKind.u64.wrap (↑(BitVec.ofInt IntKind.u64.bits (IntKind.u64.wrap (p.1 * 2 ^ Min.min (Int.toNat (32 : Int)) IntKind.u64.bits)) ||| BitVec.ofInt IntKind.u64.bits (IntKind.u64.wrap (gx (0 : Int) x.1 p.2.1))).toNat : Int)).tmod (IntKind.u64.wrap x.2.1), IntKind.i64.wrap (p.2.1 - 1), List.set p.2.2.1 (Int.toNat p.2.1) (IntKind.u32.wrap (IntKind.u64.wrap ((IntKind.u64.wrap (↑(BitVec.ofInt IntKind.u64.bits (IntKind.u64.wrap (p.1 * 2 ^ Min.min (Int.toNat (32 : Int)) IntKind.u64.bits)) ||| BitVec.ofInt IntKind.u64.bits (IntKind.u64.wrap (gx (0 : Int) x.1 p.2.1))).toNat : Int)).tdiv (IntKind.u64.wrap x.2.1)))), ()) /\ μ ((IntKind.u64.wrap (↑(BitVec.ofInt IntKind.u64.bits (IntKind.u64.wrap (p.1 * 2 ^ Min.min (Int.toNat (32 : Int)) IntKind.u64.bits)) ||| BitVec.ofInt IntKind.u64.bits (IntKind.u64.wrap (gx (0 : Int) x.1 p.2.1))).toNat : Int)).tmod (IntKind.u64.wrap x.2.1), IntKind.i64.wrap (p.2.1 - 1), List.set p.2.2.1 (Int.toNat p.2.1) (IntKind.u32.wrap (IntKind.u64.wrap ((IntKind.u64.wrap (↑(BitVec.ofInt IntKind.u64.bits (IntKind.u64.wrap (p.1 * 2 ^ Min.min (Int.toNat (32 : Int)) IntKind.u64.bits)) ||| BitVec.ofInt IntKind.u64.bits (IntKind.u64.wrap (gx (0 : Int) x.1 p.2.1))).toNat : Int)).tdiv (IntKind.u64.wrap x.2.1)))), ()) < μ p) /\ (decide (0 <= p.2.1) = false -> True /\ ∀ (r : List Int × Unit), WfU r.1 /\ True -> r.1 = nc (nv p.2.2.1) -> True /\ ∀ (a : List Int × Unit), WfU a.1 /\ True -> a.1 = nc (Int.toNat p.1) -> r.1 = nc (nv x.1 / x.2.1.toNat) /\ a.1 = nc (nv x.1 % x.2.1.toNat))
theorem A5d (x : A7 D7.args) : K8 Tryz.prog tys A0t A8d D7 Tryz.f222 x = T4 x := by kernel_rfl
def U8 : A7 E9.args -> Prop := fun (x : List Int × Int × Unit) => (decide (x.2.1 < 0) = true -> (x.2.1 < 0 -> E0m Int = [] /\ false = false) /\ (0 <= x.2.1 -> E0m Int = nc (nv x.1 / (2 : Nat) ^ x.2.1.toNat) /\ false = true)) /\ (decide (x.2.1 < 0) = false -> True /\ ∀ (r : List Int × Unit), WfU r.1 /\ True -> r.1 = nc (nv x.1) -> (32 : Int) ≠ (0 : Int) /\ (decide ((r.1.length : Int) <= IntKind.i64.wrap (Int.tdiv x.2.1 (32 : Int))) = true -> (x.2.1 < 0 -> E0m Int = [] /\ true = false) /\ (0 <= x.2.1 -> E0m Int = nc (nv x.1 / (2 : Nat) ^ x.2.1.toNat) /\ true = true)) /\ (decide ((r.1.length : Int) <= IntKind.i64.wrap (Int.tdiv x.2.1 (32 : Int))) = false -> (32 : Int) ≠ (0 : Int) /\ ((0 : Int) <= IntKind.i64.wrap (Int.tdiv x.2.1 (32 : Int)) /\ IntKind.i64.wrap (Int.tdiv x.2.1 (32 : Int)) <= (r.1.length : Int) /\ (r.1.length : Int) <= (r.1.length : Int)) /\ (32 : Int) ≠ (0 : Int) /\ ((0 : Int) <= (↑(List.drop (IntKind.i64.wrap (Int.tdiv x.2.1 (32 : Int))).toNat (List.take (r.1.length : Int).toNat r.1)).length : Int) /\ (↑(List.drop (IntKind.i64.wrap (Int.tdiv x.2.1 (32 : Int))).toNat (List.take (r.1.length : Int).toNat r.1)).length : Int) <= (↑(List.drop (IntKind.i64.wrap (Int.tdiv x.2.1 (32 : Int))).toNat (List.take (r.1.length : Int).toNat r.1)).length : Int) /\ (↑(4 : Nat) : Int) * (↑(List.drop (IntKind.i64.wrap (Int.tdiv x.2.1 (32 : Int))).toNat (List.take (r.1.length : Int).toNat r.1)).length : Int) <= (281474976710656 : Int) /\ (↑(List.drop (IntKind.i64.wrap (Int.tdiv x.2.1 (32 : Int))).toNat (List.take (r.1.length : Int).toNat r.1)).length : Int) <= (9223372036854775807 : Int)) /\ ∃ (I : Int × List Int × Unit -> Prop), ∃ (μ : Int × List Int × Unit -> Nat), I ((0 : Int), List.replicate (↑(List.drop (IntKind.i64.wrap (Int.tdiv x.2.1 (32 : Int))).toNat (List.take (r.1.length : Int).toNat r.1)).length : Int).toNat (0 : Int), ()) /\ ∀ (p : Int × List Int × Unit), G2 p.1 /\ WfU p.2.1 /\ True -> I p -> (decide (p.1 < (↑(List.drop (IntKind.i64.wrap (Int.tdiv x.2.1 (32 : Int))).toNat (List.take (r.1.length : Int).toNat r.1)).length : Int)) = true -> (0 <= p.1 /\ p.1 < (↑(List.drop (IntKind.i64.wrap (Int.tdiv x.2.1 (32 : Int))).toNat (List.take (r.1.length : Int).toNat r.1)).length : Int)) /\ ∃ (J : Int × Unit -> Prop), ((decide (IntKind.i64.wrap (p.1 + 1) < (↑(List.drop (IntKind.i64.wrap (Int.tdiv x.2.1 (32 : Int))).toNat (List.take (r.1.length : Int).toNat r.1)).length : Int)) = true -> ((0 : Int) <= IntKind.i64.wrap (p.1 + 1) /\ IntKind.i64.wrap (p.1 + 1) < (↑(List.drop (IntKind.i64.wrap (Int.tdiv x.2.1 (32 : Int))).toNat (List.take (r.1.length : Int).toNat r.1)).length : Int)) /\ (0 : (Ty.int IntKind.u64).den) <= (32 : Int) /\ J (IntKind.u64.wrap (↑(BitVec.ofInt IntKind.u64.bits (IntKind.u64.wrap (gx (0 : Int) (List.drop (IntKind.i64.wrap (Int.tdiv x.2.1 (32 : Int))).toNat (List.take (r.1.length : Int).toNat r.1)) p.1)) ||| BitVec.ofInt IntKind.u64.bits (IntKind.u64.wrap (IntKind.u64.wrap (gx (0 : Int) (List.drop (IntKind.i64.wrap (Int.tdiv x.2.1 (32 : Int))).toNat (List.take (r.1.length : Int).toNat r.1)) (IntKind.i64.wrap (p.1 + 1))) * (2 : Int) ^ Min.min (Int.toNat (32 : Int)) IntKind.u64.bits))).toNat : Int), ())) /\ (decide (IntKind.i64.wrap (p.1 + 1) < (↑(List.drop (IntKind.i64.wrap (Int.tdiv x.2.1 (32 : Int))).toNat (List.take (r.1.length : Int).toNat r.1)).length : Int)) = false -> J (IntKind.u64.wrap (gx (0 : Int) (List.drop (IntKind.i64.wrap (Int.tdiv x.2.1 (32 : Int))).toNat (List.take (r.1.length : Int).toNat r.1)) p.1), ()))) /\ ∀ (a : Int × Unit), K9 a.1 /\ True -> J a -> (0 : (Ty.int IntKind.i64).den) <= Int.tmod x.2.1 (32 : Int) /\ (0 <= p.1 /\ p.1 < (p.2.1.length : Int)) /\ I (IntKind.i64.wrap (p.1 + 1), List.set p.2.1 (Int.toNat p.1) (IntKind.u32.wrap (Int.fdiv a.1 ((2 : Int) ^ Min.min (Int.tmod x.2.1 (32 : Int)).toNat IntKind.u64.bits))), ()) /\ μ (IntKind.i64.wrap (p.1 + 1), List.set p.2.1 (Int.toNat p.1) (IntKind.u32.wrap (Int.fdiv a.1 ((2 : Int) ^ Min.min (Int.tmod x.2.1 (32 : Int)).toNat IntKind.u64.bits))), ()) < μ p) /\ (decide (p.1 < (↑(List.drop (IntKind.i64.wrap (Int.tdiv x.2.1 (32 : Int))).toNat (List.take (r.1.length : Int).toNat r.1)).length : Int)) = false -> True /\ ∀ (r : List Int × Unit), WfU r.1 /\ True -> r.1 = nc (nv p.2.1) -> (x.2.1 < 0 -> r.1 = [] /\ true = false) /\ (0 <= x.2.1 -> r.1 = nc (nv x.1 / (2 : Nat) ^ x.2.1.toNat) /\ true = true))))
theorem A7t (x : A7 E9.args) : K8 Tryz.prog tys A2v B0m E9 Tryz.f242 x = U8 x := by kernel_rfl
def A0n : A7 I6.args -> Prop := fun (x : List Int × Int × Unit) => ((0 : Int) <= IntKind.i64.wrap ((x.1.length : Int) + (1 : Int)) /\ IntKind.i64.wrap ((x.1.length : Int) + (1 : Int)) <= IntKind.i64.wrap ((x.1.length : Int) + (1 : Int)) /\ (↑(4 : Nat) : Int) * IntKind.i64.wrap ((x.1.length : Int) + (1 : Int)) <= (281474976710656 : Int) /\ IntKind.i64.wrap ((x.1.length : Int) + (1 : Int)) <= (9223372036854775807 : Int)) /\ ∃ (I : Int × Int × List Int × Unit -> Prop), ∃ (μ : Int × Int × List Int × Unit -> Nat), I ((0 : Int), (0 : Int), List.replicate (IntKind.i64.wrap ((x.1.length : Int) + (1 : Int))).toNat (0 : Int), ()) /\ ∀ (p : Int × Int × List Int × Unit), K9 p.1 /\ G2 p.2.1 /\ WfU p.2.2.1 /\ True -> I p -> (decide (p.2.1 < (x.1.length : Int)) = true -> (0 <= p.2.1 /\ p.2.1 < (x.1.length : Int)) /\ (0 : (Ty.int IntKind.i64).den) <= x.2.1 /\ (0 <= p.2.1 /\ p.2.1 < (p.2.2.1.length : Int)) /\ (0 : (Ty.int IntKind.u64).den) <= (32 : Int) /\ I ((IntKind.u64.wrap (↑(BitVec.ofInt IntKind.u64.bits p.1 ||| BitVec.ofInt IntKind.u64.bits (IntKind.u64.wrap (IntKind.u64.wrap (gx (0 : Int) x.1 p.2.1) * (2 : Int) ^ Min.min (Int.toNat x.2.1) IntKind.u64.bits))).toNat : Int)).fdiv ((2 : Int) ^ Min.min (Int.toNat (32 : Int)) IntKind.u64.bits), IntKind.i64.wrap (p.2.1 + 1), List.set p.2.2.1 (Int.toNat p.2.1) (IntKind.u32.wrap (IntKind.u64.wrap (↑(BitVec.ofInt IntKind.u64.bits p.1 ||| BitVec.ofInt IntKind.u64.bits (IntKind.u64.wrap (IntKind.u64.wrap (gx (0 : Int) x.1 p.2.1) * (2 : Int) ^ Min.min (Int.toNat x.2.1) IntKind.u64.bits))).toNat : Int))), ()) /\ μ ((IntKind.u64.wrap (↑(BitVec.ofInt IntKind.u64.bits p.1 ||| BitVec.ofInt IntKind.u64.bits (IntKind.u64.wrap (IntKind.u64.wrap (gx (0 : Int) x.1 p.2.1) * (2 : Int) ^ Min.min (Int.toNat x.2.1) IntKind.u64.bits))).toNat : Int)).fdiv ((2 : Int) ^ Min.min (Int.toNat (32 : Int)) IntKind.u64.bits), IntKind.i64.wrap (p.2.1 + 1), List.set p.2.2.1 (Int.toNat p.2.1) (IntKind.u32.wrap (IntKind.u64.wrap (↑(BitVec.ofInt IntKind.u64.bits p.1 ||| BitVec.ofInt IntKind.u64.bits (IntKind.u64.wrap (IntKind.u64.wrap (gx (0 : Int) x.1 p.2.1) * (2 : Int) ^ Min.min (Int.toNat x.2.1) IntKind.u64.bits))).toNat : Int))), ()) < μ p) /\ (decide (p.2.1 < (x.1.length : Int)) = false -> ((0 : Int) <= (x.1.length : Int) /\ (x.1.length : Int) < (p.2.2.1.length : Int)) /\ (List.set p.2.2.1 (x.1.length : Int).toNat (IntKind.u32.wrap p.1)).length = x.1.length + (1 : Nat) /\ nv (List.set p.2.2.1 (x.1.length : Int).toNat (IntKind.u32.wrap p.1)) = nv x.1 * 2 ^ x.2.1.toNat)
theorem B1l (x : A7 I6.args) : K8 Tryz.prog tys A5o C1a I6 Tryz.f240 x = A0n x := by kernel_rfl
theorem F0l (v : Int) (_ : 0 <= v) : Int.fdiv v (2 ^ Min.min (Int.toNat 32) IntKind.u64.bits) = v / 4294967296 := by
  rw [show Min.min (Int.toNat 32) IntKind.u64.bits = 32 from rfl, Int.fdiv_eq_ediv_of_nonneg _ (by decide)]; rfl
theorem G1c (v : Int) (_ : 0 <= v) : Int.fdiv v (2 ^ Min.min (Int.toNat 63) IntKind.u64.bits) = v / 9223372036854775808 := by
  rw [show Min.min (Int.toNat 63) IntKind.u64.bits = 63 from rfl, Int.fdiv_eq_ediv_of_nonneg _ (by decide)]; rfl
theorem C9x {v b : Int} {k : Nat} (v0 : 0 <= v) (v1 : v < 2 ^ k) (b0 : 0 <= b) (hb : b * 2 ^ k < 18446744073709551616) (hv : v < 18446744073709551616) : (((BitVec.ofInt 64 (b * 2 ^ k) ||| BitVec.ofInt 64 v).toNat : Nat) : Int) = v + b * 2 ^ k := by
  rw [BitVec.or_comm]; exact E0g v0 v1 b0 hb hv
theorem C2o (x : A7 P6.args) (hw : awf P6.args x) (hp : P6.pre x) : A6h x := by
  obtain ⟨a, b, _⟩ := x
  have ha : A9 a := A5 hw.1.2
  have hb : A9 b := A5 hw.2.1.2
  change List Int at a b
  obtain ⟨la, lb⟩ : a.length <= 17592186044416 /\ b.length <= 17592186044416 := hp
  have n1 := C5 ha
  have n2 := C5 hb
  simp only [A6h]
  refine ⟨trivial, ?_⟩
  rintro ⟨r, _⟩ _ hr
  refine ⟨trivial, ?_⟩
  rintro ⟨s, _⟩ _ hs
  simp only at hr hs ⊢
  subst hr hs
  refine ⟨fun p => p.2.1.length <= p.1.length /\ p.1.length <= 17592186044416 /\ nv p.1 + nv p.2.1 = nv a + nv b, ⟨fun h => ?_, fun h => ?_⟩, ?_⟩
  . have h := of_decide_eq_true h
    refine ⟨by show (nc (nv a)).length <= (nc (nv b)).length; omega, by show (nc (nv b)).length <= _; omega, ?_⟩
    show nv (nc (nv b)) + nv (nc (nv a)) = _
    rw [H2, H2, Nat.add_comm]
  . have h := of_decide_eq_false h
    refine ⟨by show (nc (nv b)).length <= (nc (nv a)).length; omega, by show (nc (nv a)).length <= _; omega, ?_⟩
    show nv (nc (nv a)) + nv (nc (nv b)) = _
    rw [H2, H2]
  rintro ⟨P, Q, _⟩ ⟨hwP, hwQ, _⟩ ⟨g1, g2, g3⟩
  change List Int at P Q
  simp only at g1 g2 g3 ⊢
  have hP : A9 P := A5 hwP.2
  have hQ : A9 Q := A5 hwQ.2
  rw [wr (a := (P.length : Int) + 1) (by omega) (by omega)]
  refine ⟨⟨by omega, Int.le_refl _, by simp; omega, by omega⟩, ?_⟩
  refine ⟨fun p => 0 <= p.2.1 /\ p.2.1 <= (P.length : Int) /\ 0 <= p.1 /\ p.1 <= 1 /\ p.2.2.1.length = P.length + 1 /\ nv (p.2.2.1.take p.2.1.toNat) + 4294967296 ^ p.2.1.toNat * p.1.toNat = nv (P.take p.2.1.toNat) + nv (Q.take p.2.1.toNat), fun p => ((P.length : Int) - p.2.1).toNat, ⟨Int.le_refl _, Int.natCast_nonneg _, Int.le_refl _, by show (0 : Int) <= 1; omega, by rw [List.length_replicate]; omega, by simp [nv]⟩, ?_⟩
  rintro ⟨c, i, out, _⟩ ⟨_, _, hwo, _⟩ ⟨h0, h1, h2, h3, h4, h5⟩
  change Int at c i
  change List Int at out
  simp only at h0 h1 h2 h3 h4 h5 ⊢
  have dP := R9 hP i.toNat
  have dQ := R9 hQ i.toNat
  refine ⟨fun h' => ?_, fun h' => ?_⟩
  . have h : i < (P.length : Int) := of_decide_eq_true h'
    rw [A7d hP h0 h, w64 (a := (dg P i.toNat : Int)) (by omega) (by omega), w64 (a := c + (dg P i.toNat : Int)) (by omega) (by omega)]
    refine ⟨⟨h0, h⟩, fun p => p.1 = c + (dg P i.toNat : Int) + (dg Q i.toNat : Int), ⟨fun hi => ?_, fun hi => ?_⟩, ?_⟩
    . have hi := of_decide_eq_true hi
      refine ⟨⟨h0, hi⟩, ?_⟩
      show IntKind.u64.wrap _ = _
      rw [A7d hQ h0 hi, w64 (a := (dg Q i.toNat : Int)) (by omega) (by omega), w64 (by omega) (by omega)]
    . have hi := of_decide_eq_false hi
      show c + (dg P i.toNat : Int) = _
      rw [B4o (l := Q) (by omega)]; omega
    rintro ⟨c2, _⟩ _ hc2
    change Int at c2
    simp only at hc2 ⊢
    subst hc2
    refine ⟨⟨h0, by omega⟩, by decide, ?_⟩
    rw [F0l _ (by omega), wr (by omega) (by omega), A1a]
    refine ⟨⟨by omega, by omega, by omega, by omega, by rw [List.length_set]; exact h4, ?_⟩, by omega⟩
    rw [show (i + 1).toNat = i.toNat + 1 from by omega, P3 (by omega), J4 P, J4 Q, Nat.pow_succ]
    exact E0l h5 (by omega)
  . have h := of_decide_eq_false h'
    refine ⟨⟨by omega, by omega⟩, trivial, ?_⟩
    rintro ⟨r, _⟩ _ hr
    simp only at hr ⊢
    rw [hr]
    congr 1
    rw [show i.toNat = P.length from by omega, List.take_of_length_le (Nat.le_refl P.length), List.take_of_length_le g1] at h5
    rw [Int.toNat_natCast, w32 (by omega) (by omega)]
    have e := P3 (l := out) (i := P.length) (v := c) (by omega)
    rw [List.take_of_length_le (by rw [List.length_set]; omega)] at e
    rw [e, h5, g3]
theorem C2t (x : A7 N3.args) (hw : awf N3.args x) (hp : N3.pre x) : A6c x := by
  obtain ⟨a, b, _⟩ := x
  have ha : A9 a := A5 hw.1.2
  have hb : A9 b := A5 hw.2.1.2
  change List Int at a b
  obtain ⟨la, lb⟩ : a.length <= 17592186044416 /\ b.length <= 17592186044416 := hp
  have n1 := C5 ha
  have n2 := C5 hb
  simp only [A6c]
  refine ⟨trivial, ?_⟩
  rintro ⟨r, _⟩ _ hr
  refine ⟨trivial, ?_⟩
  rintro ⟨s, _⟩ _ hs
  refine ⟨trivial, ?_⟩
  rintro ⟨d, _⟩ _ hd
  simp only at hr hs hd ⊢
  rw [hr, hs, H2, H2] at hd
  subst hd
  refine ⟨fun h => ?_, fun h => ?_⟩
  . have h := of_decide_eq_true h
    refine ⟨fun _ => ⟨by trivial, by trivial⟩, fun hge => ?_⟩
    unfold B7b at h
    rw [if_neg (by omega)] at h
    split at h <;> omega
  . have h := of_decide_eq_false h
    have hge : nv b <= nv a := by
      rcases Nat.lt_or_ge (nv a) (nv b) with h1 | h1
      . rw [B0x h1] at h; omega
      . exact h1
    have hra : A9 r := hr ▸ N0 _
    have hsb : A9 s := hs ▸ N0 _
    have hrv : nv r = nv a := by rw [hr, H2]
    have hsv : nv s = nv b := by rw [hs, H2]
    have hrl : r.length <= a.length := by rw [hr]; exact n1
    have hsr : s.length <= r.length := by rw [hr, hs]; exact M5 hge
    rw [<- hrv, <- hsv] at hge ⊢
    clear hr hs hrv hsv
    refine ⟨⟨by omega, Int.le_refl _, by simp; omega, by omega⟩, ?_⟩
    refine ⟨fun p => 0 <= p.2.1 /\ p.2.1 <= (r.length : Int) /\ 0 <= p.1 /\ p.1 <= 1 /\ p.2.2.1.length = r.length /\ nv (r.take p.2.1.toNat) + 4294967296 ^ p.2.1.toNat * p.1.toNat = nv (p.2.2.1.take p.2.1.toNat) + nv (s.take p.2.1.toNat), fun p => ((r.length : Int) - p.2.1).toNat, ⟨Int.le_refl _, Int.natCast_nonneg _, Int.le_refl _, by show (0 : Int) <= 1; omega, by simp, by simp [nv]⟩, ?_⟩
    rintro ⟨c, i, out, _⟩ ⟨_, _, hwo, _⟩ ⟨h0, h1, h2, h3, h4, h5⟩
    change Int at c i
    change List Int at out
    simp only at h0 h1 h2 h3 h4 h5 ⊢
    have ho : A9 out := A5 hwo.2
    have da := R9 hra i.toNat
    have db := R9 hsb i.toNat
    refine ⟨fun h' => ?_, fun h' => ?_⟩
    . have h : i < (r.length : Int) := of_decide_eq_true h'
      rw [A7d hra h0 h, w64 (a := (dg r i.toNat : Int)) (by omega) (by omega)]
      refine ⟨⟨h0, h⟩, fun p => p.1 = ((dg r i.toNat : Int) - c - (dg s i.toNat : Int)) % 18446744073709551616, ⟨fun hi => ?_, fun hi => ?_⟩, ?_⟩
      . have hi := of_decide_eq_true hi
        refine ⟨⟨h0, hi⟩, ?_⟩
        show IntKind.u64.wrap _ = _
        rw [A7d hsb h0 hi, w64 (a := (dg s i.toNat : Int)) (by omega) (by omega), A0z, A0z]
        omega
      . have hi := of_decide_eq_false hi
        show IntKind.u64.wrap _ = _
        rw [B4o (l := s) (by omega), A0z]; omega
      rintro ⟨d, _⟩ _ hd
      change Int at d
      simp only at hd ⊢
      refine ⟨⟨h0, by omega⟩, by decide, ?_⟩
      rw [G1c _ (by omega), wr (by omega) (by omega), A1a]
      refine ⟨⟨by omega, by omega, by omega, by omega, by rw [List.length_set]; exact h4, ?_⟩, by omega⟩
      rw [show (i + 1).toNat = i.toNat + 1 from by omega, P3 (by omega), J4 r, J4 s, Nat.pow_succ]
      exact D5a h5 (by omega)
    . have h := of_decide_eq_false h'
      refine ⟨trivial, ?_⟩
      rintro ⟨q, _⟩ _ hq
      simp only at hq ⊢
      refine ⟨fun hlt => by omega, fun _ => ⟨?_, by trivial⟩⟩
      rw [hq]
      congr 1
      rw [show i.toNat = r.length from by omega, List.take_of_length_le (Nat.le_refl _), List.take_of_length_le (by omega), List.take_of_length_le hsr] at h5
      have hol : nv out < 4294967296 ^ out.length := A8p ho
      rw [h4] at hol
      have hc : c.toNat = 0 := C3h (P := 4294967296 ^ r.length) (x := nv out) (by omega) hol
      rw [hc, Nat.mul_zero, Nat.add_zero] at h5
      omega
theorem C2m (x : A7 J3.args) (hw : awf J3.args x) (hp : J3.pre x) : A6l x := by
  obtain ⟨a0, b0, _⟩ := x
  have ha0 : A9 a0 := A5 hw.1.2
  have hb0 : A9 b0 := A5 hw.2.1.2
  change List Int at a0 b0
  obtain ⟨la0, lb0⟩ : a0.length <= 17592186044416 /\ b0.length <= 17592186044416 := hp
  have n1 := C5 ha0
  have n2 := C5 hb0
  simp only [A6l]
  refine ⟨trivial, ?_⟩
  rintro ⟨a, _⟩ _ hra
  refine ⟨trivial, ?_⟩
  rintro ⟨b, _⟩ _ hrb
  simp only at hra hrb ⊢
  have ha : A9 a := hra ▸ N0 _
  have hb : A9 b := hrb ▸ N0 _
  have la : a.length <= 17592186044416 := by rw [hra]; omega
  have lb : b.length <= 17592186044416 := by rw [hrb]; omega
  have va : nv a = nv a0 := by rw [hra, H2]
  have vb : nv b = nv b0 := by rw [hrb, H2]
  rw [<- va, <- vb]
  clear hra hrb va vb n1 n2
  refine ⟨fun h => ?_, fun _ => ?_⟩
  . rw [Z6] at h
    simp only [Bool.or_eq_true, decide_eq_true_eq] at h
    have : nv a * nv b = 0 := by
      rcases h with h | h
      . rw [List.eq_nil_of_length_eq_zero (l := a) (by omega)]; simp [nv]
      . rw [List.eq_nil_of_length_eq_zero (l := b) (by omega)]; simp [nv]
    rw [this, Q6]
  have em : IntKind.i64.wrap ((a.length : Int) + (b.length : Int)) = ((a.length + b.length : Nat) : Int) := by
    rw [wr (by omega) (by omega)]; omega
  rw [em]
  refine ⟨⟨by omega, Int.le_refl _, by simp; omega, by omega⟩, ?_⟩
  refine ⟨fun p => 0 <= p.1 /\ p.1 <= (a.length : Int) /\ p.2.1.length = a.length + b.length /\ nv p.2.1 = nv (a.take p.1.toNat) * nv b /\ ∀ j, p.1.toNat + b.length <= j -> dg p.2.1 j = 0, fun p => ((a.length : Int) - p.1).toNat, ⟨Int.le_refl _, Int.natCast_nonneg _, by rw [List.length_replicate, Int.toNat_natCast], by simp [nv, B2u], fun j _ => C5j _ _⟩, ?_⟩
  rintro ⟨i, out, _⟩ ⟨_, hwo, _⟩ ⟨h0, h1, h2, h3, h4⟩
  change Int at i
  change List Int at out
  simp only at h0 h1 h2 h3 h4 ⊢
  refine ⟨fun h' => ?_, fun h' => ?_⟩
  . have h : i < (a.length : Int) := of_decide_eq_true h'
    have da := R9 ha i.toNat
    rw [A7d ha h0 h]
    refine ⟨fun p => p.1.length = a.length + b.length /\ nv p.1 = nv (a.take (i.toNat + 1)) * nv b /\ ∀ j, i.toNat + 1 + b.length <= j -> dg p.1 j = 0, ⟨⟨h0, h⟩, fun hz => ?_, fun hz => ?_⟩, ?_⟩
    . have hz : (dg a i.toNat : Int) = 0 := of_decide_eq_true hz
      refine ⟨h2, ?_, fun j hj => h4 j (by omega)⟩
      show nv out = _
      rw [h3, J4, show dg a i.toNat = 0 from by omega, Nat.mul_zero, Nat.add_zero]
    . refine ⟨fun p => 0 <= p.2.1 /\ p.2.1 <= (b.length : Int) /\ 0 <= p.1 /\ p.1 <= 4294967295 /\ p.2.2.1.length = a.length + b.length /\ nv p.2.2.1 + 4294967296 ^ (i.toNat + p.2.1.toNat) * p.1.toNat = nv out + 4294967296 ^ i.toNat * (dg a i.toNat * nv (b.take p.2.1.toNat)) /\ ∀ j, i.toNat + b.length <= j -> dg p.2.2.1 j = 0, fun p => ((b.length : Int) - p.2.1).toNat, ⟨Int.le_refl _, Int.natCast_nonneg _, Int.le_refl _, by show (0 : Int) <= 4294967295; omega, h2, by simp [nv], h4⟩, ?_⟩
      rintro ⟨c, j, o, _⟩ ⟨_, _, hwo', _⟩ ⟨g0, g1, g2, g3, g4, g5, g6⟩
      change Int at c j
      change List Int at o
      simp only at g0 g1 g2 g3 g4 g5 g6 ⊢
      have hoo : A9 o := A5 hwo'.2
      refine ⟨fun hj' => ?_, fun hj' => ?_⟩
      . have hj : j < (b.length : Int) := of_decide_eq_true hj'
        have db := R9 hb j.toNat
        rw [wr (a := i + j) (by omega) (by omega)]
        refine ⟨⟨g0, hj⟩, ⟨by omega, by omega⟩, ⟨by omega, by omega⟩, by decide, ?_⟩
        rw [A7d hb g0 hj, X1 hoo, show (i + j).toNat = i.toNat + j.toNat from by omega]
        have dk := R9 hoo (i.toNat + j.toNat)
        have hm : dg a i.toNat * dg b j.toNat <= 4294967295 * 4294967295 := Nat.mul_le_mul da db
        have hme : (dg a i.toNat : Int) * (dg b j.toNat : Int) = ((dg a i.toNat * dg b j.toNat : Nat) : Int) := (Int.natCast_mul _ _).symm
        rw [w64 (a := (dg a i.toNat : Int)) (by omega) (by omega), w64 (a := (dg b j.toNat : Int)) (by omega) (by omega), w64 (a := (dg o (i.toNat + j.toNat) : Int)) (by omega) (by omega), hme]
        generalize hMM : dg a i.toNat * dg b j.toNat = M at hm
        rw [w64 (a := (M : Int)) (by omega) (by omega), w64 (a := (M : Int) + (dg o (i.toNat + j.toNat) : Int)) (by omega) (by omega), w64 (by omega) (by omega), F0l _ (by omega), wr (by omega) (by omega), A1a]
        refine ⟨⟨by omega, by omega, by omega, by omega, by rw [List.length_set]; exact g4, ?_, fun q hq => ?_⟩, by omega⟩
        . have hs := A9i (l := o) (k := i.toNat + j.toNat) (v := (c + ((M : Int) + (dg o (i.toNat + j.toNat) : Int))) % 4294967296) (by omega)
          rw [show (j + 1).toNat = j.toNat + 1 from by omega, J4 b, <- Nat.add_assoc i.toNat, Nat.pow_succ, Nat.mul_add (dg a i.toNat)]
          have e1 : dg a i.toNat * (4294967296 ^ j.toNat * dg b j.toNat) = 4294967296 ^ j.toNat * M := by rw [<- hMM, Nat.mul_left_comm]
          rw [e1, Nat.mul_add (4294967296 ^ i.toNat), <- Nat.mul_assoc (4294967296 ^ i.toNat) (4294967296 ^ j.toNat), <- Nat.pow_add, <- Nat.add_assoc (nv out), <- g5]
          generalize 4294967296 ^ (i.toNat + j.toNat) = P at *
          have hd : ((c + ((M : Int) + (dg o (i.toNat + j.toNat) : Int))) % 4294967296).toNat + 4294967296 * ((c + ((M : Int) + (dg o (i.toNat + j.toNat) : Int))) / 4294967296).toNat = c.toNat + dg o (i.toNat + j.toNat) + M := by omega
          have hd2 := congrArg (P * ·) hd
          simp only [Nat.mul_add, <- Nat.mul_assoc] at hd2
          omega
        . rw [C4w (by omega), if_neg (by omega)]; exact g6 q hq
      . have hj := of_decide_eq_false hj'
        rw [wr (a := i + (b.length : Int)) (by omega) (by omega), w32 g2 g3]
        refine ⟨⟨by omega, by omega⟩, ⟨by show (o.set _ _).length = _; rw [List.length_set]; exact g4, ?_, fun q hq => ?_⟩⟩
        . show nv (o.set _ _) = _
          have hs := A9i (l := o) (k := (i + (b.length : Int)).toNat) (v := c) (by omega)
          rw [g6 _ (by omega), Nat.mul_zero, Nat.add_zero] at hs
          rw [hs, show (i + (b.length : Int)).toNat = i.toNat + b.length from by omega]
          rw [show j.toNat = b.length from by omega, List.take_of_length_le (Nat.le_refl b.length)] at g5
          rw [g5, J4, Nat.add_mul, h3, Nat.mul_assoc]
        . show dg (o.set _ _) q = 0
          rw [C4w (by omega), if_neg (by omega)]; exact g6 q (by omega)
    . rintro ⟨o, _⟩ _ ⟨k1, k2, k3⟩
      simp only at k1 k2 k3 ⊢
      rw [wr (by omega) (by omega), show (i + 1).toNat = i.toNat + 1 from by omega]
      exact ⟨⟨by omega, by omega, k1, k2, k3⟩, by omega⟩
  . have h := of_decide_eq_false h'
    refine ⟨trivial, ?_⟩
    rintro ⟨r, _⟩ _ hr
    simp only at hr ⊢
    rw [hr, h3, List.take_of_length_le (by omega)]
theorem A5h (x : A7 D7.args) (hw : awf D7.args x) (hp : D7.pre x) : T4 x := by
  obtain ⟨l, d, _⟩ := x
  have hl : A9 l := A5 hw.1.2
  change List Int at l
  change Int at d
  have hd : IntKind.u32.min <= d /\ d <= IntKind.u32.max := hw.2.1
  rw [D7z, D7f] at hd
  obtain ⟨ll, d0⟩ : l.length <= 17592186044416 /\ d ≠ 0 := hp
  simp only [T4]
  have wd : IntKind.u64.wrap d = d := w64 (by omega) (by omega)
  rw [wd, wr (a := (l.length : Int) - 1) (by omega) (by omega)]
  refine ⟨⟨by omega, Int.le_refl _, by simp; omega, by omega⟩, ?_⟩
  refine ⟨fun p => -1 <= p.2.1 /\ p.2.1 < (l.length : Int) /\ 0 <= p.1 /\ p.1 < d /\ p.2.2.1.length = l.length /\ nv (l.drop (p.2.1 + 1).toNat) = nv (p.2.2.1.drop (p.2.1 + 1).toNat) * d.toNat + p.1.toNat, fun p => (p.2.1 + 1).toNat, ⟨by show (-1 : Int) <= (l.length : Int) - 1; omega, by show (l.length : Int) - 1 < _; omega, Int.le_refl _, by show (0 : Int) < d; omega, by simp, ?_⟩, ?_⟩
  . show nv (l.drop ((l.length : Int) - 1 + 1).toNat) = nv ((List.replicate _ 0).drop ((l.length : Int) - 1 + 1).toNat) * _ + _
    rw [List.drop_of_length_le (by omega), List.drop_of_length_le (by rw [List.length_replicate]; omega)]
    simp [nv]
  rintro ⟨rest, i, q, _⟩ _ ⟨h0, h1, h2, h3, h4, h5⟩
  change Int at rest i
  change List Int at q
  simp only at h0 h1 h2 h3 h4 h5 ⊢
  refine ⟨fun h' => ?_, fun h' => ?_⟩
  . have h : 0 <= i := of_decide_eq_true h'
    have hlim := B7n hl h h1
    have hdr := T0 (l := l) h h1
    rw [show Min.min (Int.toNat 32) IntKind.u64.bits = 32 from rfl]
    generalize gx 0 l i = b at *
    have e1 : IntKind.u64.wrap (rest * 2 ^ 32) = rest * 2 ^ 32 := w64 (by omega) (by omega)
    have e2 : IntKind.u64.wrap b = b := w64 (by omega) (by omega)
    have e3 : (((BitVec.ofInt IntKind.u64.bits (rest * 2 ^ 32) ||| BitVec.ofInt IntKind.u64.bits b).toNat : Nat) : Int) = b + rest * 4294967296 := C9x (v := b) (b := rest) (k := 32) hlim.1 (by omega) h2 (by omega) (by omega)
    rw [e1, e2, e3, w64 (a := b + rest * 4294967296) (by omega) (by omega), wr (a := i - 1) (by omega) (by omega)]
    have hnn : 0 <= b + rest * 4294967296 := by omega
    rw [Int.tmod_eq_emod_of_nonneg hnn, IntWalk.u64_quo _ _ ⟨hnn, by omega, by omega⟩]
    have hq0 := Int.ediv_nonneg hnn (show 0 <= d by omega)
    have hqlt : (b + rest * 4294967296) / d < 4294967296 := by
      rw [Int.ediv_lt_iff_lt_mul (by omega)]
      have : (rest + 1) * 4294967296 <= d * 4294967296 := Int.mul_le_mul_of_nonneg_right (by omega) (by decide)
      omega
    have hr0 := Int.emod_nonneg (b + rest * 4294967296) d0
    have hr1 := Int.emod_lt_of_pos (b + rest * 4294967296) (b := d) (by omega)
    have hdm := Int.mul_ediv_add_emod (b + rest * 4294967296) d
    rw [w32 hq0 (by omega)]
    generalize (b + rest * 4294967296) / d = qi at *
    generalize (b + rest * 4294967296) % d = ri at *
    refine ⟨by decide, ⟨h, h1⟩, d0, ⟨h, by omega⟩, d0, ⟨by omega, by omega, hr0, hr1, by rw [List.length_set]; exact h4, ?_⟩, by omega⟩
    rw [show i - 1 + 1 = i from by omega, hdr]
    have hds : (q.set i.toNat qi).drop i.toNat = qi :: q.drop (i + 1).toNat := by
      have hlt : i.toNat < q.length := by omega
      rw [List.drop_eq_getElem_cons (by rw [List.length_set]; exact hlt), List.getElem_set_self, List.drop_set_of_lt (by omega), show (i + 1).toNat = i.toNat + 1 from by omega]
    rw [hds]
    simp only [nv]
    rw [h5]
    have hz : (b.toNat : Int) + 4294967296 * rest.toNat = qi.toNat * d.toNat + ri.toNat := by
      rw [Int.toNat_of_nonneg hlim.1, Int.toNat_of_nonneg h2, Int.toNat_of_nonneg hq0, Int.toNat_of_nonneg (show 0 <= d by omega), Int.toNat_of_nonneg hr0, Int.mul_comm qi]; omega
    have hzn : b.toNat + 4294967296 * rest.toNat = qi.toNat * d.toNat + ri.toNat := by
      have : ((b.toNat + 4294967296 * rest.toNat : Nat) : Int) = ((qi.toNat * d.toNat + ri.toNat : Nat) : Int) := by
        rw [Int.natCast_add, Int.natCast_add, Int.natCast_mul, Int.natCast_mul]; exact hz
      exact Int.ofNat.inj this
    rw [Nat.mul_add, <- Nat.mul_assoc, Nat.add_mul]
    omega
  . have h : ¬ 0 <= i := of_decide_eq_false h'
    rw [show (i + 1).toNat = 0 from by omega, List.drop_zero, List.drop_zero] at h5
    refine ⟨trivial, ?_⟩
    rintro ⟨r, _⟩ _ hr
    refine ⟨trivial, ?_⟩
    rintro ⟨s, _⟩ _ hs
    simp only at hr hs ⊢
    have hlt : rest.toNat < d.toNat := by omega
    rw [Nat.mul_comm] at h5
    rw [hr, hs, h5, Nat.mul_add_mod, Nat.mod_eq_of_lt hlt, Nat.mul_add_div (by omega), Nat.div_eq_of_lt hlt, Nat.add_zero]
    exact ⟨rfl, rfl⟩
theorem B1x (x : A7 I6.args) (hw : awf I6.args x) (hp : I6.pre x) : A0n x := by
  obtain ⟨l, s, _⟩ := x
  have hl : A9 l := A5 hw.1.2
  change List Int at l
  change Int at s
  obtain ⟨ll, s0, s1⟩ : l.length <= 17592186044416 /\ 0 <= s /\ s <= 31 := hp
  simp only [A0n]
  rw [wr (a := (l.length : Int) + 1) (by omega) (by omega)]
  refine ⟨⟨by omega, Int.le_refl _, by simp; omega, by omega⟩, ?_⟩
  have hsp : (2 : Nat) ^ s.toNat <= 2 ^ 31 := Nat.pow_le_pow_right (by decide) (by omega)
  have hs0 : 0 < (2 : Nat) ^ s.toNat := Nat.pow_pos (by decide)
  have hpc : ((2 : Int) ^ s.toNat) = ((2 ^ s.toNat : Nat) : Int) := by rw [Int.natCast_pow]; rfl
  refine ⟨fun p => 0 <= p.2.1 /\ p.2.1 <= (l.length : Int) /\ 0 <= p.1 /\ p.1 < 2 ^ s.toNat /\ p.2.2.1.length = l.length + 1 /\ nv (p.2.2.1.take p.2.1.toNat) + 4294967296 ^ p.2.1.toNat * p.1.toNat = nv (l.take p.2.1.toNat) * 2 ^ s.toNat, fun p => ((l.length : Int) - p.2.1).toNat, ⟨Int.le_refl _, Int.natCast_nonneg _, Int.le_refl _, by show (0 : Int) < 2 ^ s.toNat; rw [hpc]; omega, by rw [List.length_replicate]; omega, by simp [nv]⟩, ?_⟩
  rintro ⟨c, i, out, _⟩ ⟨_, _, hwo, _⟩ ⟨h0, h1, h2, h3, h4, h5⟩
  change Int at c i
  change List Int at out
  simp only at h0 h1 h2 h3 h4 h5 ⊢
  have hc : c < ((2 ^ s.toNat : Nat) : Int) := by rw [<- hpc]; exact h3
  refine ⟨fun h' => ?_, fun h' => ?_⟩
  . have h : i < (l.length : Int) := of_decide_eq_true h'
    have dl := R9 hl i.toNat
    have hmin : Min.min (Int.toNat s) IntKind.u64.bits = s.toNat := by show Min.min (Int.toNat s) 64 = _; omega
    rw [A7d hl h0 h, hmin, hpc]
    have e0 : (dg l i.toNat : Int) * ((2 ^ s.toNat : Nat) : Int) = ((dg l i.toNat * 2 ^ s.toNat : Nat) : Int) := (Int.natCast_mul _ _).symm
    have hm : dg l i.toNat * 2 ^ s.toNat <= 4294967295 * 2 ^ s.toNat := Nat.mul_le_mul_right _ dl
    have e3 : (((BitVec.ofInt IntKind.u64.bits c ||| BitVec.ofInt IntKind.u64.bits ((dg l i.toNat * 2 ^ s.toNat : Nat) : Int)).toNat : Nat) : Int) = c + ((dg l i.toNat * 2 ^ s.toNat : Nat) : Int) := by
      have := E0g (v := c) (b := (dg l i.toNat : Int)) (k := s.toNat) h2 h3 (by omega) (by rw [hpc, e0]; omega) (by omega)
      rw [hpc, e0] at this
      exact this
    rw [w64 (a := (dg l i.toNat : Int)) (by omega) (by omega), e0, w64 (a := ((dg l i.toNat * 2 ^ s.toNat : Nat) : Int)) (by omega) (by omega), e3, w64 (by omega) (by omega), F0l _ (by omega), wr (by omega) (by omega), A1a]
    generalize hMM : dg l i.toNat * 2 ^ s.toNat = M at *
    refine ⟨⟨h0, h⟩, s0, ⟨h0, by omega⟩, by decide, ⟨by omega, by omega, by omega, ?_, by rw [List.length_set]; exact h4, ?_⟩, by omega⟩
    . generalize 2 ^ s.toNat = T at *
      omega
    . rw [show (i + 1).toNat = i.toNat + 1 from by omega, P3 (by omega), J4 l, Nat.pow_succ, Nat.add_mul, <- h5, Nat.mul_assoc (4294967296 ^ i.toNat) (dg l i.toNat), hMM]
      generalize 4294967296 ^ i.toNat = P at *
      have hd : ((c + (M : Int)) % 4294967296).toNat + 4294967296 * ((c + (M : Int)) / 4294967296).toNat = c.toNat + M := by omega
      have hd2 := congrArg (P * ·) hd
      simp only [Nat.mul_add, <- Nat.mul_assoc] at hd2
      omega
  . have h : ¬ i < (l.length : Int) := of_decide_eq_false h'
    rw [Int.toNat_natCast, w32 (by omega) (by omega)]
    refine ⟨⟨by omega, by omega⟩, by rw [List.length_set]; exact h4, ?_⟩
    have e := P3 (l := out) (i := l.length) (v := c) (by omega)
    rw [List.take_of_length_le (by rw [List.length_set]; omega)] at e
    rw [show i.toNat = l.length from by omega, List.take_of_length_le (Nat.le_refl l.length)] at h5
    rw [e, h5]
theorem A7a (x : A7 E9.args) (hw : awf E9.args x) (hp : E9.pre x) : U8 x := by
  obtain ⟨a, n, _⟩ := x
  have ha : A9 a := A5 hw.1.2
  have hn := (show IntKind.i64.min <= n /\ n <= IntKind.i64.max from hw.2.1)
  rw [B5r, C4a] at hn
  change List Int at a
  change Int at n
  have la : a.length <= 17592186044416 := hp
  have n1 := C5 ha
  have hn' : -9223372036854775808 <= n /\ n <= 9223372036854775807 := hn
  simp only [U8]
  refine ⟨fun h => ?_, fun h => ⟨trivial, ?_⟩⟩
  . have h := of_decide_eq_true h
    exact ⟨fun _ => ⟨by trivial, by trivial⟩, fun h1 => by omega⟩
  have h := of_decide_eq_false h
  have n0 : 0 <= n := by omega
  rintro ⟨r, _⟩ _ hr
  simp only at hr ⊢
  have e1 : IntKind.i64.wrap (Int.tdiv n 32) = ((n.toNat / 32 : Nat) : Int) := by
    rw [Int.tdiv_eq_ediv_of_nonneg n0, wr (by omega) (by omega)]; omega
  have e2 : (Int.tmod n 32).toNat = n.toNat % 32 := by rw [Int.tmod_eq_emod_of_nonneg n0]; omega
  have e3 : (0 : Int) <= Int.tmod n 32 := Int.tmod_nonneg _ n0
  have e4 : n.toNat = 32 * (n.toNat / 32) + n.toNat % 32 := by omega
  have e5 : n.toNat % 32 <= 31 := by omega
  have e6 : Min.min (n.toNat % 32) IntKind.u64.bits = n.toNat % 32 := by show Min.min (n.toNat % 32) 64 = _; omega
  rw [e1, e2, e6]
  have hrv : nv r = nv a := by rw [hr, H2]
  have hra : A9 r := hr ▸ N0 _
  have hrl : r.length <= a.length := by rw [hr]; exact n1
  have hsh := D9n (l := r) hra (k := n.toNat / 32) (s := n.toNat % 32)
  rw [<- e4, hrv] at hsh
  clear e1 e2 e6
  refine ⟨by decide, fun h1 => ?_, fun h1 => ?_⟩
  . have h1 := of_decide_eq_true h1
    refine ⟨fun h2 => by omega, fun _ => ⟨?_, by trivial⟩⟩
    rw [hsh, List.drop_of_length_le (by omega), E5o, Nat.zero_div, Q6]
  . have h1 := of_decide_eq_false h1
    rw [hsh]
    rw [show (((n.toNat / 32 : Nat) : Int)).toNat = n.toNat / 32 from Int.toNat_natCast _, show ((r.length : Int)).toNat = r.length from Int.toNat_natCast _, List.take_of_length_le (Nat.le_refl _)]
    have ht : A9 (r.drop (n.toNat / 32)) := fun y hy => hra y (List.mem_of_mem_drop hy)
    have htl : (r.drop (n.toNat / 32)).length <= r.length := by rw [List.length_drop]; omega
    refine ⟨by decide, ⟨by omega, by omega, Int.le_refl _⟩, by decide, ⟨by omega, Int.le_refl _, by omega, by omega⟩, ?_⟩
    clear hsh e4
    generalize r.drop (n.toNat / 32) = t at *
    generalize n.toNat % 32 = s at *
    have hX : nv t / 2 ^ s < 4294967296 ^ t.length := Nat.lt_of_le_of_lt (Nat.div_le_self _ _) (A8p ht)
    refine ⟨fun p => 0 <= p.1 /\ p.1 <= (t.length : Int) /\ p.2.1.length = t.length /\ nv (p.2.1.take p.1.toNat) = nv t / 2 ^ s % 4294967296 ^ p.1.toNat, fun p => ((t.length : Int) - p.1).toNat, ⟨Int.le_refl _, Int.natCast_nonneg _, by simp, by simp [nv]; omega⟩, ?_⟩
    rintro ⟨i, out, _⟩ ⟨_, hwo, _⟩ ⟨i0, i1, ol, hv⟩
    change Int at i
    change List Int at out
    simp only at i0 i1 ol hv ⊢
    have d1 := R9 ht i.toNat
    have d2 := R9 ht (i.toNat + 1)
    refine ⟨fun h2 => ?_, fun h2 => ?_⟩
    . have h2 := of_decide_eq_true h2
      rw [wr (a := i + 1) (by omega) (by omega)]
      refine ⟨⟨i0, h2⟩, fun p => p.1 = ((dg t i.toNat + dg t (i.toNat + 1) * 4294967296 : Nat) : Int), ⟨fun h3 => ?_, fun h3 => ?_⟩, ?_⟩
      . have h3 := of_decide_eq_true h3
        refine ⟨⟨by omega, h3⟩, by decide, ?_⟩
        show IntKind.u64.wrap _ = _
        rw [A7d ht i0 h2, A7d ht (by omega) h3, show (i + 1).toNat = i.toNat + 1 from by omega]
        rw [show Min.min (Int.toNat 32) IntKind.u64.bits = 32 from rfl]
        rw [w64 (a := (dg t i.toNat : Int)) (by omega) (by omega), w64 (a := (dg t (i.toNat + 1) : Int)) (by omega) (by omega), w64 (a := (dg t (i.toNat + 1) : Int) * 2 ^ 32) (by omega) (by omega)]
        have := E0g (v := (dg t i.toNat : Int)) (b := (dg t (i.toNat + 1) : Int)) (k := 32) (by omega) (by omega) (by omega) (by omega) (by omega)
        rw [show IntKind.u64.bits = 64 from rfl, this, w64 (by omega) (by omega)]; omega
      . have h3 := of_decide_eq_false h3
        show IntKind.u64.wrap _ = _
        rw [A7d ht i0 h2, w64 (by omega) (by omega), B4o (i := i.toNat + 1) (by omega)]; omega
      rintro ⟨w, _⟩ _ hW
      simp only at hW ⊢
      refine ⟨e3, ⟨i0, by omega⟩, ⟨by omega, by omega, by rw [List.length_set]; exact ol, ?_⟩, by omega⟩
      rw [show (i + 1).toNat = i.toNat + 1 from by omega, P3 (by omega), hv, Nat.pow_succ, Nat.mod_mul, E9a ht _ e5]
      congr 2
      rw [hW, A1a]
      have : Int.fdiv ((dg t i.toNat + dg t (i.toNat + 1) * 4294967296 : Nat) : Int) (2 ^ s) = (((dg t i.toNat + dg t (i.toNat + 1) * 4294967296) / 2 ^ s : Nat) : Int) := by
        rw [show ((2 : Int) ^ s) = ((2 ^ s : Nat) : Int) from by rw [Int.natCast_pow]; rfl, Int.fdiv_eq_ediv_of_nonneg _ (Int.natCast_nonneg _)]; rfl
      rw [this]
      generalize (dg t i.toNat + dg t (i.toNat + 1) * 4294967296) / 2 ^ s = Z
      omega
    . have h2 := of_decide_eq_false h2
      refine ⟨trivial, ?_⟩
      rintro ⟨q, _⟩ _ hq
      simp only at hq ⊢
      refine ⟨fun h => by omega, fun _ => ⟨?_, by trivial⟩⟩
      rw [show i.toNat = t.length from by omega, List.take_of_length_le (by omega), Nat.mod_eq_of_lt hX] at hv
      rw [hq, hv]
def D5h : An := { join := [(4, ⟨[], [], [(0, false, [.val (.int .u32)]), (2, false, [.val (.int .i64)])], [], []⟩), (7, ⟨[], [], [(0, false, [.val (.int .u32)]), (2, false, [.val (.int .i64)])], [], []⟩)] }
def B8p : B6 := []
def B0k : An := {}
def A1i : B6 := [(208, S6)]
def B6p : An := {}
def A4b : B6 := []
def C1w : An := { plan := [(2, [], [], true, (.p 0 (.p 1 (.p 2 (.p 5 (.p 6 (.p 7 (.p 10 (.p 12 (.p 13 (.p 14 (.p 16 (.p 17 (.e 3 (.p 4 (.e 8 (.p 9 (.p 11 (.e 15 (.p 18 (.p 19 (.p 20 .done))))))))))))))))))))))] }
def A7j : B6 := [(255, G6)]
def C1b : An := { loop := [(7, ⟨[4], [0], [(7, false, [.val (.int .u64)]), (8, false, [.val (.int .u64)]), (9, false, [.val (.int .u64)]), (10, false, [.val (.int .u64)]), (11, false, [.val (.int .u64)]), (12, false, [.val (.int .u64)]), (13, false, [.val (.int .u64)]), (14, false, [.val (.int .u64)]), (15, false, [.val .bool])], [], []⟩)], plan := [(9, [], [], true, (.p 0 (.p 1 (.p 2 (.p 3 (.p 4 (.p 5 .done)))))))] }
def A5r : B6 := [(238, D5), (239, J9)]
def B7w : An := {}
def A5t : B6 := [(142, J3), (180, C4), (212, N3)]
def Y2 : ByteArray := ByteArray.mk (([(0 : UInt8), (1 : UInt8), (2 : UInt8), (2 : UInt8), (3 : UInt8), (3 : UInt8), (3 : UInt8), (3 : UInt8), (4 : UInt8), (4 : UInt8), (4 : UInt8), (4 : UInt8), (4 : UInt8), (4 : UInt8), (4 : UInt8), (4 : UInt8), (5 : UInt8), (5 : UInt8), (5 : UInt8), (5 : UInt8), (5 : UInt8), (5 : UInt8), (5 : UInt8), (5 : UInt8), (5 : UInt8), (5 : UInt8), (5 : UInt8), (5 : UInt8), (5 : UInt8), (5 : UInt8), (5 : UInt8), (5 : UInt8), (6 : UInt8), (6 : UInt8), (6 : UInt8), (6 : UInt8), (6 : UInt8), (6 : UInt8), (6 : UInt8), (6 : UInt8), (6 : UInt8), (6 : UInt8), (6 : UInt8), (6 : UInt8), (6 : UInt8), (6 : UInt8), (6 : UInt8), (6 : UInt8), (6 : UInt8), (6 : UInt8), (6 : UInt8), (6 : UInt8), (6 : UInt8), (6 : UInt8), (6 : UInt8), (6 : UInt8), (6 : UInt8), (6 : UInt8), (6 : UInt8), (6 : UInt8), (6 : UInt8), (6 : UInt8), (6 : UInt8), (6 : UInt8)].append [(7 : UInt8), (7 : UInt8), (7 : UInt8), (7 : UInt8), (7 : UInt8), (7 : UInt8), (7 : UInt8), (7 : UInt8), (7 : UInt8), (7 : UInt8), (7 : UInt8), (7 : UInt8), (7 : UInt8), (7 : UInt8), (7 : UInt8), (7 : UInt8), (7 : UInt8), (7 : UInt8), (7 : UInt8), (7 : UInt8), (7 : UInt8), (7 : UInt8), (7 : UInt8), (7 : UInt8), (7 : UInt8), (7 : UInt8), (7 : UInt8), (7 : UInt8), (7 : UInt8), (7 : UInt8), (7 : UInt8), (7 : UInt8), (7 : UInt8), (7 : UInt8), (7 : UInt8), (7 : UInt8), (7 : UInt8), (7 : UInt8), (7 : UInt8), (7 : UInt8), (7 : UInt8), (7 : UInt8), (7 : UInt8), (7 : UInt8), (7 : UInt8), (7 : UInt8), (7 : UInt8), (7 : UInt8), (7 : UInt8), (7 : UInt8), (7 : UInt8), (7 : UInt8), (7 : UInt8), (7 : UInt8), (7 : UInt8), (7 : UInt8), (7 : UInt8), (7 : UInt8), (7 : UInt8), (7 : UInt8), (7 : UInt8), (7 : UInt8), (7 : UInt8), (7 : UInt8)]).append ([(8 : UInt8), (8 : UInt8), (8 : UInt8), (8 : UInt8), (8 : UInt8), (8 : UInt8), (8 : UInt8), (8 : UInt8), (8 : UInt8), (8 : UInt8), (8 : UInt8), (8 : UInt8), (8 : UInt8), (8 : UInt8), (8 : UInt8), (8 : UInt8), (8 : UInt8), (8 : UInt8), (8 : UInt8), (8 : UInt8), (8 : UInt8), (8 : UInt8), (8 : UInt8), (8 : UInt8), (8 : UInt8), (8 : UInt8), (8 : UInt8), (8 : UInt8), (8 : UInt8), (8 : UInt8), (8 : UInt8), (8 : UInt8), (8 : UInt8), (8 : UInt8), (8 : UInt8), (8 : UInt8), (8 : UInt8), (8 : UInt8), (8 : UInt8), (8 : UInt8), (8 : UInt8), (8 : UInt8), (8 : UInt8), (8 : UInt8), (8 : UInt8), (8 : UInt8), (8 : UInt8), (8 : UInt8), (8 : UInt8), (8 : UInt8), (8 : UInt8), (8 : UInt8), (8 : UInt8), (8 : UInt8), (8 : UInt8), (8 : UInt8), (8 : UInt8), (8 : UInt8), (8 : UInt8), (8 : UInt8), (8 : UInt8), (8 : UInt8), (8 : UInt8), (8 : UInt8)].append [(8 : UInt8), (8 : UInt8), (8 : UInt8), (8 : UInt8), (8 : UInt8), (8 : UInt8), (8 : UInt8), (8 : UInt8), (8 : UInt8), (8 : UInt8), (8 : UInt8), (8 : UInt8), (8 : UInt8), (8 : UInt8), (8 : UInt8), (8 : UInt8), (8 : UInt8), (8 : UInt8), (8 : UInt8), (8 : UInt8), (8 : UInt8), (8 : UInt8), (8 : UInt8), (8 : UInt8), (8 : UInt8), (8 : UInt8), (8 : UInt8), (8 : UInt8), (8 : UInt8), (8 : UInt8), (8 : UInt8), (8 : UInt8), (8 : UInt8), (8 : UInt8), (8 : UInt8), (8 : UInt8), (8 : UInt8), (8 : UInt8), (8 : UInt8), (8 : UInt8), (8 : UInt8), (8 : UInt8), (8 : UInt8), (8 : UInt8), (8 : UInt8), (8 : UInt8), (8 : UInt8), (8 : UInt8), (8 : UInt8), (8 : UInt8), (8 : UInt8), (8 : UInt8), (8 : UInt8), (8 : UInt8), (8 : UInt8), (8 : UInt8), (8 : UInt8), (8 : UInt8), (8 : UInt8), (8 : UInt8), (8 : UInt8), (8 : UInt8), (8 : UInt8), (8 : UInt8)])).toArray
def A9c : A7 S6.args -> Prop := fun (x : Int × Unit) => ∃ (J : Int × Int × Unit -> Prop), ((decide (65536 <= x.1) = true -> (0 : (Ty.int IntKind.u64).den) <= (16 : Int) /\ J (Int.fdiv x.1 ((2 : Int) ^ Min.min (Int.toNat (16 : Int)) IntKind.u32.bits), (16 : Int), ())) /\ (decide (65536 <= x.1) = false -> J (x.1, (0 : Int), ()))) /\ ∀ (p : Int × Int × Unit), (IntKind.u32.min <= p.1 /\ p.1 <= IntKind.u32.max) /\ G2 p.2.1 /\ True -> J p -> ∃ (J : Int × Int × Unit -> Prop), ((decide (256 <= p.1) = true -> (0 : (Ty.int IntKind.u64).den) <= (8 : Int) /\ J (Int.fdiv p.1 ((2 : Int) ^ Min.min (Int.toNat (8 : Int)) IntKind.u32.bits), IntKind.i64.wrap (p.2.1 + 8), ())) /\ (decide (256 <= p.1) = false -> J (p.1, p.2.1, ()))) /\ ∀ (p : Int × Int × Unit), (IntKind.u32.min <= p.1 /\ p.1 <= IntKind.u32.max) /\ G2 p.2.1 /\ True -> J p -> ((0 : Int) <= IntKind.u8.wrap p.1 /\ IntKind.u8.wrap p.1 < (↑(Y2).data.toList.length : Int)) /\ IntKind.i64.wrap (p.2.1 + IntKind.i64.wrap (C9p (Y2) (IntKind.u8.wrap p.1))) = (↑(X7 x.1.toNat) : Int)
theorem C6z (x : A7 S6.args) : K8 Tryz.prog tys B8p D5h S6 Tryz.f208 x = A9c x := by kernel_rfl
def T9 : A7 D5.args -> Prop := fun (x : Int × Unit) => True /\ ∀ (r : Int × Unit), G2 r.1 /\ True -> r.1 = (↑(X7 (Int.toNat x.1)) : Int) -> IntKind.i64.wrap (32 - r.1) = (32 : Int) - (↑(X7 x.1.toNat) : Int)
theorem A6d (x : A7 D5.args) : K8 Tryz.prog tys A1i B0k D5 Tryz.f238 x = T9 x := by kernel_rfl
def Y9 : A7 G6.args -> Prop := fun (x : Int × List Int × Unit) => (decide (x.1 < (x.2.1.length : Int)) = true -> (0 <= x.1 /\ x.1 < (x.2.1.length : Int)) /\ IntKind.u64.wrap (gx (0 : Int) x.2.1 x.1) = if x.1 < (↑x.2.1.length : Int) then x.2.1.getD x.1.toNat (0 : Int) else (0 : Int)) /\ (decide (x.1 < (x.2.1.length : Int)) = false -> (0 : Int) = if x.1 < (↑x.2.1.length : Int) then x.2.1.getD x.1.toNat (0 : Int) else (0 : Int))
theorem B0b (x : A7 G6.args) : K8 Tryz.prog tys A4b B6p G6 Tryz.f255 x = Y9 x := by kernel_rfl
def A2e : A7 J9.args -> Prop := fun (x : List Int × Int × Int × Unit) => (0 : Int) <= IntKind.i64.wrap (x.2.1 - 1) /\ ∀ (r : Int × Unit), K9 r.1 /\ True -> (r.1 = if IntKind.i64.wrap (x.2.1 - 1) < (x.1.length : Int) then List.getD x.1 (IntKind.i64.wrap (x.2.1 - 1)).toNat (0 : Int) else (0 : Int)) -> (0 : (Ty.int IntKind.u64).den) <= (32 : Int) /\ (0 : Int) <= IntKind.i64.wrap (x.2.1 - 2) /\ ∀ (a : Int × Unit), K9 a.1 /\ True -> (a.1 = if IntKind.i64.wrap (x.2.1 - 2) < (x.1.length : Int) then List.getD x.1 (IntKind.i64.wrap (x.2.1 - 2)).toNat (0 : Int) else (0 : Int)) -> (0 : (Ty.int IntKind.i64).den) <= x.2.2.1 /\ (0 : Int) <= IntKind.i64.wrap (x.2.1 - 3) /\ ∀ (b : Int × Unit), K9 b.1 /\ True -> (b.1 = if IntKind.i64.wrap (x.2.1 - 3) < (x.1.length : Int) then List.getD x.1 (IntKind.i64.wrap (x.2.1 - 3)).toNat (0 : Int) else (0 : Int)) -> (0 : (Ty.int IntKind.i64).den) <= IntKind.i64.wrap (32 - x.2.2.1) /\ IntKind.u64.wrap (↑(BitVec.ofInt IntKind.u64.bits (IntKind.u64.wrap (IntKind.u64.wrap (↑(BitVec.ofInt IntKind.u64.bits (IntKind.u64.wrap (r.1 * 2 ^ Min.min (Int.toNat (32 : Int)) IntKind.u64.bits)) ||| BitVec.ofInt IntKind.u64.bits a.1).toNat : Int) * (2 : Int) ^ Min.min (Int.toNat x.2.2.1) IntKind.u64.bits)) ||| BitVec.ofInt IntKind.u64.bits (Int.fdiv b.1 ((2 : Int) ^ Min.min (IntKind.i64.wrap (32 - x.2.2.1)).toNat IntKind.u64.bits))).toNat : Int) = (↑(nv x.1 * 2 ^ x.2.2.1.toNat / (4294967296 : Nat) ^ (x.2.1.toNat - (2 : Nat))) : Int)
theorem B3t (x : A7 J9.args) : K8 Tryz.prog tys A7j C1w J9 Tryz.f239 x = A2e x := by kernel_rfl
def A1g : A7 I9.args -> Prop := fun (x : List Int × List Int × Unit) => ((0 : Int) <= IntKind.i64.wrap ((x.1.length : Int) - (1 : Int)) /\ IntKind.i64.wrap ((x.1.length : Int) - (1 : Int)) < (x.1.length : Int)) /\ True /\ ∀ (r : Int × Unit), G2 r.1 /\ True -> r.1 = 32 - (↑(X7 (gx (0 : Int) x.1 (IntKind.i64.wrap ((x.1.length : Int) - (1 : Int)))).toNat) : Int) -> ((3 : Int) <= (x.1.length : Int) /\ (x.1.length : Int) <= (x.1.length : Int) /\ (x.1.length : Int) <= (17592186044416 : Int) /\ 0 <= r.1 /\ r.1 <= 31 /\ nv x.1 * 2 ^ Int.toNat r.1 < 4294967296 ^ (x.1.length : Int).toNat) /\ ∀ (a : Int × Unit), K9 a.1 /\ True -> a.1 = (↑(nv x.1 * 2 ^ Int.toNat r.1 / (4294967296 : Nat) ^ ((x.1.length : Int).toNat - (2 : Nat))) : Int) -> ((3 : Int) <= (x.1.length : Int) /\ (x.2.1.length : Int) <= (x.1.length : Int) /\ (x.1.length : Int) <= (17592186044416 : Int) /\ 0 <= r.1 /\ r.1 <= 31 /\ nv x.2.1 * 2 ^ Int.toNat r.1 < 4294967296 ^ (x.1.length : Int).toNat) /\ ∀ (b : Int × Unit), K9 b.1 /\ True -> b.1 = (↑(nv x.2.1 * 2 ^ Int.toNat r.1 / (4294967296 : Nat) ^ ((x.1.length : Int).toNat - (2 : Nat))) : Int) -> ∃ (I : Int × Int × Int × Int × Int × Int × Int × Int × Bool × Unit -> Prop), ∃ (μ : Int × Int × Int × Int × Int × Int × Int × Int × Bool × Unit -> Nat), I (a.1, b.1, (0 : Int), (1 : Int), (0 : Int), (0 : Int), (0 : Int), (1 : Int), false, ()) /\ ∀ (p : Int × Int × Int × Int × Int × Int × Int × Int × Bool × Unit), K9 p.1 /\ K9 p.2.1 /\ K9 p.2.2.1 /\ K9 p.2.2.2.1 /\ K9 p.2.2.2.2.1 /\ K9 p.2.2.2.2.2.1 /\ K9 p.2.2.2.2.2.2.1 /\ K9 p.2.2.2.2.2.2.2.1 /\ True /\ True -> I p -> (sel (decide (p.2.2.2.2.2.2.2.1 <= p.2.1)) (decide (IntKind.u64.wrap (p.2.2.2.2.2.2.1 + p.2.2.2.2.2.2.2.1) <= IntKind.u64.wrap (p.1 - p.2.1))) false = true -> p.2.1 ≠ 0 /\ p.2.1 ≠ 0 /\ I (p.2.1, Int.tmod p.1 p.2.1, p.2.2.2.1, p.2.2.2.2.1, IntKind.u64.wrap (p.2.2.2.1 + IntKind.u64.wrap (IntKind.u64.wrap (Int.tdiv p.1 p.2.1) * p.2.2.2.2.1)), p.2.2.2.2.2.2.1, p.2.2.2.2.2.2.2.1, IntKind.u64.wrap (p.2.2.2.2.2.2.1 + IntKind.u64.wrap (IntKind.u64.wrap (Int.tdiv p.1 p.2.1) * p.2.2.2.2.2.2.2.1)), !p.2.2.2.2.2.2.2.2.1, ()) /\ μ (p.2.1, Int.tmod p.1 p.2.1, p.2.2.2.1, p.2.2.2.2.1, IntKind.u64.wrap (p.2.2.2.1 + IntKind.u64.wrap (IntKind.u64.wrap (Int.tdiv p.1 p.2.1) * p.2.2.2.2.1)), p.2.2.2.2.2.2.1, p.2.2.2.2.2.2.2.1, IntKind.u64.wrap (p.2.2.2.2.2.2.1 + IntKind.u64.wrap (IntKind.u64.wrap (Int.tdiv p.1 p.2.1) * p.2.2.2.2.2.2.2.1)), !p.2.2.2.2.2.2.2.2.1, ()) < μ p) /\ (sel (decide (p.2.2.2.2.2.2.2.1 <= p.2.1)) (decide (IntKind.u64.wrap (p.2.2.2.2.2.2.1 + p.2.2.2.2.2.2.2.1) <= IntKind.u64.wrap (p.1 - p.2.1))) false = false -> p.2.2.2.2.2.1 = 0 \/ ∃ (A' : Int), ∃ (B' : Int), (A' = if p.2.2.2.2.2.2.2.2.1 = true then p.2.2.1 * (↑(nv x.1) : Int) - p.2.2.2.2.2.1 * (↑(nv x.2.1) : Int) else p.2.2.2.2.2.1 * (↑(nv x.2.1) : Int) - p.2.2.1 * (↑(nv x.1) : Int)) /\ (B' = if p.2.2.2.2.2.2.2.2.1 = true then p.2.2.2.2.2.2.1 * (↑(nv x.2.1) : Int) - p.2.2.2.1 * (↑(nv x.1) : Int) else p.2.2.2.1 * (↑(nv x.1) : Int) - p.2.2.2.2.2.2.1 * (↑(nv x.2.1) : Int)) /\ (0 : Int) <= B' /\ B' <= A' /\ (↑(nv x.1) : Int) = p.2.2.2.2.2.2.1 * A' + p.2.2.2.2.2.1 * B' /\ (↑(nv x.2.1) : Int) = p.2.2.2.1 * A' + p.2.2.1 * B' /\ 1 <= p.2.2.2.2.2.1 /\ 1 <= p.2.2.2.2.2.2.1 /\ 0 <= p.2.2.1 /\ 0 <= p.2.2.2.1)
theorem B1g (x : A7 I9.args) : K8 Tryz.prog tys A5r C1b I9 Tryz.f220 x = A1g x := by kernel_rfl
def A0o : A7 H9.args -> Prop := fun (x : List Int × Int × List Int × Int × Unit) => True /\ ∀ (r : List Int × Unit), WfU r.1 /\ True -> r.1 = nc (Int.toNat x.2.1) -> (sh1 x.1 /\ sh1 r.1) /\ ∀ (a : List Int × Unit), WfU a.1 /\ True -> a.1 = nc (nv x.1 * nv r.1) -> True /\ ∀ (r : List Int × Unit), WfU r.1 /\ True -> r.1 = nc (Int.toNat x.2.2.2.1) -> (sh1 x.2.2.1 /\ sh1 r.1) /\ ∀ (b : List Int × Unit), WfU b.1 /\ True -> b.1 = nc (nv x.2.2.1 * nv r.1) -> (sh1 a.1 /\ sh1 b.1) /\ ∀ (r : List Int × Bool × Unit), WfU r.1 /\ True /\ True -> (nv a.1 < nv b.1 -> r.1 = [] /\ r.2.1 = false) /\ (nv b.1 <= nv a.1 -> r.1 = nc (nv a.1 - nv b.1) /\ r.2.1 = true) -> r.1 = nc (nv x.1 * x.2.1.toNat - nv x.2.2.1 * x.2.2.2.1.toNat)
theorem B1m (x : A7 H9.args) : K8 Tryz.prog tys A5t B7w H9 Tryz.f221 x = A0o x := by kernel_rfl
theorem G1o : ∀ k : Fin 256, C9p Y2 (k.val : Int) = (X7 k.val : Int) := by decide +kernel
theorem C7g (x : A7 S6.args) (hw : awf S6.args x) (_ : S6.pre x) : A9c x := by
  obtain ⟨v, _⟩ := x
  change Int at v
  have hv := (show IntKind.u32.min <= v /\ v <= IntKind.u32.max from hw.1)
  rw [D7z, D7f] at hv
  simp only [A9c]
  have f16 : Int.fdiv v (2 ^ Min.min (Int.toNat 16) IntKind.u32.bits) = v / 65536 := by
    rw [show Min.min (Int.toNat 16) IntKind.u32.bits = 16 from rfl, Int.fdiv_eq_ediv_of_nonneg _ (by decide)]; rfl
  rw [f16]
  refine ⟨fun p => 0 <= p.1 /\ p.1 < 65536 /\ 0 <= p.2.1 /\ p.2.1 <= 16 /\ (X7 v.toNat : Int) = X7 p.1.toNat + p.2.1, ⟨fun h => ?_, fun h => ?_⟩, ?_⟩
  . have h := of_decide_eq_true h
    have e := C7j (n := v.toNat) (k := 16) (by omega)
    refine ⟨by decide, by show (0 : Int) <= v / 65536; omega, by show v / 65536 < 65536; omega, by show (0 : Int) <= 16; omega, by show (16 : Int) <= 16; omega, ?_⟩
    show (X7 v.toNat : Int) = X7 (v / 65536).toNat + 16
    rw [e, show (v / 65536).toNat = v.toNat / 2 ^ 16 from by omega]; omega
  . have h := of_decide_eq_false h
    refine ⟨by show (0 : Int) <= v; omega, by show v < 65536; omega, by show (0 : Int) <= 0; omega, by show (0 : Int) <= 16; omega, ?_⟩
    show (X7 v.toNat : Int) = X7 v.toNat + 0
    omega
  rintro ⟨w, n, _⟩ _ ⟨h0, h1, h2, h3, h4⟩
  change Int at w n
  simp only at h0 h1 h2 h3 h4 ⊢
  have f8 : Int.fdiv w (2 ^ Min.min (Int.toNat 8) IntKind.u32.bits) = w / 256 := by
    rw [show Min.min (Int.toNat 8) IntKind.u32.bits = 8 from rfl, Int.fdiv_eq_ediv_of_nonneg _ (by decide)]; rfl
  rw [f8, wr (a := n + 8) (by omega) (by omega)]
  refine ⟨fun p => 0 <= p.1 /\ p.1 < 256 /\ 0 <= p.2.1 /\ p.2.1 <= 24 /\ (X7 v.toNat : Int) = X7 p.1.toNat + p.2.1, ⟨fun h => ?_, fun h => ?_⟩, ?_⟩
  . have h := of_decide_eq_true h
    have e := C7j (n := w.toNat) (k := 8) (by omega)
    refine ⟨by decide, by show (0 : Int) <= w / 256; omega, by show w / 256 < 256; omega, by show 0 <= n + 8; omega, by show n + 8 <= 24; omega, ?_⟩
    show (X7 v.toNat : Int) = X7 (w / 256).toNat + (n + 8)
    rw [h4, e, show (w / 256).toNat = w.toNat / 2 ^ 8 from by omega]; omega
  . have h := of_decide_eq_false h
    exact ⟨h0, by show w < 256; omega, h2, by show n <= 24; omega, h4⟩
  rintro ⟨u, m, _⟩ _ ⟨g0, g1, g2, g3, g4⟩
  change Int at u m
  simp only at g0 g1 g2 g3 g4 ⊢
  have w8 : IntKind.u8.wrap u = u := IntWalk.u8_in _ ⟨g0, by omega⟩
  have hlen : (Y2.data.toList.length : Int) = 256 := by decide +kernel
  have ht := G1o ⟨u.toNat, by omega⟩
  simp only at ht
  rw [show ((u.toNat : Nat) : Int) = u from by omega] at ht
  have hbl : X7 u.toNat <= 8 := by
    rcases Nat.lt_or_ge 8 (X7 u.toNat) with h | h
    . have h5 : u.toNat ≠ 0 := fun e => by rw [e, C0c] at h; omega
      have h6 := (C3q h5).1
      have h7 : 2 ^ 8 <= 2 ^ (X7 u.toNat - 1) := Nat.pow_le_pow_right (by decide) (by omega)
      omega
    . exact h
  rw [w8, ht]
  refine ⟨⟨g0, by rw [hlen]; exact g1⟩, ?_⟩
  rw [wr (a := (X7 u.toNat : Int)) (by omega) (by omega), wr (by omega) (by omega), g4]; omega
theorem D7l {v : Nat} (h : v < 4294967296) : X7 v <= 32 := by
  rcases Nat.lt_or_ge 32 (X7 v) with h1 | h1
  . have h5 : v ≠ 0 := fun e => by rw [e, C0c] at h1; omega
    have h6 := (C3q h5).1
    have h7 : 2 ^ 32 <= 2 ^ (X7 v - 1) := Nat.pow_le_pow_right (by decide) (by omega)
    omega
  . exact h1
theorem A6b (x : A7 D5.args) (hw : awf D5.args x) (_ : D5.pre x) : T9 x := by
  obtain ⟨v, _⟩ := x
  change Int at v
  have hv := (show IntKind.u32.min <= v /\ v <= IntKind.u32.max from hw.1)
  rw [D7z, D7f] at hv
  simp only [T9]
  refine ⟨trivial, ?_⟩
  rintro ⟨r, _⟩ _ hr
  simp only at hr ⊢
  have := D7l (v := v.toNat) (by omega)
  rw [hr, wr (by omega) (by omega)]
theorem A9y (x : A7 G6.args) (hw : awf G6.args x) (hp : G6.pre x) : Y9 x := by
  obtain ⟨i, l, _⟩ := x
  have hl : A9 l := A5 hw.2.1.2
  change Int at i
  change List Int at l
  have h0 : 0 <= i := hp
  simp only [Y9]
  refine ⟨fun h => ?_, fun h => ?_⟩
  . have h := of_decide_eq_true h
    have hb := B7n hl h0 h
    rw [if_pos h, <- Y6 (d := (0 : Int)) h0 h, w64 hb.1 (by omega)]
    exact ⟨⟨h0, h⟩, rfl⟩
  . have h := of_decide_eq_false h
    rw [if_neg h]
theorem F8j {l : List Int} (h : A9 l) {i : Int} (h0 : 0 <= i) : (if i < (l.length : Int) then l.getD i.toNat 0 else 0) = (dg l i.toNat : Int) := by
  split
  . exact X1 h
  . rw [B4o (by omega)]; rfl
theorem B4i (x : A7 J9.args) (hw : awf J9.args x) (hp : J9.pre x) : A2e x := by
  obtain ⟨l, n, s, _⟩ := x
  have hl : A9 l := A5 hw.1.2
  change List Int at l
  change Int at n s
  obtain ⟨n3, ln, nM, s0, s1, hlt⟩ : 3 <= n /\ (l.length : Int) <= n /\ n <= 17592186044416 /\ 0 <= s /\ s <= 31 /\ nv l * 2 ^ s.toNat < 4294967296 ^ n.toNat := hp
  simp only [A2e]
  rw [wr (a := n - 1) (by omega) (by omega), wr (a := n - 2) (by omega) (by omega), wr (a := n - 3) (by omega) (by omega), wr (a := 32 - s) (by omega) (by omega)]
  refine ⟨by omega, ?_⟩
  rintro ⟨a, _⟩ _ ha
  refine ⟨by decide, by omega, ?_⟩
  rintro ⟨b, _⟩ _ hb
  refine ⟨s0, by omega, ?_⟩
  rintro ⟨c, _⟩ _ hc
  simp only at ha hb hc ⊢
  rw [F8j hl (by omega)] at ha hb hc
  have da := R9 hl (n - 1).toNat
  have db := R9 hl (n - 2).toNat
  have dc := R9 hl (n - 3).toNat
  obtain ⟨m, rfl⟩ : ∃ m : Nat, n = (m : Int) + 3 := ⟨(n - 3).toNat, by omega⟩
  rw [show ((m : Int) + 3 - 1).toNat = m + 2 from by omega] at ha da
  rw [show ((m : Int) + 3 - 2).toNat = m + 1 from by omega] at hb db
  rw [show ((m : Int) + 3 - 3).toNat = m from by omega] at hc dc
  rw [show ((m : Int) + 3).toNat = m + 3 from by omega] at hlt ⊢
  rw [show m + 3 - 2 = m + 1 from by omega]
  have e3 := F1b l (n := m) (by omega)
  have hlow := R1 hl m
  have hP : 0 < 4294967296 ^ m := Nat.pow_pos (by decide)
  subst ha hb hc
  generalize hA : dg l (m + 2) = A at *
  generalize hB : dg l (m + 1) = B at *
  generalize hC : dg l m = C at *
  have hval := F9q (a := nv l) (low := nv (l.take m)) (lo := C) (H := A * 4294967296 + B) (P := 4294967296 ^ m) (s := s.toNat) hP (by rw [e3]; grind) hlow (by omega)
  rw [Nat.pow_succ, hval]
  have hH : (A * 4294967296 + B) * 2 ^ s.toNat < 18446744073709551616 := by
    have h1 : (A * 4294967296 + B) * 2 ^ s.toNat * (4294967296 ^ m * 4294967296) <= nv l * 2 ^ s.toNat := by
      have : (A * 4294967296 + B) * (4294967296 ^ m * 4294967296) <= nv l := by rw [e3]; grind
      have := Nat.mul_le_mul_right (2 ^ s.toNat) this
      rwa [Nat.mul_right_comm] at this
    have h2 : 4294967296 ^ (m + 3) = 18446744073709551616 * (4294967296 ^ m * 4294967296) := by
      rw [Nat.pow_succ, Nat.pow_succ, Nat.pow_succ]; grind
    rw [h2] at hlt
    exact Nat.lt_of_mul_lt_mul_right (Nat.lt_of_le_of_lt h1 hlt)
  have hmin : Min.min (Int.toNat s) IntKind.u64.bits = s.toNat := by show Min.min (Int.toNat s) 64 = _; omega
  have hmin2 : Min.min (Int.toNat (32 - s)) IntKind.u64.bits = 32 - s.toNat := by show Min.min (Int.toNat (32 - s)) 64 = _; omega
  rw [hmin, hmin2, show Min.min (Int.toNat 32) IntKind.u64.bits = 32 from rfl]
  have hHA : A * 4294967296 + B < 18446744073709551616 := by omega
  have q1 : (((BitVec.ofInt IntKind.u64.bits (IntKind.u64.wrap ((A : Int) * 2 ^ 32)) ||| BitVec.ofInt IntKind.u64.bits (B : Int)).toNat : Nat) : Int) = ((A * 4294967296 + B : Nat) : Int) := by
    rw [w64 (a := (A : Int) * 2 ^ 32) (by omega) (by omega)]
    have := C9x (v := (B : Int)) (b := (A : Int)) (k := 32) (by omega) (by omega) (by omega) (by omega) (by omega)
    rw [show IntKind.u64.bits = 64 from rfl, this]; omega
  rw [q1, w64 (a := ((A * 4294967296 + B : Nat) : Int)) (by omega) (by omega)]
  have hpc : ((2 : Int) ^ s.toNat) = ((2 ^ s.toNat : Nat) : Int) := by rw [Int.natCast_pow]; rfl
  have hHc : ((A * 4294967296 + B : Nat) : Int) * 2 ^ s.toNat = (((A * 4294967296 + B) * 2 ^ s.toNat : Nat) : Int) := by rw [hpc, Int.natCast_mul]
  have q2 : Int.fdiv (C : Int) (2 ^ (32 - s.toNat)) = ((C / 2 ^ (32 - s.toNat) : Nat) : Int) := by
    have hpc2 : ((2 : Int) ^ (32 - s.toNat)) = ((2 ^ (32 - s.toNat) : Nat) : Int) := by rw [Int.natCast_pow]; rfl
    rw [hpc2, Int.fdiv_eq_ediv_of_nonneg _ (Int.natCast_nonneg _)]; rfl
  have hlo : C / 2 ^ (32 - s.toNat) < 2 ^ s.toNat := by
    rw [Nat.div_lt_iff_lt_mul (Nat.pow_pos (by decide)), <- B8y (by omega)]; omega
  have hH0 : (0 : Int) <= (((A * 4294967296 + B) * 2 ^ s.toNat : Nat) : Int) := Int.natCast_nonneg _
  rw [q2, w64 (a := ((A * 4294967296 + B : Nat) : Int) * 2 ^ s.toNat) (by rw [hHc]; omega) (by rw [hHc]; omega)]
  generalize C / 2 ^ (32 - s.toNat) = L at *
  have hlo2 : (L : Int) < 2 ^ s.toNat := by rw [hpc]; omega
  have h231 : (2 : Nat) ^ s.toNat <= 2 ^ 31 := Nat.pow_le_pow_right (by decide) (by omega)
  have q3 := C9x (v := (L : Int)) (b := ((A * 4294967296 + B : Nat) : Int)) (k := s.toNat) (by omega) hlo2 (by omega) (by rw [hHc]; omega) (by omega)
  rw [show IntKind.u64.bits = 64 from rfl, q3, hHc, w64 (a := (L : Int) + (((A * 4294967296 + B) * 2 ^ s.toNat : Nat) : Int)) (Int.add_nonneg (Int.natCast_nonneg _) hH0) ?_]
  . constructor
    . exact Int.sub_nonneg.2 (Int.le_trans s1 (by decide))
    . rw [Int.natCast_add]; exact Int.add_comm _ _
  . -- the shifted number and the digits behind it are below 2^64
    have h2 : (18446744073709551616 : Nat) = 18446744073709551616 / 2 ^ s.toNat * 2 ^ s.toNat := by
      refine (Nat.div_mul_cancel ?_).symm
      exact ⟨2 ^ (64 - s.toNat), by rw [<- Nat.pow_add, show s.toNat + (64 - s.toNat) = 64 from by omega]⟩
    have h3 : A * 4294967296 + B < 18446744073709551616 / 2 ^ s.toNat := by
      rw [h2] at hH
      exact Nat.lt_of_mul_lt_mul_right hH
    have h4 : (A * 4294967296 + B + 1) * 2 ^ s.toNat <= 18446744073709551616 := by
      rw [h2]; exact Nat.mul_le_mul_right _ h3
    rw [Nat.add_mul, Nat.one_mul] at h4
    have h5 : L + (A * 4294967296 + B) * 2 ^ s.toNat < 18446744073709551616 := Nat.lt_of_lt_of_le (by rw [Nat.add_comm]; exact Nat.add_lt_add_left hlo _) h4
    have h6 : ((L + (A * 4294967296 + B) * 2 ^ s.toNat : Nat) : Int) < 18446744073709551616 := Int.ofNat_lt.2 h5
    rw [Int.natCast_add] at h6
    exact Int.le_of_lt_add_one h6
theorem B1h (x : A7 I9.args) (hw : awf I9.args x) (hp : I9.pre x) : A1g x := by
  obtain ⟨a, b, _⟩ := x
  have ha : A9 a := A5 hw.1.2
  have hb : A9 b := A5 hw.2.1.2
  change List Int at a b
  obtain ⟨la, a3, htop, hba, hbl⟩ : a.length <= 17592186044416 /\ 3 <= a.length /\ B2n a /\ nv b <= nv a /\ b.length <= a.length := hp
  simp only [A1g]
  have ea : IntKind.i64.wrap ((a.length : Int) - 1) = (a.length : Int) - 1 := wr (by omega) (by omega)
  rw [ea, A7d ha (by omega) (by omega), show ((a.length : Int) - 1).toNat = a.length - 1 from by omega]
  refine ⟨⟨by omega, by omega⟩, trivial, ?_⟩
  rintro ⟨s, _⟩ _ hs
  change Int at s
  simp only at hs ⊢
  rw [Int.toNat_natCast] at hs
  have hd := D0t ha htop
  have hdl := R9 ha (a.length - 1)
  have hb32 := D7l (v := dg a (a.length - 1)) (by omega)
  have hb1 := (C3q hd).2
  have hlt := F1z ha (n := a.length - 1) (by omega) (s := s.toNat) (by omega)
  rw [show a.length - 1 + 1 = a.length from by omega] at hlt
  have hltb : nv b * 2 ^ s.toNat < 4294967296 ^ a.length := Nat.lt_of_le_of_lt (Nat.mul_le_mul_right _ hba) hlt
  have hpos := D4r ha htop
  rw [Int.toNat_natCast]
  refine ⟨⟨by omega, Int.le_refl _, by omega, by omega, by omega, hlt⟩, ?_⟩
  rintro ⟨X, _⟩ ⟨hXw, _⟩ hX
  refine ⟨⟨by omega, by omega, by omega, by omega, by omega, hltb⟩, ?_⟩
  rintro ⟨Y, _⟩ ⟨hYw, _⟩ hY
  change Int at X Y
  simp only at hX hY hXw hYw ⊢
  have hK : s.toNat <= 32 * (a.length - 2) := by omega
  rw [B2e, F2q hK] at hX hY
  have hPp : 0 < 2 ^ (32 * (a.length - 2) - s.toNat) := Nat.pow_pos (by decide)
  have hXpos : 0 < X := by
    rw [hX]
    have h1 := B5x a (n := a.length - 1) (by omega)
    have h2 : 2 ^ (32 * (a.length - 2) - s.toNat) <= nv a := by
      have h3 : 2 ^ (32 * (a.length - 2) - s.toNat) <= 4294967296 ^ (a.length - 1) := by
        rw [B2e]; exact Nat.pow_le_pow_right (by decide) (by omega)
      have h4 := Nat.mul_le_mul_left (4294967296 ^ (a.length - 1)) (Nat.pos_of_ne_zero hd)
      omega
    have := (Nat.le_div_iff_mul_le hPp).2 (by rw [Nat.one_mul]; exact h2)
    omega
  have hYX : Y <= X := by rw [hX, hY]; exact Int.ofNat_le.2 (Nat.div_le_div_right hba)
  have hY0 : 0 <= Y := by rw [hY]; exact Int.natCast_nonneg _
  have hA := Nat.div_add_mod (nv a) (2 ^ (32 * (a.length - 2) - s.toNat))
  have hAm := Nat.mod_lt (nv a) hPp
  have hB := Nat.div_add_mod (nv b) (2 ^ (32 * (a.length - 2) - s.toNat))
  have hBm := Nat.mod_lt (nv b) hPp
  generalize 2 ^ (32 * (a.length - 2) - s.toNat) = K at *
  have hXM : X <= 18446744073709551615 := by have := hXw.2; rw [C3a] at this; exact this
  refine ⟨fun p => ∃ w, Leh X Y w p.1 p.2.1 p.2.2.1 p.2.2.2.1 p.2.2.2.2.1 p.2.2.2.2.2.1 p.2.2.2.2.2.2.1 p.2.2.2.2.2.2.2.1 p.2.2.2.2.2.2.2.2.1, fun p => p.2.1.toNat, ⟨0, Leh.start hY0 hYX hXpos⟩, ?_⟩
  rintro ⟨x, y, u0, u1, u2, v0, v1, v2, ev, _⟩ _ ⟨w, hL⟩
  change Int at x y u0 u1 u2 v0 v1 v2
  change Bool at ev
  simp only at hL ⊢
  have hidX := hL.idX
  have hidY := hL.idY
  have hyx := hL.yx
  have hy0 := hL.y0
  have hx0 := hL.x0
  have hu10 := hL.u10
  have hu20 := hL.u20
  have hv10 := hL.v10
  have hv20 := hL.v20
  have xv2 : x * 1 <= x * v2 := Int.mul_le_mul_of_nonneg_left hv20 (by omega)
  have yv1 : 0 <= y * v1 := Int.mul_nonneg hy0 hv10
  have xu2 : 0 <= x * u2 := Int.mul_nonneg (by omega) hu20
  have yu1 : 0 <= y * u1 := Int.mul_nonneg hy0 hu10
  have v2x : 1 * v2 <= x * v2 := Int.mul_le_mul_of_nonneg_right (by omega) (by omega)
  refine ⟨fun hc => ?_, fun _ => ?_⟩
  . rw [U2] at hc
    simp only [Bool.and_eq_true, decide_eq_true_eq] at hc
    obtain ⟨c1, c2⟩ := hc
    have hyp : 1 <= y := by omega
    have v1y : 1 * v1 <= y * v1 := Int.mul_le_mul_of_nonneg_right hyp hv10
    rw [w64 (a := v1 + v2) (by omega) (by omega), w64 (a := x - y) (by omega) (by omega)] at c2
    have hst := hL.step c1 c2
    have hsX := hst.idX
    have hsY := hst.idY
    have hsu := hst.u20
    have hsv := hst.v20
    have hq0 : 0 <= x / y := Int.ediv_nonneg (by omega) hy0
    have hqx : x / y <= x := Int.ediv_le_self _ (by omega)
    have hr0 := hst.y0
    have a1 : 1 * (v1 + x / y * v2) <= y * (v1 + x / y * v2) := Int.mul_le_mul_of_nonneg_right hyp (by omega)
    have a2 : 0 <= x % y * v2 := Int.mul_nonneg hr0 (by omega)
    have a3 : 1 * (u1 + x / y * u2) <= y * (u1 + x / y * u2) := Int.mul_le_mul_of_nonneg_right hyp hsu
    have a4 : 0 <= x % y * u2 := Int.mul_nonneg hr0 hu20
    have b1 : 0 <= x / y * v2 := Int.mul_nonneg hq0 (by omega)
    have b2 : 0 <= x / y * u2 := Int.mul_nonneg hq0 hu20
    rw [Int.tmod_eq_emod_of_nonneg (by omega), IntWalk.u64_quo _ _ ⟨by omega, by omega, by omega⟩]
    rw [w64 (a := x / y * u2) b2 (by omega), w64 (a := x / y * v2) b1 (by omega), w64 (a := u1 + x / y * u2) hsu (by omega), w64 (a := v1 + x / y * v2) (by omega) (by omega)]
    have hlt2 := Int.emod_lt_of_pos x (b := y) (by omega)
    exact ⟨by omega, by omega, ⟨x, hst⟩, by omega⟩
  . by_cases hv0 : v0 = 0
    . exact .inl hv0
    . right
      have hAi : (nv a : Int) = X * (K : Int) + ((nv a % K : Nat) : Int) := by
        rw [hX, <- Int.natCast_mul, <- Int.natCast_add, Nat.mul_comm, hA]
      have hBi : (nv b : Int) = Y * (K : Int) + ((nv b % K : Nat) : Int) := by
        rw [hY, <- Int.natCast_mul, <- Int.natCast_add, Nat.mul_comm, hB]
      exact hL.apply hv0 (P := (K : Int)) (by omega) (Int.natCast_nonneg _) (by omega) (Int.natCast_nonneg _) (by omega) hAi hBi
theorem B2p (x : A7 H9.args) (hw : awf H9.args x) (hp : H9.pre x) : A0o x := by
  obtain ⟨a, x, b, y, _⟩ := x
  have ha : A9 a := A5 hw.1.2
  have hb : A9 b := A5 hw.2.2.1.2
  change List Int at a b
  change Int at x y
  have hx := (show IntKind.u64.min <= x /\ x <= IntKind.u64.max from hw.2.1)
  have hy := (show IntKind.u64.min <= y /\ y <= IntKind.u64.max from hw.2.2.2.1)
  rw [E4e, C3a] at hx hy
  obtain ⟨la, lb, hle⟩ : a.length <= 8796093022208 /\ b.length <= 8796093022208 /\ nv b * y.toNat <= nv a * x.toNat := hp
  have n1 := C5 ha
  have n2 := C5 hb
  have n3 : (nc x.toNat).length <= 2 := A5i (by omega)
  have n4 : (nc y.toNat).length <= 2 := A5i (by omega)
  have n5 := B5f (nv a) x.toNat
  have n6 := B5f (nv b) y.toNat
  simp only [A0o]
  refine ⟨trivial, ?_⟩
  rintro ⟨r, _⟩ _ hr
  simp only at hr ⊢
  subst hr
  refine ⟨⟨by omega, by omega⟩, ?_⟩
  rintro ⟨r1, _⟩ _ hr1
  refine ⟨trivial, ?_⟩
  rintro ⟨r, _⟩ _ hr
  simp only at hr hr1 ⊢
  subst hr
  refine ⟨⟨by omega, by omega⟩, ?_⟩
  rintro ⟨r2, _⟩ _ hr2
  simp only at hr2 ⊢
  rw [H2] at hr1 hr2
  subst hr1 hr2
  refine ⟨⟨by omega, by omega⟩, ?_⟩
  rintro ⟨r, ok, _⟩ _ ⟨_, h2⟩
  simp only at h2 ⊢
  rw [H2, H2] at h2
  exact (h2 hle).1
noncomputable def A6w : B6 := []
def A7q : An := { join := [(8, ⟨[0, 1, 5], [0, 1, 2], [(7, false, [.val (.int .u64)])], [], []⟩)], loop := [(4, ⟨[0, 1, 5], [0, 1, 2], [(7, false, [.val (.int .u64)]), (8, false, [.val (.int .u64)])], [], []⟩), (10, ⟨[0, 1, 5, 7, 84, 85], [0, 2], [(9, false, [.val (.int .u64)]), (86, false, [.val (.int .i64)])], [], [(1, .row (.int .u32) 153)]⟩), (23, ⟨[0, 5, 7, 134, 135], [0, 2], [(9, false, [.val (.int .u64)]), (136, false, [.val (.int .i64)])], [], [(1, .row (.int .u32) 153)]⟩)], plan := [(2, [3, 10], [], true, (.p 0 (.p 1 (.p 2 (.q 3 (.p 4 (.p 5 (.p 6 (.p 7 (.p 8 (.p 9 (.q 10 (.p 11 (.p 12 (.p 13 .done))))))))))))))), (3, [5, 13], [], true, (.p 0 (.p 1 (.p 2 (.p 3 (.p 4 (.q 5 (.p 6 (.p 7 (.p 8 (.p 9 (.p 10 (.p 11 (.p 12 (.q 13 (.p 14 (.p 15 (.p 16 (.p 17 .done))))))))))))))))))), (4, [9, 18], [], true, (.p 0 (.p 1 (.p 2 (.p 3 (.p 4 (.p 5 (.p 6 (.p 7 (.p 8 (.q 9 (.p 10 (.p 11 (.p 12 (.p 13 (.p 14 (.p 15 (.p 16 (.p 17 (.q 18 (.p 19 (.p 20 (.p 21 (.p 22 .done))))))))))))))))))))))))] }
def B1i : An := { join := [(12, ⟨[4, 6, 7, 8, 9, 10, 35, 36], [0], [], [], [(1, .row (.int .u32) 153), (2, .row (.int .u32) 153)]⟩)], loop := [(8, ⟨[4, 6, 7, 8, 9, 10, 35], [0], [(36, false, [.val (.int .i64)])], [], [(1, .row (.int .u32) 153), (2, .row (.int .u32) 153)]⟩)] }
noncomputable def A2s : B6 := [(186, C7), (238, D5), (240, I6), (242, E9), (241, A4l (E2k ⟨Tryz.prog, tys⟩ [(53, A6w, A7q)] Tryz.f241.results.toList (Tryz.f241.body.getD .skip) Tryz.f241.ntmps))]
def U7 : A7 F0.args -> Prop := fun (x : List Int × List Int × Unit) => ((0 : Int) <= IntKind.i64.wrap ((x.2.1.length : Int) - (1 : Int)) /\ IntKind.i64.wrap ((x.2.1.length : Int) - (1 : Int)) < (x.2.1.length : Int)) /\ True /\ ∀ (r : Int × Unit), G2 r.1 /\ True -> r.1 = 32 - (↑(X7 (gx (0 : Int) x.2.1 (IntKind.i64.wrap ((x.2.1.length : Int) - (1 : Int)))).toNat) : Int) -> (sh1 x.2.1 /\ 0 <= r.1 /\ r.1 <= 31) /\ ∀ (e : List Int × Unit), WfU e.1 /\ True -> e.1.length = List.length x.2.1 + 1 /\ nv e.1 = nv x.2.1 * 2 ^ Int.toNat r.1 -> ((0 : Int) <= (0 : Int) /\ (0 : Int) <= (x.2.1.length : Int) /\ (x.2.1.length : Int) <= (e.1.length : Int)) /\ (sh1 x.1 /\ 0 <= r.1 /\ r.1 <= 31) /\ ∀ (a : List Int × Unit), WfU a.1 /\ True -> a.1.length = List.length x.1 + 1 /\ nv a.1 = nv x.1 * 2 ^ Int.toNat r.1 -> ((0 : Int) <= IntKind.i64.wrap ((a.1.length : Int) - (x.2.1.length : Int)) /\ IntKind.i64.wrap ((a.1.length : Int) - (x.2.1.length : Int)) <= IntKind.i64.wrap ((a.1.length : Int) - (x.2.1.length : Int)) /\ (↑(4 : Nat) : Int) * IntKind.i64.wrap ((a.1.length : Int) - (x.2.1.length : Int)) <= (281474976710656 : Int) /\ IntKind.i64.wrap ((a.1.length : Int) - (x.2.1.length : Int)) <= (9223372036854775807 : Int)) /\ ∃ (I : Int × List Int × List Int × Unit -> Prop), ∃ (μ : Int × List Int × List Int × Unit -> Nat), I ((0 : Int), a.1, List.replicate (IntKind.i64.wrap ((a.1.length : Int) - (x.2.1.length : Int))).toNat (0 : Int), ()) /\ ∀ (p : Int × List Int × List Int × Unit), G2 p.1 /\ WfU p.2.1 /\ WfU p.2.2.1 /\ True -> I p -> (decide (p.1 < IntKind.i64.wrap ((a.1.length : Int) - (x.2.1.length : Int))) = true -> ∃ (J : List Int × List Int × Unit -> Prop), (((0 : Int) <= IntKind.i64.wrap (IntKind.i64.wrap (IntKind.i64.wrap ((a.1.length : Int) - (x.2.1.length : Int)) - (1 : Int)) - p.1) /\ IntKind.i64.wrap (IntKind.i64.wrap (IntKind.i64.wrap ((a.1.length : Int) - (x.2.1.length : Int)) - (1 : Int)) - p.1) <= IntKind.i64.wrap (IntKind.i64.wrap (IntKind.i64.wrap (IntKind.i64.wrap (IntKind.i64.wrap ((a.1.length : Int) - (x.2.1.length : Int)) - (1 : Int)) - p.1) + (x.2.1.length : Int)) + (1 : Int)) /\ IntKind.i64.wrap (IntKind.i64.wrap (IntKind.i64.wrap (IntKind.i64.wrap (IntKind.i64.wrap ((a.1.length : Int) - (x.2.1.length : Int)) - (1 : Int)) - p.1) + (x.2.1.length : Int)) + (1 : Int)) <= (p.2.1.length : Int)) /\ ((0 : Int) <= (x.2.1.length : Int) - (0 : Int) /\ (x.2.1.length : Int) - (0 : Int) < IntKind.i64.wrap (IntKind.i64.wrap (IntKind.i64.wrap (IntKind.i64.wrap (IntKind.i64.wrap ((a.1.length : Int) - (x.2.1.length : Int)) - (1 : Int)) - p.1) + (x.2.1.length : Int)) + (1 : Int)) - IntKind.i64.wrap (IntKind.i64.wrap (IntKind.i64.wrap ((a.1.length : Int) - (x.2.1.length : Int)) - (1 : Int)) - p.1)) /\ (0 : (Ty.int IntKind.u64).den) <= (32 : Int) /\ ((0 : Int) <= IntKind.i64.wrap ((x.2.1.length : Int) - (0 : Int) - (1 : Int)) /\ IntKind.i64.wrap ((x.2.1.length : Int) - (0 : Int) - (1 : Int)) < IntKind.i64.wrap (IntKind.i64.wrap (IntKind.i64.wrap (IntKind.i64.wrap (IntKind.i64.wrap ((a.1.length : Int) - (x.2.1.length : Int)) - (1 : Int)) - p.1) + (x.2.1.length : Int)) + (1 : Int)) - IntKind.i64.wrap (IntKind.i64.wrap (IntKind.i64.wrap ((a.1.length : Int) - (x.2.1.length : Int)) - (1 : Int)) - p.1)) /\ ((0 : Int) <= IntKind.i64.wrap ((x.2.1.length : Int) - (0 : Int) - (1 : Int)) /\ IntKind.i64.wrap ((x.2.1.length : Int) - (0 : Int) - (1 : Int)) < (x.2.1.length : Int) - (0 : Int)) /\ IntKind.u64.wrap (List.getD e.1 ((0 : Int) + IntKind.i64.wrap ((x.2.1.length : Int) - (0 : Int) - (1 : Int))).toNat (0 : Int)) ≠ (0 : Int) /\ ((0 : Int) <= IntKind.i64.wrap ((x.2.1.length : Int) - (0 : Int) - (1 : Int)) /\ IntKind.i64.wrap ((x.2.1.length : Int) - (0 : Int) - (1 : Int)) < (x.2.1.length : Int) - (0 : Int)) /\ IntKind.u64.wrap (List.getD e.1 ((0 : Int) + IntKind.i64.wrap ((x.2.1.length : Int) - (0 : Int) - (1 : Int))).toNat (0 : Int)) ≠ (0 : Int) /\ ∃ (J_1 : Int × Unit -> Prop), (∃ (I : Int × Int × Unit -> Prop), ∃ (μ : Int × Int × Unit -> Nat), I (IntKind.u64.wrap ((IntKind.u64.wrap (↑(BitVec.ofInt IntKind.u64.bits (IntKind.u64.wrap (IntKind.u64.wrap (List.getD p.2.1 (IntKind.i64.wrap (IntKind.i64.wrap (IntKind.i64.wrap ((a.1.length : Int) - (x.2.1.length : Int)) - (1 : Int)) - p.1) + ((x.2.1.length : Int) - (0 : Int))).toNat (0 : Int)) * (2 : Int) ^ Min.min (Int.toNat (32 : Int)) IntKind.u64.bits)) ||| BitVec.ofInt IntKind.u64.bits (IntKind.u64.wrap (List.getD p.2.1 (IntKind.i64.wrap (IntKind.i64.wrap (IntKind.i64.wrap ((a.1.length : Int) - (x.2.1.length : Int)) - (1 : Int)) - p.1) + IntKind.i64.wrap ((x.2.1.length : Int) - (0 : Int) - (1 : Int))).toNat (0 : Int)))).toNat : Int)).tdiv (IntKind.u64.wrap (List.getD e.1 ((0 : Int) + IntKind.i64.wrap ((x.2.1.length : Int) - (0 : Int) - (1 : Int))).toNat (0 : Int)))), (IntKind.u64.wrap (↑(BitVec.ofInt IntKind.u64.bits (IntKind.u64.wrap (IntKind.u64.wrap (List.getD p.2.1 (IntKind.i64.wrap (IntKind.i64.wrap (IntKind.i64.wrap ((a.1.length : Int) - (x.2.1.length : Int)) - (1 : Int)) - p.1) + ((x.2.1.length : Int) - (0 : Int))).toNat (0 : Int)) * (2 : Int) ^ Min.min (Int.toNat (32 : Int)) IntKind.u64.bits)) ||| BitVec.ofInt IntKind.u64.bits (IntKind.u64.wrap (List.getD p.2.1 (IntKind.i64.wrap (IntKind.i64.wrap (IntKind.i64.wrap ((a.1.length : Int) - (x.2.1.length : Int)) - (1 : Int)) - p.1) + IntKind.i64.wrap ((x.2.1.length : Int) - (0 : Int) - (1 : Int))).toNat (0 : Int)))).toNat : Int)).tmod (IntKind.u64.wrap (List.getD e.1 ((0 : Int) + IntKind.i64.wrap ((x.2.1.length : Int) - (0 : Int) - (1 : Int))).toNat (0 : Int))), ()) /\ ∀ (c : Int × Int × Unit), K9 c.1 /\ K9 c.2.1 /\ True -> I c -> (0 : (Ty.int IntKind.u64).den) <= (32 : Int) /\ (decide (Int.fdiv c.1 ((2 : Int) ^ Min.min (Int.toNat (32 : Int)) IntKind.u64.bits) ≠ (0 : Int)) = false -> (0 : Int) <= IntKind.i64.wrap ((x.2.1.length : Int) - (0 : Int) - (2 : Int)) /\ IntKind.i64.wrap ((x.2.1.length : Int) - (0 : Int) - (2 : Int)) < (x.2.1.length : Int) - (0 : Int)) /\ (decide (Int.fdiv c.1 ((2 : Int) ^ Min.min (Int.toNat (32 : Int)) IntKind.u64.bits) ≠ (0 : Int)) = false -> (0 : (Ty.int IntKind.u64).den) <= (32 : Int)) /\ (decide (Int.fdiv c.1 ((2 : Int) ^ Min.min (Int.toNat (32 : Int)) IntKind.u64.bits) ≠ (0 : Int)) = false -> (0 : Int) <= IntKind.i64.wrap ((x.2.1.length : Int) - (0 : Int) - (2 : Int)) /\ IntKind.i64.wrap ((x.2.1.length : Int) - (0 : Int) - (2 : Int)) < IntKind.i64.wrap (IntKind.i64.wrap (IntKind.i64.wrap (IntKind.i64.wrap (IntKind.i64.wrap ((a.1.length : Int) - (x.2.1.length : Int)) - (1 : Int)) - p.1) + (x.2.1.length : Int)) + (1 : Int)) - IntKind.i64.wrap (IntKind.i64.wrap (IntKind.i64.wrap ((a.1.length : Int) - (x.2.1.length : Int)) - (1 : Int)) - p.1)) /\ (sel (decide (Int.fdiv c.1 ((2 : Int) ^ Min.min (Int.toNat (32 : Int)) IntKind.u64.bits) ≠ (0 : Int))) true (decide (IntKind.u64.wrap (↑(BitVec.ofInt IntKind.u64.bits (IntKind.u64.wrap (c.2.1 * 2 ^ Min.min (Int.toNat (32 : Int)) IntKind.u64.bits)) ||| BitVec.ofInt IntKind.u64.bits (IntKind.u64.wrap (List.getD p.2.1 (IntKind.i64.wrap (IntKind.i64.wrap (IntKind.i64.wrap ((a.1.length : Int) - (x.2.1.length : Int)) - (1 : Int)) - p.1) + IntKind.i64.wrap ((x.2.1.length : Int) - (0 : Int) - (2 : Int))).toNat (0 : Int)))).toNat : Int) < IntKind.u64.wrap (c.1 * IntKind.u64.wrap (List.getD e.1 ((0 : Int) + IntKind.i64.wrap ((x.2.1.length : Int) - (0 : Int) - (2 : Int))).toNat (0 : Int))))) = true -> ((0 : Int) <= IntKind.i64.wrap ((x.2.1.length : Int) - (0 : Int) - (1 : Int)) /\ IntKind.i64.wrap ((x.2.1.length : Int) - (0 : Int) - (1 : Int)) < (x.2.1.length : Int) - (0 : Int)) /\ (0 : (Ty.int IntKind.u64).den) <= (32 : Int) /\ (decide ((IntKind.u64.wrap (c.2.1 + IntKind.u64.wrap (List.getD e.1 ((0 : Int) + IntKind.i64.wrap ((x.2.1.length : Int) - (0 : Int) - (1 : Int))).toNat (0 : Int)))).fdiv ((2 : Int) ^ Min.min (Int.toNat (32 : Int)) IntKind.u64.bits) ≠ (0 : Int)) = true -> J_1 (IntKind.u64.wrap (c.1 - 1), ())) /\ (decide ((IntKind.u64.wrap (c.2.1 + IntKind.u64.wrap (List.getD e.1 ((0 : Int) + IntKind.i64.wrap ((x.2.1.length : Int) - (0 : Int) - (1 : Int))).toNat (0 : Int)))).fdiv ((2 : Int) ^ Min.min (Int.toNat (32 : Int)) IntKind.u64.bits) ≠ (0 : Int)) = false -> I (IntKind.u64.wrap (c.1 - 1), IntKind.u64.wrap (c.2.1 + IntKind.u64.wrap (List.getD e.1 ((0 : Int) + IntKind.i64.wrap ((x.2.1.length : Int) - (0 : Int) - (1 : Int))).toNat (0 : Int))), ()) /\ μ (IntKind.u64.wrap (c.1 - 1), IntKind.u64.wrap (c.2.1 + IntKind.u64.wrap (List.getD e.1 ((0 : Int) + IntKind.i64.wrap ((x.2.1.length : Int) - (0 : Int) - (1 : Int))).toNat (0 : Int))), ()) < μ c)) /\ (sel (decide (Int.fdiv c.1 ((2 : Int) ^ Min.min (Int.toNat (32 : Int)) IntKind.u64.bits) ≠ (0 : Int))) true (decide (IntKind.u64.wrap (↑(BitVec.ofInt IntKind.u64.bits (IntKind.u64.wrap (c.2.1 * 2 ^ Min.min (Int.toNat (32 : Int)) IntKind.u64.bits)) ||| BitVec.ofInt IntKind.u64.bits (IntKind.u64.wrap (List.getD p.2.1 (IntKind.i64.wrap (IntKind.i64.wrap (IntKind.i64.wrap ((a.1.length : Int) - (x.2.1.length : Int)) - (1 : Int)) - p.1) + IntKind.i64.wrap ((x.2.1.length : Int) - (0 : Int) - (2 : Int))).toNat (0 : Int)))).toNat : Int) < IntKind.u64.wrap (c.1 * IntKind.u64.wrap (List.getD e.1 ((0 : Int) + IntKind.i64.wrap ((x.2.1.length : Int) - (0 : Int) - (2 : Int))).toNat (0 : Int))))) = false -> J_1 (c.1, ()))) /\ ∀ (c : Int × Unit), K9 c.1 /\ True -> J_1 c -> ∃ (I : Int × Int × List Int × Unit -> Prop), ∃ (μ : Int × Int × List Int × Unit -> Nat), I ((0 : Int), (0 : Int), p.2.1, ()) /\ ∀ (b : Int × Int × List Int × Unit), K9 b.1 /\ G2 b.2.1 /\ WfU b.2.2.1 /\ True -> I b -> (decide (b.2.1 < (x.2.1.length : Int) - (0 : Int)) = true -> (0 <= b.2.1 /\ b.2.1 < (x.2.1.length : Int) - (0 : Int)) /\ (0 <= b.2.1 /\ b.2.1 < IntKind.i64.wrap (IntKind.i64.wrap (IntKind.i64.wrap (IntKind.i64.wrap (IntKind.i64.wrap ((a.1.length : Int) - (x.2.1.length : Int)) - (1 : Int)) - p.1) + (x.2.1.length : Int)) + (1 : Int)) - IntKind.i64.wrap (IntKind.i64.wrap (IntKind.i64.wrap ((a.1.length : Int) - (x.2.1.length : Int)) - (1 : Int)) - p.1)) /\ (0 <= b.2.1 /\ b.2.1 < IntKind.i64.wrap (IntKind.i64.wrap (IntKind.i64.wrap (IntKind.i64.wrap (IntKind.i64.wrap ((a.1.length : Int) - (x.2.1.length : Int)) - (1 : Int)) - p.1) + (x.2.1.length : Int)) + (1 : Int)) - IntKind.i64.wrap (IntKind.i64.wrap (IntKind.i64.wrap ((a.1.length : Int) - (x.2.1.length : Int)) - (1 : Int)) - p.1)) /\ (0 : (Ty.int IntKind.u64).den) <= (32 : Int) /\ (0 : (Ty.int IntKind.u64).den) <= (63 : Int) /\ I (IntKind.u64.wrap ((IntKind.u64.wrap (IntKind.u64.wrap (c.1 * IntKind.u64.wrap (List.getD e.1 (0 + b.2.1).toNat (0 : Int))) + b.1)).fdiv ((2 : Int) ^ Min.min (Int.toNat (32 : Int)) IntKind.u64.bits) + (IntKind.u64.wrap (IntKind.u64.wrap (List.getD b.2.2.1 (IntKind.i64.wrap (IntKind.i64.wrap (IntKind.i64.wrap ((a.1.length : Int) - (x.2.1.length : Int)) - (1 : Int)) - p.1) + b.2.1).toNat (0 : Int)) - IntKind.u64.wrap (IntKind.u32.wrap (IntKind.u64.wrap (IntKind.u64.wrap (c.1 * IntKind.u64.wrap (List.getD e.1 (0 + b.2.1).toNat (0 : Int))) + b.1))))).fdiv ((2 : Int) ^ Min.min (Int.toNat (63 : Int)) IntKind.u64.bits)), IntKind.i64.wrap (b.2.1 + 1), List.set b.2.2.1 (IntKind.i64.wrap (IntKind.i64.wrap (IntKind.i64.wrap ((a.1.length : Int) - (x.2.1.length : Int)) - (1 : Int)) - p.1) + b.2.1).toNat (IntKind.u32.wrap (IntKind.u64.wrap (IntKind.u64.wrap (List.getD b.2.2.1 (IntKind.i64.wrap (IntKind.i64.wrap (IntKind.i64.wrap ((a.1.length : Int) - (x.2.1.length : Int)) - (1 : Int)) - p.1) + b.2.1).toNat (0 : Int)) - IntKind.u64.wrap (IntKind.u32.wrap (IntKind.u64.wrap (IntKind.u64.wrap (c.1 * IntKind.u64.wrap (List.getD e.1 (0 + b.2.1).toNat (0 : Int))) + b.1)))))), ()) /\ μ (IntKind.u64.wrap ((IntKind.u64.wrap (IntKind.u64.wrap (c.1 * IntKind.u64.wrap (List.getD e.1 (0 + b.2.1).toNat (0 : Int))) + b.1)).fdiv ((2 : Int) ^ Min.min (Int.toNat (32 : Int)) IntKind.u64.bits) + (IntKind.u64.wrap (IntKind.u64.wrap (List.getD b.2.2.1 (IntKind.i64.wrap (IntKind.i64.wrap (IntKind.i64.wrap ((a.1.length : Int) - (x.2.1.length : Int)) - (1 : Int)) - p.1) + b.2.1).toNat (0 : Int)) - IntKind.u64.wrap (IntKind.u32.wrap (IntKind.u64.wrap (IntKind.u64.wrap (c.1 * IntKind.u64.wrap (List.getD e.1 (0 + b.2.1).toNat (0 : Int))) + b.1))))).fdiv ((2 : Int) ^ Min.min (Int.toNat (63 : Int)) IntKind.u64.bits)), IntKind.i64.wrap (b.2.1 + 1), List.set b.2.2.1 (IntKind.i64.wrap (IntKind.i64.wrap (IntKind.i64.wrap ((a.1.length : Int) - (x.2.1.length : Int)) - (1 : Int)) - p.1) + b.2.1).toNat (IntKind.u32.wrap (IntKind.u64.wrap (IntKind.u64.wrap (List.getD b.2.2.1 (IntKind.i64.wrap (IntKind.i64.wrap (IntKind.i64.wrap ((a.1.length : Int) - (x.2.1.length : Int)) - (1 : Int)) - p.1) + b.2.1).toNat (0 : Int)) - IntKind.u64.wrap (IntKind.u32.wrap (IntKind.u64.wrap (IntKind.u64.wrap (c.1 * IntKind.u64.wrap (List.getD e.1 (0 + b.2.1).toNat (0 : Int))) + b.1)))))), ()) < μ b) /\ (decide (b.2.1 < (x.2.1.length : Int) - (0 : Int)) = false -> ((0 : Int) <= (x.2.1.length : Int) - (0 : Int) /\ (x.2.1.length : Int) - (0 : Int) < IntKind.i64.wrap (IntKind.i64.wrap (IntKind.i64.wrap (IntKind.i64.wrap (IntKind.i64.wrap ((a.1.length : Int) - (x.2.1.length : Int)) - (1 : Int)) - p.1) + (x.2.1.length : Int)) + (1 : Int)) - IntKind.i64.wrap (IntKind.i64.wrap (IntKind.i64.wrap ((a.1.length : Int) - (x.2.1.length : Int)) - (1 : Int)) - p.1)) /\ ((0 : Int) <= (x.2.1.length : Int) - (0 : Int) /\ (x.2.1.length : Int) - (0 : Int) < IntKind.i64.wrap (IntKind.i64.wrap (IntKind.i64.wrap (IntKind.i64.wrap (IntKind.i64.wrap ((a.1.length : Int) - (x.2.1.length : Int)) - (1 : Int)) - p.1) + (x.2.1.length : Int)) + (1 : Int)) - IntKind.i64.wrap (IntKind.i64.wrap (IntKind.i64.wrap ((a.1.length : Int) - (x.2.1.length : Int)) - (1 : Int)) - p.1)) /\ (0 : (Ty.int IntKind.u64).den) <= (63 : Int) /\ (decide ((IntKind.u64.wrap (IntKind.u64.wrap (List.getD b.2.2.1 (IntKind.i64.wrap (IntKind.i64.wrap (IntKind.i64.wrap ((a.1.length : Int) - (x.2.1.length : Int)) - (1 : Int)) - p.1) + ((x.2.1.length : Int) - (0 : Int))).toNat (0 : Int)) - b.1)).fdiv ((2 : Int) ^ Min.min (Int.toNat (63 : Int)) IntKind.u64.bits) = (0 : Int)) = true -> ((0 : Int) <= IntKind.i64.wrap (IntKind.i64.wrap (IntKind.i64.wrap ((a.1.length : Int) - (x.2.1.length : Int)) - (1 : Int)) - p.1) /\ IntKind.i64.wrap (IntKind.i64.wrap (IntKind.i64.wrap ((a.1.length : Int) - (x.2.1.length : Int)) - (1 : Int)) - p.1) < (p.2.2.1.length : Int)) /\ J (List.set b.2.2.1 (IntKind.i64.wrap (IntKind.i64.wrap (IntKind.i64.wrap ((a.1.length : Int) - (x.2.1.length : Int)) - (1 : Int)) - p.1) + ((x.2.1.length : Int) - (0 : Int))).toNat (IntKind.u32.wrap (IntKind.u64.wrap (IntKind.u64.wrap (List.getD b.2.2.1 (IntKind.i64.wrap (IntKind.i64.wrap (IntKind.i64.wrap ((a.1.length : Int) - (x.2.1.length : Int)) - (1 : Int)) - p.1) + ((x.2.1.length : Int) - (0 : Int))).toNat (0 : Int)) - b.1))), List.set p.2.2.1 (IntKind.i64.wrap (IntKind.i64.wrap (IntKind.i64.wrap ((a.1.length : Int) - (x.2.1.length : Int)) - (1 : Int)) - p.1)).toNat (IntKind.u32.wrap c.1), ())) /\ (decide ((IntKind.u64.wrap (IntKind.u64.wrap (List.getD b.2.2.1 (IntKind.i64.wrap (IntKind.i64.wrap (IntKind.i64.wrap ((a.1.length : Int) - (x.2.1.length : Int)) - (1 : Int)) - p.1) + ((x.2.1.length : Int) - (0 : Int))).toNat (0 : Int)) - b.1)).fdiv ((2 : Int) ^ Min.min (Int.toNat (63 : Int)) IntKind.u64.bits) = (0 : Int)) = false -> ∃ (I : Int × Int × List Int × Unit -> Prop), ∃ (μ : Int × Int × List Int × Unit -> Nat), I ((0 : Int), (0 : Int), List.set b.2.2.1 (IntKind.i64.wrap (IntKind.i64.wrap (IntKind.i64.wrap ((a.1.length : Int) - (x.2.1.length : Int)) - (1 : Int)) - p.1) + ((x.2.1.length : Int) - (0 : Int))).toNat (IntKind.u32.wrap (IntKind.u64.wrap (IntKind.u64.wrap (List.getD b.2.2.1 (IntKind.i64.wrap (IntKind.i64.wrap (IntKind.i64.wrap ((a.1.length : Int) - (x.2.1.length : Int)) - (1 : Int)) - p.1) + ((x.2.1.length : Int) - (0 : Int))).toNat (0 : Int)) - b.1))), ()) /\ ∀ (d : Int × Int × List Int × Unit), K9 d.1 /\ G2 d.2.1 /\ WfU d.2.2.1 /\ True -> I d -> (decide (d.2.1 < (x.2.1.length : Int) - (0 : Int)) = true -> (0 <= d.2.1 /\ d.2.1 < (x.2.1.length : Int) - (0 : Int)) /\ (0 <= d.2.1 /\ d.2.1 < IntKind.i64.wrap (IntKind.i64.wrap (IntKind.i64.wrap (IntKind.i64.wrap (IntKind.i64.wrap ((a.1.length : Int) - (x.2.1.length : Int)) - (1 : Int)) - p.1) + (x.2.1.length : Int)) + (1 : Int)) - IntKind.i64.wrap (IntKind.i64.wrap (IntKind.i64.wrap ((a.1.length : Int) - (x.2.1.length : Int)) - (1 : Int)) - p.1)) /\ (0 <= d.2.1 /\ d.2.1 < IntKind.i64.wrap (IntKind.i64.wrap (IntKind.i64.wrap (IntKind.i64.wrap (IntKind.i64.wrap ((a.1.length : Int) - (x.2.1.length : Int)) - (1 : Int)) - p.1) + (x.2.1.length : Int)) + (1 : Int)) - IntKind.i64.wrap (IntKind.i64.wrap (IntKind.i64.wrap ((a.1.length : Int) - (x.2.1.length : Int)) - (1 : Int)) - p.1)) /\ (0 : (Ty.int IntKind.u64).den) <= (32 : Int) /\ I ((IntKind.u64.wrap (d.1 + IntKind.u64.wrap (IntKind.u64.wrap (List.getD d.2.2.1 (IntKind.i64.wrap (IntKind.i64.wrap (IntKind.i64.wrap ((a.1.length : Int) - (x.2.1.length : Int)) - (1 : Int)) - p.1) + d.2.1).toNat (0 : Int)) + IntKind.u64.wrap (List.getD e.1 (0 + d.2.1).toNat (0 : Int))))).fdiv ((2 : Int) ^ Min.min (Int.toNat (32 : Int)) IntKind.u64.bits), IntKind.i64.wrap (d.2.1 + 1), List.set d.2.2.1 (IntKind.i64.wrap (IntKind.i64.wrap (IntKind.i64.wrap ((a.1.length : Int) - (x.2.1.length : Int)) - (1 : Int)) - p.1) + d.2.1).toNat (IntKind.u32.wrap (IntKind.u64.wrap (d.1 + IntKind.u64.wrap (IntKind.u64.wrap (List.getD d.2.2.1 (IntKind.i64.wrap (IntKind.i64.wrap (IntKind.i64.wrap ((a.1.length : Int) - (x.2.1.length : Int)) - (1 : Int)) - p.1) + d.2.1).toNat (0 : Int)) + IntKind.u64.wrap (List.getD e.1 (0 + d.2.1).toNat (0 : Int)))))), ()) /\ μ ((IntKind.u64.wrap (d.1 + IntKind.u64.wrap (IntKind.u64.wrap (List.getD d.2.2.1 (IntKind.i64.wrap (IntKind.i64.wrap (IntKind.i64.wrap ((a.1.length : Int) - (x.2.1.length : Int)) - (1 : Int)) - p.1) + d.2.1).toNat (0 : Int)) + IntKind.u64.wrap (List.getD e.1 (0 + d.2.1).toNat (0 : Int))))).fdiv ((2 : Int) ^ Min.min (Int.toNat (32 : Int)) IntKind.u64.bits), IntKind.i64.wrap (d.2.1 + 1), List.set d.2.2.1 (IntKind.i64.wrap (IntKind.i64.wrap (IntKind.i64.wrap ((a.1.length : Int) - (x.2.1.length : Int)) - (1 : Int)) - p.1) + d.2.1).toNat (IntKind.u32.wrap (IntKind.u64.wrap (d.1 + IntKind.u64.wrap (IntKind.u64.wrap (List.getD d.2.2.1 (IntKind.i64.wrap (IntKind.i64.wrap (IntKind.i64.wrap ((a.1.length : Int) - (x.2.1.length : Int)) - (1 : Int)) - p.1) + d.2.1).toNat (0 : Int)) + IntKind.u64.wrap (List.getD e.1 (0 + d.2.1).toNat (0 : Int)))))), ()) < μ d) /\ (decide (d.2.1 < (x.2.1.length : Int) - (0 : Int)) = false -> ((0 : Int) <= (x.2.1.length : Int) - (0 : Int) /\ (x.2.1.length : Int) - (0 : Int) < IntKind.i64.wrap (IntKind.i64.wrap (IntKind.i64.wrap (IntKind.i64.wrap (IntKind.i64.wrap ((a.1.length : Int) - (x.2.1.length : Int)) - (1 : Int)) - p.1) + (x.2.1.length : Int)) + (1 : Int)) - IntKind.i64.wrap (IntKind.i64.wrap (IntKind.i64.wrap ((a.1.length : Int) - (x.2.1.length : Int)) - (1 : Int)) - p.1)) /\ ((0 : Int) <= (x.2.1.length : Int) - (0 : Int) /\ (x.2.1.length : Int) - (0 : Int) < IntKind.i64.wrap (IntKind.i64.wrap (IntKind.i64.wrap (IntKind.i64.wrap (IntKind.i64.wrap ((a.1.length : Int) - (x.2.1.length : Int)) - (1 : Int)) - p.1) + (x.2.1.length : Int)) + (1 : Int)) - IntKind.i64.wrap (IntKind.i64.wrap (IntKind.i64.wrap ((a.1.length : Int) - (x.2.1.length : Int)) - (1 : Int)) - p.1)) /\ ((0 : Int) <= IntKind.i64.wrap (IntKind.i64.wrap (IntKind.i64.wrap ((a.1.length : Int) - (x.2.1.length : Int)) - (1 : Int)) - p.1) /\ IntKind.i64.wrap (IntKind.i64.wrap (IntKind.i64.wrap ((a.1.length : Int) - (x.2.1.length : Int)) - (1 : Int)) - p.1) < (p.2.2.1.length : Int)) /\ J (List.set d.2.2.1 (IntKind.i64.wrap (IntKind.i64.wrap (IntKind.i64.wrap ((a.1.length : Int) - (x.2.1.length : Int)) - (1 : Int)) - p.1) + ((x.2.1.length : Int) - (0 : Int))).toNat (IntKind.u32.wrap (List.getD d.2.2.1 (IntKind.i64.wrap (IntKind.i64.wrap (IntKind.i64.wrap ((a.1.length : Int) - (x.2.1.length : Int)) - (1 : Int)) - p.1) + ((x.2.1.length : Int) - (0 : Int))).toNat (0 : Int) + IntKind.u32.wrap d.1)), List.set p.2.2.1 (IntKind.i64.wrap (IntKind.i64.wrap (IntKind.i64.wrap ((a.1.length : Int) - (x.2.1.length : Int)) - (1 : Int)) - p.1)).toNat (IntKind.u32.wrap (IntKind.u64.wrap (c.1 - 1))), ()))))) /\ ∀ (c : List Int × List Int × Unit), WfU c.1 /\ WfU c.2.1 /\ True -> J c -> I (IntKind.i64.wrap (p.1 + 1), c.1, c.2.1, ()) /\ μ (IntKind.i64.wrap (p.1 + 1), c.1, c.2.1, ()) < μ p) /\ (decide (p.1 < IntKind.i64.wrap ((a.1.length : Int) - (x.2.1.length : Int))) = false -> ((0 : Int) <= (0 : Int) /\ (0 : Int) <= (x.2.1.length : Int) /\ (x.2.1.length : Int) <= (p.2.1.length : Int)) /\ sh1 (List.drop (Int.toNat (0 : Int)) (List.take (x.2.1.length : Int).toNat p.2.1)) /\ ∀ (f : List Int × Bool × Unit), WfU f.1 /\ True /\ True -> (r.1 < 0 -> f.1 = [] /\ f.2.1 = false) /\ (0 <= r.1 -> f.1 = nc (nv (List.drop (Int.toNat (0 : Int)) (List.take (x.2.1.length : Int).toNat p.2.1)) / (2 : Nat) ^ Int.toNat r.1) /\ f.2.1 = true) -> True /\ ∀ (r : List Int × Unit), WfU r.1 /\ True -> r.1 = nc (nv p.2.2.1) -> r.1 = nc (nv x.1 / nv x.2.1) /\ f.1 = nc (nv x.1 % nv x.2.1))
theorem A7x (x : A7 F0.args) : K8 Tryz.prog tys A2s B1i F0 Tryz.f223 x = U7 x := by kernel_rfl
theorem F5i {a b : List Int} {N D S : Nat} (ha : A9 a) (hb : A9 b) (hN : b.length = N + 2) (hd : dg b (N + 1) ≠ 0) (hD : a.length + 1 = D + (N + 2)) : nv a * 2 ^ S < nv b * 2 ^ S * 4294967296 ^ D := by
  have h2 : 0 < 2 ^ S := Nat.pow_pos (by decide)
  have e1 := B5x b (n := N + 1) (by omega)
  have h3 : 4294967296 ^ (N + 1) <= nv b := by
    have := Nat.mul_le_mul_left (4294967296 ^ (N + 1)) (Nat.pos_of_ne_zero hd)
    omega
  have h4 := A8p ha
  rw [show a.length = (N + 1) + D from by omega, Nat.pow_add] at h4
  have h5 : nv a < nv b * 4294967296 ^ D := Nat.lt_of_lt_of_le h4 (Nat.mul_le_mul_right _ h3)
  have h6 := Nat.mul_lt_mul_of_pos_right h5 h2
  rw [Nat.mul_right_comm] at h6
  exact h6
theorem G0s {A B S q r : Nat} (hB : 0 < B) (he : A * 2 ^ S = q * (B * 2 ^ S) + r) (hr : r < B * 2 ^ S) : q = A / B /\ r / 2 ^ S = A % B := by
  have h2 : 0 < 2 ^ S := Nat.pow_pos (by decide)
  have e1 : q = A / B := by
    rw [<- Nat.mul_div_mul_right A B h2, he, Nat.mul_comm q, Nat.mul_add_div (Nat.mul_pos hB h2), Nat.div_eq_of_lt hr, Nat.add_zero]
  refine ⟨e1, ?_⟩
  have e3 := Nat.div_add_mod A B
  have e4 : r = (A % B) * 2 ^ S := by
    have : A * 2 ^ S = (B * (A / B) + A % B) * 2 ^ S := by rw [e3]
    rw [this, e1] at he
    grind
  rw [e4, Nat.mul_div_cancel _ h2]
theorem G0y {v : List Int} (hv : A9 v) {n : Nat} (h1 : 4294967296 ^ n <= nv v) (h2 : nv v < 4294967296 ^ (n + 1)) : dg v n ≠ 0 := by
  have hP : 0 < 4294967296 ^ n := Nat.pow_pos (by decide)
  rw [D3q hv, Nat.mod_eq_of_lt (by rw [Nat.div_lt_iff_lt_mul hP, Nat.mul_comm, <- Nat.pow_succ]; exact h2)]
  have := (Nat.le_div_iff_mul_le hP).2 (by rw [Nat.one_mul]; exact h1)
  omega
theorem F2i {u : List Int} (hu : A9 u) {m i : Nat} (h : nv u < 4294967296 ^ m) (hi : m <= i) : dg u i = 0 := by
  rw [D3q hu, Nat.div_eq_of_lt (Nat.lt_of_lt_of_le h (Nat.pow_le_pow_right (by decide) hi))]
theorem E0k {x y : Nat} (hx : x <= 4294967295) (hy : y <= 4294967295) : IntKind.u64.wrap (((BitVec.ofInt 64 (IntKind.u64.wrap ((x : Int) * 2 ^ 32)) ||| BitVec.ofInt 64 (y : Int)).toNat : Nat) : Int) = ((x * 4294967296 + y : Nat) : Int) := by
  rw [w64 (a := (x : Int) * 2 ^ 32) (by omega) (by omega)]
  have := C9x (v := (y : Int)) (b := (x : Int)) (k := 32) (by omega) (by omega) (by omega) (by omega) (by omega)
  rw [this, w64 (by omega) (by omega)]; omega
theorem G2f {v : Int} : Int.fdiv v (2 ^ 32) = v / 4294967296 := by
  rw [Int.fdiv_eq_ediv_of_nonneg _ (by decide)]; rfl
theorem G3t {v : Int} : Int.fdiv v (2 ^ 63) = v / 9223372036854775808 := by
  rw [Int.fdiv_eq_ediv_of_nonneg _ (by decide)]; rfl
theorem E1a {d x : Nat} (hd : d <= 4294967295) (hx : x <= 4294967295) : d * x <= 18446744065119617025 := Nat.le_trans (Nat.mul_le_mul hd hx) (by decide)
theorem F3o {d v2 r x2 : Nat} (hv : v2 <= 4294967295) : sel (decide ((d : Int) / 4294967296 ≠ 0)) true (decide (((r * 4294967296 + x2 : Nat) : Int) < IntKind.u64.wrap ((d : Int) * (v2 : Int)))) = decide (4294967296 <= d \/ r * 4294967296 + x2 < d * v2) := by
  rw [Z6]
  rcases Nat.lt_or_ge d 4294967296 with h | h
  . have hm := E1a (d := d) (x := v2) (by omega) hv
    rw [<- Int.natCast_mul, w64 (by omega) (by omega)]
    have e1 : decide ((d : Int) / 4294967296 ≠ 0) = false := decide_eq_false (by omega)
    rw [e1, Bool.false_or, decide_eq_decide]
    omega
  . have e1 : decide ((d : Int) / 4294967296 ≠ 0) = true := decide_eq_true (by omega)
    rw [e1, Bool.true_or]
    exact (decide_eq_true (.inl h)).symm
theorem F5q {d x c y : Nat} (hd : d <= 4294967295) (hx : x <= 4294967295) (hc : c <= d) (hy : y <= 4294967295) : ∃ c' s' : Nat,
    IntKind.u64.wrap (Int.fdiv (IntKind.u64.wrap (IntKind.u64.wrap ((d : Int) * (x : Int)) + (c : Int))) (2 ^ 32) + Int.fdiv (IntKind.u64.wrap ((y : Int) - IntKind.u64.wrap (IntKind.u32.wrap (IntKind.u64.wrap (IntKind.u64.wrap ((d : Int) * (x : Int)) + (c : Int)))))) (2 ^ 63)) = (c' : Int) /\
    IntKind.u32.wrap (IntKind.u64.wrap ((y : Int) - IntKind.u64.wrap (IntKind.u32.wrap (IntKind.u64.wrap (IntKind.u64.wrap ((d : Int) * (x : Int)) + (c : Int)))))) = (s' : Int) /\ c' <= d /\ y + 4294967296 * c' = s' + (d * x + c) := by
  have hm := E1a hd hx
  obtain ⟨b1, b2⟩ := F4m (D := d) (v := x) (c := c) (t := y) (by omega) (by omega) hc
  rw [<- Int.natCast_mul, w64 (a := ((d * x : Nat) : Int)) (by omega) (by omega)]
  generalize d * x = p at *
  rw [w64 (a := (p : Int) + (c : Int)) (by omega) (by omega), A1a, w64 (a := ((p : Int) + (c : Int)) % 4294967296) (by omega) (by omega), G2f, G3t, A0z ((y : Int) - _), A1a]
  refine ⟨(p + c) / 4294967296 + (if y < (p + c) % 4294967296 then 1 else 0), if y < (p + c) % 4294967296 then y + 4294967296 - (p + c) % 4294967296 else y - (p + c) % 4294967296, ?_, ?_, b2, ?_⟩
  . rw [w64 (by omega) (by omega)]
    split <;> omega
  . split <;> omega
  . split <;> omega
theorem F6v {U P V d : Nat} (hP : 0 < P) (hV : 0 < V) (h : P * (d * V) <= U) : d <= U / P / V := by
  rw [Nat.le_div_iff_mul_le hV, Nat.le_div_iff_mul_le hP, Nat.mul_comm]; exact h
theorem G0z {U P V d : Nat} (hP : 0 < P) (hV : 0 < V) (h : U < P * (d * V)) : U / P / V < d := by
  rw [Nat.div_lt_iff_lt_mul hV, Nat.div_lt_iff_lt_mul hP, Nat.mul_comm]; exact h
theorem E0b {U0 U W V P d q q' : Nat} (he : U0 = q * V + U) (hW : W + P * (d * V) = U) (hq : q' = q + P * d) (hP : 0 < P) (hV : 0 < V) (hd : U / P / V = d) : U0 = q' * V + W /\ W < V * P := by
  refine ⟨by subst hq; rw [he, <- hW]; grind, ?_⟩
  have h1 : ¬ (P * ((d + 1) * V) <= U) := fun h => by have := F6v hP hV h; omega
  have e : P * ((d + 1) * V) = P * (d * V) + V * P := by grind
  omega
theorem G0g {q : List Int} (hq : A9 q) {Q j d : Nat} (hQ : nv q = Q * 4294967296 ^ (j + 1)) (hj : j < q.length) : nv (q.set j (d : Int)) = nv q + 4294967296 ^ j * d /\ nv (q.set j (d : Int)) = (Q * 4294967296 + d) * 4294967296 ^ j := by
  have hP : 0 < 4294967296 ^ j := Nat.pow_pos (by decide)
  have h := A9i (l := q) (k := j) (v := (d : Int)) hj
  rw [Int.toNat_natCast] at h
  have h0 : dg q j = 0 := by
    rw [D3q hq, hQ, Nat.pow_succ, Nat.mul_comm (4294967296 ^ j), <- Nat.mul_assoc, Nat.mul_div_cancel _ hP, Nat.mul_mod_left]
  rw [h0, Nat.mul_zero, Nat.add_zero] at h
  refine ⟨h, ?_⟩
  rw [h, hQ, Nat.pow_succ]; grind
theorem F5m {x c y : Nat} (hx : x <= 4294967295) (hc : c <= 1) (hy : y <= 4294967295) : ∃ c' s' : Nat,
    Int.fdiv (IntKind.u64.wrap ((c : Int) + IntKind.u64.wrap ((y : Int) + (x : Int)))) (2 ^ 32) = (c' : Int) /\
    IntKind.u32.wrap (IntKind.u64.wrap ((c : Int) + IntKind.u64.wrap ((y : Int) + (x : Int)))) = (s' : Int) /\ c' <= 1 /\ s' + 4294967296 * c' = c + (y + x) := by
  rw [w64 (a := (y : Int) + (x : Int)) (by omega) (by omega), w64 (a := (c : Int) + ((y : Int) + (x : Int))) (by omega) (by omega), G2f, A1a]
  exact ⟨(c + (y + x)) / 4294967296, (c + (y + x)) % 4294967296, by omega, by omega, by omega, by omega⟩
theorem A7l (x : A7 F0.args) (hw : awf F0.args x) (hp : F0.pre x) : U7 x := by
  obtain ⟨a, b, _⟩ := x
  have ha : A9 a := A5 hw.1.2
  have hb : A9 b := A5 hw.2.1.2
  change List Int at a b
  obtain ⟨la, b2, hbl, htop⟩ : a.length <= 17592186044416 /\ 2 <= b.length /\ b.length <= a.length /\ B2n b := hp
  obtain ⟨N, hN⟩ : ∃ N, b.length = N + 2 := ⟨b.length - 2, by omega⟩
  have hd := D0t hb htop
  rw [show b.length - 1 = N + 1 from by omega] at hd
  simp only [U7, Int.sub_zero, Int.zero_add]
  rw [wr (a := (b.length : Int) - 1) (by omega) (by omega), wr (a := (b.length : Int) - 2) (by omega) (by omega), A7d hb (by omega) (by omega), show ((b.length : Int) - 1).toNat = N + 1 from by omega, show ((b.length : Int) - 2).toNat = N from by omega]
  refine ⟨⟨by omega, by omega⟩, trivial, ?_⟩
  rintro ⟨s, _⟩ _ hs
  change Int at s
  simp only at hs ⊢
  rw [Int.toNat_natCast] at hs
  have hdl := R9 hb (N + 1)
  have hb32 := D7l (v := dg b (N + 1)) (by omega)
  have hb1 := (C3q hd).2
  refine ⟨⟨by show b.length <= _; omega, by omega, by omega⟩, ?_⟩
  rintro ⟨v, _⟩ ⟨hwv, _⟩ ⟨hvl, hv⟩
  refine ⟨⟨Int.le_refl _, by omega, by simp only at hvl ⊢; omega⟩, ⟨by show a.length <= _; omega, by omega, by omega⟩, ?_⟩
  rintro ⟨u0, _⟩ ⟨hwu, _⟩ ⟨hul, hu⟩
  have hvL : A9 v := A5 hwv.2
  have hu0L : A9 u0 := A5 hwu.2
  change List Int at v u0
  simp only at hvl hv hul hu ⊢
  have hVlt : nv v < 4294967296 ^ (N + 2) := by
    rw [hv]; exact F1z hb (n := N + 1) (by omega) (s := s.toNat) (by omega)
  have hVge : 4294967296 ^ (N + 1) <= nv v := by
    have e1 := B5x b (n := N + 1) (by omega)
    have h3 : 4294967296 ^ (N + 1) <= nv b := by
      have := Nat.mul_le_mul_left (4294967296 ^ (N + 1)) (Nat.pos_of_ne_zero hd)
      omega
    rw [hv]
    exact Nat.le_trans h3 (Nat.le_mul_of_pos_right _ (Nat.pow_pos (by decide)))
  have hv1 := G0y hvL hVge hVlt
  have hVpos : 0 < nv v := Nat.lt_of_lt_of_le (Nat.pow_pos (by decide)) hVge
  obtain ⟨D, hD⟩ : ∃ D, u0.length = D + (N + 2) := ⟨u0.length - (N + 2), by omega⟩
  have hst := F5i (S := s.toNat) ha hb hN hd (D := D) (by omega)
  rw [<- hu, <- hv] at hst
  rw [wr (a := (u0.length : Int) - (b.length : Int)) (by omega) (by omega), show (u0.length : Int) - (b.length : Int) = (D : Int) from by omega]
  have hD1 : 1 <= D := by omega
  refine ⟨⟨by omega, Int.le_refl _, by omega, by omega⟩, ?_⟩
  refine ⟨fun p => 0 <= p.1 /\ p.1 <= (D : Int) /\ p.2.1.length = u0.length /\ p.2.2.1.length = D /\ nv u0 = nv p.2.2.1 * nv v + nv p.2.1 /\ nv p.2.1 < nv v * 4294967296 ^ ((D : Int) - p.1).toNat /\ ∃ Q, nv p.2.2.1 = Q * 4294967296 ^ ((D : Int) - p.1).toNat, fun p => ((D : Int) - p.1).toNat, ⟨Int.le_refl _, Int.natCast_nonneg _, rfl, by simp, ?_, ?_, 0, ?_⟩, ?_⟩
  . show nv u0 = nv (List.replicate _ 0) * nv v + nv u0
    rw [B2u]; omega
  . show nv u0 < nv v * 4294967296 ^ ((D : Int) - 0).toNat
    rw [show ((D : Int) - 0).toNat = D from by omega]; exact hst
  . show nv (List.replicate _ 0) = _
    rw [B2u]; omega
  rintro ⟨k, u, q, _⟩ ⟨_, hwu', hwq, _⟩ ⟨k0, k1, ul, ql, he, hlt, Q, hQ⟩
  change Int at k
  have huL : A9 u := A5 hwu'.2
  have hqL : A9 q := A5 hwq.2
  change List Int at u q
  simp only at k0 k1 ul ql he hlt hQ ⊢
  refine ⟨fun hk => ?_, fun hk => ?_⟩
  . have hk := of_decide_eq_true hk
    obtain ⟨j, hj⟩ : ∃ j : Nat, (D : Int) - 1 - k = (j : Int) := ⟨((D : Int) - 1 - k).toNat, by omega⟩
    rw [show ((D : Int) - k).toNat = j + 1 from by omega] at hlt hQ
    rw [wr (a := (D : Int) - 1) (by omega) (by omega), hj, wr (a := (j : Int)) (by omega) (by omega), wr (a := (j : Int) + (b.length : Int)) (by omega) (by omega), wr (a := (j : Int) + (b.length : Int) + 1) (by omega) (by omega), wr (a := k + 1) (by omega) (by omega)]
    rw [show ((j : Int) + (b.length : Int)).toNat = j + N + 2 from by omega, show ((j : Int) + ((b.length : Int) - 1)).toNat = j + N + 1 from by omega, show ((j : Int) + ((b.length : Int) - 2)).toNat = j + N from by omega]
    have hjD : j + 1 <= D := by omega
    have hDig := G3g huL hvL (j := j) (n := N) (by omega) hVlt hv1 (by omega) hlt
    have v1b := R9 hvL (N + 1)
    have v2b := R9 hvL N
    have x0b := R9 huL (j + N + 2)
    have x1b := R9 huL (j + N + 1)
    have x2b := R9 huL (j + N)
    have hPj : 0 < 4294967296 ^ j := Nat.pow_pos (by decide)
    refine ⟨fun p => p.1.length = u0.length /\ p.2.1.length = D /\ nv u0 = nv p.2.1 * nv v + nv p.1 /\ nv p.1 < nv v * 4294967296 ^ j /\ ∃ Q, nv p.2.1 = Q * 4294967296 ^ j, ?_, ?_⟩
    . rw [X1 hvL, X1 hvL, X1 huL, X1 huL, X1 huL]
      rw [w64 (a := (dg v (N + 1) : Int)) (by omega) (by omega), w64 (a := (dg v N : Int)) (by omega) (by omega), w64 (a := (dg u (j + N + 2) : Int)) (by omega) (by omega), w64 (a := (dg u (j + N + 1) : Int)) (by omega) (by omega), w64 (a := (dg u (j + N) : Int)) (by omega) (by omega)]
      rw [show Min.min (Int.toNat 32) IntKind.u64.bits = 32 from rfl, show Min.min (Int.toNat 63) IntKind.u64.bits = 63 from rfl, show IntKind.u64.bits = 64 from rfl, E0k x0b x1b]
      refine ⟨⟨by omega, by omega, by omega⟩, ⟨by omega, by omega⟩, by decide, ⟨by omega, by omega⟩, ⟨by omega, by omega⟩, by omega, ⟨by omega, by omega⟩, by omega, ?_⟩
      have hest := hDig.est
      have hnear := @Dig.near _ _ _ _ _ _ _ hDig
      have hdec := @Dig.dec _ _ _ _ _ _ _ hDig
      have hout := @Dig.out _ _ _ _ _ _ _ hDig
      generalize hQS : nv u / 4294967296 ^ j / nv v = QS at hest hnear hdec hout ⊢
      refine ⟨fun p => QS <= p.1.toNat /\ p.1.toNat <= QS + 1 /\ 0 <= p.1 /\ p.1 < 4294967296, ?_, ?_⟩
      . refine ⟨fun p => ∃ d r : Nat, p.1 = (d : Int) /\ p.2.1 = (r : Int) /\ dg u (j + N + 2) * 4294967296 + dg u (j + N + 1) = d * dg v (N + 1) + r /\ QS <= d /\ r < 4294967296, fun p => p.1.toNat, ?_, ?_⟩
        . have hv1p : 0 < dg v (N + 1) := Nat.pos_of_ne_zero hv1
          have hle := (Nat.le_div_iff_mul_le hv1p).2 hest
          have hm := Nat.mod_lt (dg u (j + N + 2) * 4294967296 + dg u (j + N + 1)) hv1p
          have hdm := Nat.div_add_mod (dg u (j + N + 2) * 4294967296 + dg u (j + N + 1)) (dg v (N + 1))
          have hdl' := Nat.div_le_self (dg u (j + N + 2) * 4294967296 + dg u (j + N + 1)) (dg v (N + 1))
          have hT : dg u (j + N + 2) * 4294967296 + dg u (j + N + 1) <= 18446744073709551615 := by omega
          refine ⟨(dg u (j + N + 2) * 4294967296 + dg u (j + N + 1)) / dg v (N + 1), (dg u (j + N + 2) * 4294967296 + dg u (j + N + 1)) % dg v (N + 1), ?_, rfl, ?_, hle, by omega⟩
          . show IntKind.u64.wrap (Int.tdiv _ _) = _
            have e : Int.tdiv ((dg u (j + N + 2) * 4294967296 + dg u (j + N + 1) : Nat) : Int) ((dg v (N + 1) : Nat) : Int) = (((dg u (j + N + 2) * 4294967296 + dg u (j + N + 1)) / dg v (N + 1) : Nat) : Int) := rfl
            rw [e]
            generalize (dg u (j + N + 2) * 4294967296 + dg u (j + N + 1)) / dg v (N + 1) = z at *
            exact w64 (by omega) (by omega)
          . have := hdm.symm
            rw [Nat.mul_comm (dg v (N + 1))] at this
            exact this
        . rintro ⟨dd, rr, _⟩ ⟨hdd, _⟩ ⟨d, r, e1, e2, ht, hqd, hr⟩
          change Int at dd rr
          simp only at e1 e2 hdd ⊢
          subst e1 e2
          have hd64 : (d : Int) <= 18446744073709551615 := by have := hdd.2; rw [C3a] at this; exact this
          rw [G2f, G2f, E0k (x := r) (by omega) x2b, F3o v2b]
          refine ⟨by decide, fun _ => ⟨by omega, by omega⟩, fun _ => by decide, fun _ => ⟨by omega, by omega⟩, fun hc => ?_, fun hc => ?_⟩
          . have hc := of_decide_eq_true hc
            have hge := hdec ht hqd hc
            rw [w64 (a := (r : Int) + (dg v (N + 1) : Int)) (by omega) (by omega), w64 (a := (d : Int) - 1) (by omega) (by omega)]
            obtain ⟨e, rfl⟩ : ∃ e, d = e + 1 := ⟨d - 1, by omega⟩
            have ht' : dg u (j + N + 2) * 4294967296 + dg u (j + N + 1) = e * dg v (N + 1) + (r + dg v (N + 1)) := by rw [ht, Nat.add_mul, Nat.one_mul]; omega
            refine ⟨⟨by omega, by omega⟩, by decide, fun h6 => ?_, fun h6 => ?_⟩
            . have h6 := of_decide_eq_true h6
              obtain ⟨o1, o2⟩ := hout ht' (by omega) (by omega)
              have o3 := hnear ht' o1 o2
              have ee : (((e + 1 : Nat) : Int) - 1).toNat = e := by omega
              refine ⟨?_, ?_, ?_, ?_⟩
              . show _ <= (((e + 1 : Nat) : Int) - 1).toNat; rw [ee]; omega
              . show (((e + 1 : Nat) : Int) - 1).toNat <= _; rw [ee]; exact o3
              . show (0 : Int) <= ((e + 1 : Nat) : Int) - 1; omega
              . show ((e + 1 : Nat) : Int) - 1 < _; omega
            . have h6 : (((r : Int) + (dg v (N + 1) : Int)) / 4294967296) = 0 := Decidable.of_not_not (of_decide_eq_false h6)
              refine ⟨⟨e, r + dg v (N + 1), by omega, by omega, ht', by omega, by omega⟩, by omega⟩
          . have hc := of_decide_eq_false hc
            have o3 := hnear ht (by omega) (by omega)
            exact ⟨by show _ <= (d : Int).toNat; omega, by show (d : Int).toNat <= _; omega, Int.natCast_nonneg _, by show (d : Int) < _; omega⟩
      . rintro ⟨dd, _⟩ _ ⟨d1, d2, d3, d4⟩
        change Int at dd
        simp only at d1 d2 d3 d4 ⊢
        obtain ⟨d, rfl⟩ := Int.eq_ofNat_of_zero_le d3
        rw [Int.toNat_natCast] at d1 d2
        clear hest hnear hdec hout
        refine ⟨fun p => ∃ c i : Nat, p.1 = (c : Int) /\ p.2.1 = (i : Int) /\ i <= N + 2 /\ c <= d /\ p.2.2.1.length = u0.length /\ nv p.2.2.1 + 4294967296 ^ j * (d * nv (v.take i)) = nv u + 4294967296 ^ (j + i) * c /\ ∀ m, j + i <= m -> dg p.2.2.1 m = dg u m, fun p => ((N : Int) + 2 - p.2.1).toNat, ⟨0, 0, rfl, rfl, by omega, by omega, ul, by simp [nv], fun _ _ => rfl⟩, ?_⟩
        rintro ⟨cc, ii, w, _⟩ ⟨_, _, hww, _⟩ ⟨c, i, e1, e2, hi, hc, wl, hE, hK⟩
        change Int at cc ii
        have hwL : A9 w := A5 hww.2
        change List Int at w
        simp only at e1 e2 hi hc wl hE hK ⊢
        subst e1 e2
        refine ⟨fun h1 => ?_, fun h1 => ?_⟩
        . have h1 : (i : Int) < (b.length : Int) := of_decide_eq_true h1
          have xb := R9 hvL i
          have yb := R9 hwL (j + i)
          rw [show ((i : Int)).toNat = i from Int.toNat_natCast _, show ((j : Int) + (i : Int)).toNat = j + i from by omega, X1 hvL, X1 hwL, w64 (a := (dg v i : Int)) (by omega) (by omega), w64 (a := (dg w (j + i) : Int)) (by omega) (by omega), wr (a := (i : Int) + 1) (by omega) (by omega)]
          obtain ⟨c', s', q1, q2, q3, q4⟩ := F5q (d := d) (x := dg v i) (c := c) (y := dg w (j + i)) (by omega) xb hc yb
          rw [q1, q2]
          refine ⟨⟨by omega, h1⟩, ⟨by omega, by omega⟩, ⟨by omega, by omega⟩, by decide, by decide, ⟨c', i + 1, rfl, by omega, by omega, q3, by rw [List.length_set]; exact wl, ?_, ?_⟩, by omega⟩
          . have hset := A9i (l := w) (k := j + i) (v := (s' : Int)) (by omega)
            rw [Int.toNat_natCast] at hset
            rw [J4, show j + (i + 1) = (j + i) + 1 from by omega, Nat.pow_succ _ (j + i)]
            exact F0f hE hset q4 (Nat.pow_add ..)
          . intro m hm
            rw [C4w (by omega), if_neg (by omega)]
            exact hK m (by omega)
        . have h1 := of_decide_eq_false h1
          have hi3 : i = N + 2 := by omega
          subst hi3
          rw [A4v hvL, Nat.mod_eq_of_lt hVlt] at hE
          have htp := hK (j + N + 2) (by omega)
          rw [X1 hwL, htp, w64 (a := (dg u (j + N + 2) : Int)) (by omega) (by omega), G3t, show ((j : Int)).toNat = j from Int.toNat_natCast _]
          have hm1 : nv u < 4294967296 ^ (j + N + 3) := by
            refine Nat.lt_of_lt_of_le hlt ?_
            have e : 4294967296 ^ (j + N + 3) = 4294967296 ^ (N + 2) * 4294967296 ^ (j + 1) := by rw [<- Nat.pow_add]; congr 1; omega
            rw [e]; exact Nat.mul_le_mul_right _ (Nat.le_of_lt hVlt)
          rw [show j + (N + 2) = j + N + 2 from by omega] at hE
          refine ⟨⟨by omega, by omega⟩, ⟨by omega, by omega⟩, by decide, fun h2 => ?_, fun h2 => ?_⟩
          . have h2 := of_decide_eq_true h2
            have hct : c <= dg u (j + N + 2) := by rw [A0z] at h2; omega
            rw [w64 (a := (dg u (j + N + 2) : Int) - (c : Int)) (by omega) (by omega), w32 (a := (dg u (j + N + 2) : Int) - (c : Int)) (by omega) (by omega), w32 (a := (d : Int)) (by omega) (by omega)]
            have hset := A9i (l := w) (k := j + N + 2) (v := (dg u (j + N + 2) : Int) - (c : Int)) (by omega)
            rw [htp, show ((dg u (j + N + 2) : Int) - (c : Int)).toNat = dg u (j + N + 2) - c from by omega, Nat.mul_sub] at hset
            have hcm := Nat.mul_le_mul_left (4294967296 ^ (j + N + 2)) hct
            have hW : nv (w.set (j + N + 2) ((dg u (j + N + 2) : Int) - (c : Int))) + 4294967296 ^ j * (d * nv v) = nv u := by omega
            have hdq := F6v hPj hVpos (U := nv u) (d := d) (by omega)
            obtain ⟨s1, s2⟩ := G0g hqL (d := d) hQ (by omega)
            obtain ⟨f1, f2⟩ := E0b he hW s1 hPj hVpos (by omega)
            exact ⟨⟨by omega, by omega⟩, by show (List.set _ _ _).length = _; rw [List.length_set]; exact wl, by show (List.set _ _ _).length = _; rw [List.length_set]; exact ql, f1, f2, _, s2⟩
          . have h2 := of_decide_eq_false h2
            have hct : dg u (j + N + 2) < c := by rw [A0z] at h2; omega
            have ew1 : IntKind.u32.wrap (IntKind.u64.wrap ((dg u (j + N + 2) : Int) - (c : Int))) = ((dg u (j + N + 2) + 4294967296 - c : Nat) : Int) := by
              rw [A0z, A1a]; omega
            rw [ew1]
            have hset := A9i (l := w) (k := j + N + 2) (v := ((dg u (j + N + 2) + 4294967296 - c : Nat) : Int)) (by omega)
            rw [htp, Int.toNat_natCast, Nat.mul_sub, Nat.mul_add] at hset
            have hcm := Nat.mul_le_mul_left (4294967296 ^ (j + N + 2)) (show c <= dg u (j + N + 2) + 4294967296 by omega)
            rw [Nat.mul_add] at hcm
            have w1L : A9 (w.set (j + N + 2) ((dg u (j + N + 2) + 4294967296 - c : Nat) : Int)) := D8x hwL (by show 0 <= _ /\ _ <= _; omega)
            have hz1 : ∀ m, j + N + 3 <= m -> dg (w.set (j + N + 2) ((dg u (j + N + 2) + 4294967296 - c : Nat) : Int)) m = 0 := fun m hm => by
              rw [C4w (by omega), if_neg (by omega), hK m (by omega)]
              exact F2i huL hm1 hm
            have hlen1 : (w.set (j + N + 2) ((dg u (j + N + 2) + 4294967296 - c : Nat) : Int)).length = u0.length := by rw [List.length_set]; exact wl
            generalize w.set (j + N + 2) ((dg u (j + N + 2) + 4294967296 - c : Nat) : Int) = w1 at *
            have hW1 : nv w1 + 4294967296 ^ j * (d * nv v) = nv u + 4294967296 ^ (j + N + 2) * 4294967296 := by omega
            have hw1lt : nv w1 < 4294967296 ^ (j + N + 2) * 4294967296 := by
              have h := R1 w1L (j + N + 3)
              rw [D1d hz1, <- G3x (j + N)] at h
              exact h
            have hdq := G0z hPj hVpos (U := nv u) (d := d) (by omega)
            obtain ⟨e, rfl⟩ : ∃ e, d = e + 1 := ⟨d - 1, by omega⟩
            refine ⟨fun p => ∃ c i : Nat, p.1 = (c : Int) /\ p.2.1 = (i : Int) /\ i <= N + 2 /\ c <= 1 /\ p.2.2.1.length = u0.length /\ nv p.2.2.1 + 4294967296 ^ (j + i) * c = nv w1 + 4294967296 ^ j * nv (v.take i) /\ ∀ m, j + i <= m -> dg p.2.2.1 m = dg w1 m, fun p => ((N : Int) + 2 - p.2.1).toNat, ⟨0, 0, rfl, rfl, by omega, by omega, hlen1, by simp [nv], fun _ _ => rfl⟩, ?_⟩
            rintro ⟨cc, ii, y, _⟩ ⟨_, _, hwy, _⟩ ⟨g, i, e1, e2, hi, hg, yl, hE2, hK2⟩
            change Int at cc ii
            have hyL : A9 y := A5 hwy.2
            change List Int at y
            simp only at e1 e2 hi hg yl hE2 hK2 ⊢
            subst e1 e2
            refine ⟨fun h1 => ?_, fun h1 => ?_⟩
            . have h1 : (i : Int) < (b.length : Int) := of_decide_eq_true h1
              have xb := R9 hvL i
              have yb := R9 hyL (j + i)
              rw [show ((i : Int)).toNat = i from Int.toNat_natCast _, show ((j : Int) + (i : Int)).toNat = j + i from by omega, X1 hvL, X1 hyL, w64 (a := (dg v i : Int)) (by omega) (by omega), w64 (a := (dg y (j + i) : Int)) (by omega) (by omega), wr (a := (i : Int) + 1) (by omega) (by omega)]
              obtain ⟨c', s', q1, q2, q3, q4⟩ := F5m (x := dg v i) (c := g) (y := dg y (j + i)) xb hg yb
              rw [q1, q2]
              refine ⟨⟨by omega, h1⟩, ⟨by omega, by omega⟩, ⟨by omega, by omega⟩, by decide, ⟨c', i + 1, rfl, by omega, by omega, q3, by rw [List.length_set]; exact yl, ?_, ?_⟩, by omega⟩
              . have hset2 := A9i (l := y) (k := j + i) (v := (s' : Int)) (by omega)
                rw [Int.toNat_natCast] at hset2
                rw [J4, show j + (i + 1) = (j + i) + 1 from by omega, Nat.pow_succ _ (j + i)]
                exact F2t hE2 hset2 q4 (Nat.pow_add ..)
              . intro m hm
                rw [C4w (by omega), if_neg (by omega)]
                exact hK2 m (by omega)
            . have h1 := of_decide_eq_false h1
              have hi3 : i = N + 2 := by omega
              subst hi3
              rw [A4v hvL, Nat.mod_eq_of_lt hVlt, show j + (N + 2) = j + N + 2 from by omega] at hE2
              have yb := R9 hyL (j + N + 2)
              have ez : IntKind.u32.wrap ((dg y (j + N + 2) : Int) + IntKind.u32.wrap (g : Int)) = (((dg y (j + N + 2) + g) % 4294967296 : Nat) : Int) := by
                rw [w32 (a := (g : Int)) (by omega) (by omega), A1a]; omega
              have ed : IntKind.u32.wrap (IntKind.u64.wrap (((e + 1 : Nat) : Int) - 1)) = (e : Int) := by
                rw [w64 (by omega) (by omega), w32 (by omega) (by omega)]; omega
              rw [X1 hyL, ez, ed]
              have hset2 := A9i (l := y) (k := j + N + 2) (v := (((dg y (j + N + 2) + g) % 4294967296 : Nat) : Int)) (by omega)
              rw [Int.toNat_natCast] at hset2
              obtain ⟨o, ho, hoe⟩ : ∃ o, dg y (j + N + 2) + g = (dg y (j + N + 2) + g) % 4294967296 + 4294967296 * o /\ o <= 1 := ⟨(dg y (j + N + 2) + g) / 4294967296, by omega, by omega⟩
              have zL : A9 (y.set (j + N + 2) (((dg y (j + N + 2) + g) % 4294967296 : Nat) : Int)) := D8x hyL (by show 0 <= _ /\ _ <= _; omega)
              have hz2 : ∀ m, j + N + 3 <= m -> dg (y.set (j + N + 2) (((dg y (j + N + 2) + g) % 4294967296 : Nat) : Int)) m = 0 := fun m hm => by
                rw [C4w (by omega), if_neg (by omega), hK2 m (by omega)]
                exact hz1 m hm
              have hzl : (y.set (j + N + 2) (((dg y (j + N + 2) + g) % 4294967296 : Nat) : Int)).length = u0.length := by rw [List.length_set]; exact yl
              generalize y.set (j + N + 2) (((dg y (j + N + 2) + g) % 4294967296 : Nat) : Int) = z at *
              have hzlt : nv z < 4294967296 ^ (j + N + 2) * 4294967296 := by
                have h := R1 zL (j + N + 3)
                rw [D1d hz2, <- G3x (j + N)] at h
                exact h
              obtain ⟨hQe, hW⟩ := F3y (U := nv u) (P := 4294967296 ^ j) (V := nv v) (e := e) (M := 4294967296 ^ (j + N + 2)) hPj hVpos hW1 hw1lt (by rw [hQS]; exact d2) hE2 hset2 ho hoe hzlt
              obtain ⟨s1, s2⟩ := G0g hqL (d := e) hQ (by omega)
              obtain ⟨f1, f2⟩ := E0b he hW s1 hPj hVpos hQe
              exact ⟨⟨by omega, by omega⟩, ⟨by omega, by omega⟩, ⟨by omega, by omega⟩, hzl, by show (List.set _ _ _).length = _; rw [List.length_set]; exact ql, f1, f2, _, s2⟩
    . rintro ⟨u', q', _⟩ _ ⟨j1, j2, j3, j4, Q', j5⟩
      simp only at j1 j2 j3 j4 j5 ⊢
      rw [show ((D : Int) - (k + 1)).toNat = j from by omega]
      exact ⟨⟨by omega, by omega, j1, j2, j3, j4, Q', j5⟩, by omega⟩
  . have hk := of_decide_eq_false hk
    rw [show ((D : Int) - k).toNat = 0 from by omega, Nat.pow_zero, Nat.mul_one] at hlt
    have hs0 : 0 <= s := by omega
    obtain ⟨f1, f2⟩ := G0s (A := nv a) (B := nv b) (S := s.toNat) (q := nv q) (r := nv u) (Nat.pos_of_ne_zero (D4r hb htop)) (by rw [<- hu, <- hv]; exact he) (by rw [<- hv]; exact hlt)
    refine ⟨⟨Int.le_refl _, by omega, by omega⟩, ?_, ?_⟩
    . show (List.drop _ (List.take _ _)).length <= _
      rw [List.length_drop, List.length_take]; omega
    rintro ⟨m, ok, _⟩ _ hm
    refine ⟨trivial, ?_⟩
    rintro ⟨z, _⟩ _ hz
    simp only at hm hz ⊢
    have hm := (hm.2 hs0).1
    rw [show (Int.toNat 0) = 0 from rfl, List.drop_zero, show ((b.length : Int)).toNat = b.length from Int.toNat_natCast _, A4v huL, hN, Nat.mod_eq_of_lt (by omega), f2] at hm
    exact ⟨by rw [hz, f1], hm⟩
def C2u : An := { plan := [(8, [], [], true, (.p 0 (.p 1 (.p 2 (.p 4 (.p 5 (.p 6 (.e 3 (.e 7 (.p 8 (.p 9 (.p 10 .done))))))))))))] }
def A7i : B6 := [(172, C8), (180, C4), (183, F6), (186, C7), (219, J2), (222, D7), (223, F0)]
def D1n : An := { join := [(4, ⟨[], [], [(0, false, [.val (.sl (.int .u32))]), (1, false, [.val (.sl (.int .u32))])], [], []⟩)], loop := [(7, ⟨[], [], [(5, false, [.val (.int .u64)]), (6, false, [.val (.int .u64)])], [], []⟩), (4, ⟨[], [], [(0, false, [.val (.sl (.int .u32))]), (1, false, [.val (.sl (.int .u32))])], [], []⟩)], plan := [(8, [], [], true, (.p 0 (.p 1 (.p 2 (.p 3 (.p 4 (.p 5 .done))))))), (15, [2, 5, 9, 12], [], true, (.p 0 (.p 1 (.q 2 (.p 3 (.p 4 (.q 5 (.p 7 (.p 8 (.q 9 (.p 10 (.p 11 (.q 12 (.e 6 (.e 13 (.p 14 (.p 15 .done))))))))))))))))), (16, [2, 5, 9, 12], [], true, (.p 0 (.p 1 (.q 2 (.p 3 (.p 4 (.q 5 (.p 7 (.p 8 (.q 9 (.p 10 (.p 11 (.q 12 (.e 6 (.e 13 (.p 14 (.p 15 .done)))))))))))))))))] }
def B5a : B6 := [(172, C8), (180, C4), (183, F6), (185, H6), (186, C7), (219, J2), (220, I9), (221, H9)]
def A1s : A7 H6.args -> Prop := fun (x : List Int × List Int × Unit) => True /\ ∀ (r : List Int × Unit), WfU r.1 /\ True -> r.1 = nc (nv x.1) -> True /\ ∀ (b : List Int × Unit), WfU b.1 /\ True -> b.1 = nc (nv x.2.1) -> (decide ((b.1.length : Int) = (0 : Int)) = true -> (nv x.2.1 = 0 -> E0m Int = [] /\ E0m Int = [] /\ false = false) /\ (nv x.2.1 ≠ 0 -> E0m Int = nc (nv x.1 / nv x.2.1) /\ E0m Int = nc (nv x.1 % nv x.2.1) /\ false = true)) /\ (decide ((b.1.length : Int) = (0 : Int)) = false -> True /\ ∀ (c : Int × Unit), G2 c.1 /\ True -> c.1 = B7b (nv r.1) (nv b.1) -> (decide (c.1 < 0) = true -> sh0 r.1 /\ ∀ (a : List Int × Unit), WfU a.1 /\ True -> a.1 = nc (nv r.1) -> (nv x.2.1 = 0 -> E0m Int = [] /\ a.1 = [] /\ true = false) /\ (nv x.2.1 ≠ 0 -> E0m Int = nc (nv x.1 / nv x.2.1) /\ a.1 = nc (nv x.1 % nv x.2.1) /\ true = true)) /\ (decide (c.1 < 0) = false -> (decide ((r.1.length : Int) <= (2 : Int)) = true -> List.length r.1 <= 2 /\ ∀ (a : Int × Unit), K9 a.1 /\ True -> a.1 = (↑(nv r.1) : Int) -> List.length b.1 <= 2 /\ ∀ (r : Int × Unit), K9 r.1 /\ True -> r.1 = (↑(nv b.1) : Int) -> r.1 ≠ 0 /\ r.1 ≠ 0 /\ True /\ ∀ (d : List Int × Unit), WfU d.1 /\ True -> d.1 = nc (IntKind.u64.wrap (Int.tdiv a.1 r.1)).toNat -> True /\ ∀ (e : List Int × Unit), WfU e.1 /\ True -> e.1 = nc (Int.tmod a.1 r.1).toNat -> (nv x.2.1 = 0 -> d.1 = [] /\ e.1 = [] /\ true = false) /\ (nv x.2.1 ≠ 0 -> d.1 = nc (nv x.1 / nv x.2.1) /\ e.1 = nc (nv x.1 % nv x.2.1) /\ true = true)) /\ (decide ((r.1.length : Int) <= (2 : Int)) = false -> (decide ((b.1.length : Int) = (1 : Int)) = true -> ((0 : Int) <= (0 : Int) /\ (0 : Int) < (b.1.length : Int)) /\ (sh1 r.1 /\ gx (0 : Int) b.1 (0 : Int) ≠ (0 : Int)) /\ ∀ (a : List Int × List Int × Unit), WfU a.1 /\ WfU a.2.1 /\ True -> a.1 = nc (nv r.1 / (gx (0 : Int) b.1 (0 : Int)).toNat) /\ a.2.1 = nc (nv r.1 % (gx (0 : Int) b.1 (0 : Int)).toNat) -> (nv x.2.1 = 0 -> a.1 = [] /\ a.2.1 = [] /\ true = false) /\ (nv x.2.1 ≠ 0 -> a.1 = nc (nv x.1 / nv x.2.1) /\ a.2.1 = nc (nv x.1 % nv x.2.1) /\ true = true)) /\ (decide ((b.1.length : Int) = (1 : Int)) = false -> (sh1 r.1 /\ (2 : Nat) <= List.length b.1 /\ List.length b.1 <= List.length r.1 /\ B2n b.1) /\ ∀ (a : List Int × List Int × Unit), WfU a.1 /\ WfU a.2.1 /\ True -> a.1 = nc (nv r.1 / nv b.1) /\ a.2.1 = nc (nv r.1 % nv b.1) -> (nv x.2.1 = 0 -> a.1 = [] /\ a.2.1 = [] /\ true = false) /\ (nv x.2.1 ≠ 0 -> a.1 = nc (nv x.1 / nv x.2.1) /\ a.2.1 = nc (nv x.1 % nv x.2.1) /\ true = true)))))
theorem B4h (x : A7 H6.args) : K8 Tryz.prog tys A7i C2u H6 Tryz.f185 x = A1s x := by kernel_rfl
def A6q : A7 O8.args -> Prop := fun (x : List Int × List Int × Unit) => True /\ ∀ (r : List Int × Unit), WfU r.1 /\ True -> r.1 = nc (nv x.1) -> True /\ ∀ (c : List Int × Unit), WfU c.1 /\ True -> c.1 = nc (nv x.2.1) -> ∃ (J : List Int × List Int × Unit -> Prop), (True /\ ∀ (a : Int × Unit), G2 a.1 /\ True -> a.1 = B7b (nv r.1) (nv c.1) -> (decide (a.1 < 0) = true -> J (c.1, r)) /\ (decide (a.1 < 0) = false -> J (r.1, c))) /\ ∀ (p : List Int × List Int × Unit), WfU p.1 /\ WfU p.2.1 /\ True -> J p -> ∃ (I : List Int × List Int × Unit -> Prop), ∃ (μ : List Int × List Int × Unit -> Nat), I (p.1, p.2.1, ()) /\ ∀ (p : List Int × List Int × Unit), WfU p.1 /\ WfU p.2.1 /\ True -> I p -> (decide ((0 : Int) < (p.2.1.length : Int)) = true -> (decide ((p.1.length : Int) <= (2 : Int)) = true -> List.length p.1 <= 2 /\ ∀ (r : Int × Unit), K9 r.1 /\ True -> r.1 = (↑(nv p.1) : Int) -> List.length p.2.1 <= 2 /\ ∀ (a : Int × Unit), K9 a.1 /\ True -> a.1 = (↑(nv p.2.1) : Int) -> ∃ (I : Int × Int × Unit -> Prop), ∃ (μ : Int × Int × Unit -> Nat), I (r.1, a) /\ ∀ (p : Int × Int × Unit), K9 p.1 /\ K9 p.2.1 /\ True -> I p -> (decide (p.2.1 ≠ 0) = true -> p.2.1 ≠ 0 /\ I (p.2.1, Int.tmod p.1 p.2.1, ()) /\ μ (p.2.1, Int.tmod p.1 p.2.1, ()) < μ p) /\ (decide (p.2.1 ≠ 0) = false -> True /\ ∀ (r : List Int × Unit), WfU r.1 /\ True -> r.1 = nc (Int.toNat p.1) -> r.1 = nc ((nv x.1).gcd (nv x.2.1)))) /\ (decide ((p.1.length : Int) <= (2 : Int)) = false -> (sh1 p.1 /\ (3 : Nat) <= List.length p.1 /\ B2n p.1 /\ nv p.2.1 <= nv p.1 /\ List.length p.2.1 <= List.length p.1) /\ ∀ (r : (Int × Int × Int × Int × Bool) × Unit), (K9 r.1.1 /\ K9 r.1.2.1 /\ K9 r.1.2.2.1 /\ K9 r.1.2.2.2.1 /\ True) /\ True -> G3n (↑(nv p.1) : Int) (↑(nv p.2.1) : Int) r.1.1 r.1.2.1 r.1.2.2.1 r.1.2.2.2.1 r.1.2.2.2.2 -> (decide (r.1.2.2.1 = 0) = true -> sh1 p.1 /\ ∀ (r : List Int × List Int × Bool × Unit), WfU r.1 /\ WfU r.2.1 /\ True /\ True -> (nv p.2.1 = 0 -> r.1 = [] /\ r.2.1 = [] /\ r.2.2.1 = false) /\ (nv p.2.1 ≠ 0 -> r.1 = nc (nv p.1 / nv p.2.1) /\ r.2.1 = nc (nv p.1 % nv p.2.1) /\ r.2.2.1 = true) -> I (p.2.1, r.2.1, ()) /\ μ (p.2.1, r.2.1, ()) < μ p) /\ (decide (r.1.2.2.1 = 0) = false -> (r.1.2.2.2.2 = true -> (sh2 p.1 /\ sh2 p.2.1 /\ nv p.2.1 * Int.toNat r.1.2.2.1 <= nv p.1 * Int.toNat r.1.1) /\ ∀ (a : List Int × Unit), WfU a.1 /\ True -> a.1 = nc (nv p.1 * Int.toNat r.1.1 - nv p.2.1 * Int.toNat r.1.2.2.1) -> (sh2 p.2.1 /\ sh2 p.1 /\ nv p.1 * Int.toNat r.1.2.1 <= nv p.2.1 * Int.toNat r.1.2.2.2.1) /\ ∀ (b : List Int × Unit), WfU b.1 /\ True -> b.1 = nc (nv p.2.1 * Int.toNat r.1.2.2.2.1 - nv p.1 * Int.toNat r.1.2.1) -> I (a.1, b) /\ μ (a.1, b) < μ p) /\ (r.1.2.2.2.2 = false -> (sh2 p.2.1 /\ sh2 p.1 /\ nv p.1 * Int.toNat r.1.1 <= nv p.2.1 * Int.toNat r.1.2.2.1) /\ ∀ (a : List Int × Unit), WfU a.1 /\ True -> a.1 = nc (nv p.2.1 * Int.toNat r.1.2.2.1 - nv p.1 * Int.toNat r.1.1) -> (sh2 p.1 /\ sh2 p.2.1 /\ nv p.2.1 * Int.toNat r.1.2.2.2.1 <= nv p.1 * Int.toNat r.1.2.1) /\ ∀ (b : List Int × Unit), WfU b.1 /\ True -> b.1 = nc (nv p.1 * Int.toNat r.1.2.1 - nv p.2.1 * Int.toNat r.1.2.2.2.1) -> I (a.1, b) /\ μ (a.1, b) < μ p)))) /\ (decide ((0 : Int) < (p.2.1.length : Int)) = false -> sh0 p.1 /\ ∀ (r : List Int × Unit), WfU r.1 /\ True -> r.1 = nc (nv p.1) -> r.1 = nc ((nv x.1).gcd (nv x.2.1)))
theorem C2e (x : A7 O8.args) : K8 Tryz.prog tys B5a D1n O8 Tryz.f184 x = A6q x := by kernel_rfl
theorem B3s (x : A7 H6.args) (hw : awf H6.args x) (hp : H6.pre x) : A1s x := by
  obtain ⟨a, b, _⟩ := x
  have ha : A9 a := A5 hw.1.2
  have hb : A9 b := A5 hw.2.1.2
  change List Int at a b
  have la : a.length <= 17592186044416 := hp
  have n1 := C5 ha
  simp only [A1s]
  refine ⟨trivial, ?_⟩
  rintro ⟨r, _⟩ _ hr
  refine ⟨trivial, ?_⟩
  rintro ⟨s, _⟩ _ hs
  simp only at hr hs ⊢
  have hrv : nv r = nv a := by rw [hr, H2]
  have hsv : nv s = nv b := by rw [hs, H2]
  have hrl : r.length <= a.length := by rw [hr]; exact n1
  have hra : A9 r := hr ▸ N0 _
  have hsb : A9 s := hs ▸ N0 _
  refine ⟨fun h => ?_, fun h => ?_⟩
  . have h := of_decide_eq_true h
    have h0 : nv b = 0 := by rw [<- hsv, List.eq_nil_of_length_eq_zero (l := s) (by omega)]; rfl
    exact ⟨fun _ => ⟨by trivial, by trivial, by trivial⟩, fun h1 => absurd h0 h1⟩
  have h := of_decide_eq_false h
  have hb0 : nv b ≠ 0 := fun h0 => h (by rw [hs, h0, Q6]; rfl)
  refine ⟨trivial, ?_⟩
  rintro ⟨d, _⟩ _ hd
  simp only at hd ⊢
  rw [hrv, hsv] at hd
  refine ⟨fun h => ?_, fun h => ?_⟩
  . have h := of_decide_eq_true h
    have hlt : nv a < nv b := by
      rcases Nat.lt_or_ge (nv a) (nv b) with h1 | h1
      . exact h1
      . unfold B7b at hd
        rw [if_neg (by omega)] at hd
        split at hd <;> omega
    refine ⟨Nat.le_trans hrl (Nat.le_trans la (by decide)), ?_⟩
    rintro ⟨t, _⟩ _ ht
    simp only at ht ⊢
    refine ⟨fun h0 => absurd h0 hb0, fun _ => ⟨?_, ?_, by trivial⟩⟩
    . rw [Nat.div_eq_of_lt hlt, Q6]
    . rw [Nat.mod_eq_of_lt hlt, ht, hrv]
  have h := of_decide_eq_false h
  have hge : nv b <= nv a := by
    rcases Nat.lt_or_ge (nv a) (nv b) with h1 | h1
    . rw [B0x h1] at hd; omega
    . exact h1
  have hsr : s.length <= r.length := by rw [hr, hs]; exact M5 hge
  refine ⟨fun h2 => ?_, fun h2 => ?_⟩
  . have h2 := of_decide_eq_true h2
    refine ⟨by omega, ?_⟩
    rintro ⟨x, _⟩ ⟨hx, _⟩ hxe
    refine ⟨by omega, ?_⟩
    rintro ⟨y, _⟩ ⟨hy, _⟩ hye
    change Int at x y
    simp only at hx hy hxe hye ⊢
    rw [hrv] at hxe
    rw [hsv] at hye
    have hxm : x <= 18446744073709551615 := by have := hx.2; rw [C3a] at this; exact this
    have e1 : Int.tdiv x y = ((nv a / nv b : Nat) : Int) := by rw [hxe, hye]; rfl
    have e2 : Int.tmod x y = ((nv a % nv b : Nat) : Int) := by rw [hxe, hye]; rfl
    have hq : nv a / nv b <= nv a := Nat.div_le_self _ _
    refine ⟨by omega, by omega, trivial, ?_⟩
    rintro ⟨q, _⟩ _ hq'
    refine ⟨trivial, ?_⟩
    rintro ⟨m, _⟩ _ hm
    simp only at hq' hm ⊢
    refine ⟨fun h0 => absurd h0 hb0, fun _ => ⟨?_, ?_, by trivial⟩⟩
    . rw [hq', e1]
      generalize nv a / nv b = Q at *
      rw [w64 (by omega) (by omega)]; rfl
    . rw [hm, e2]; rfl
  have h2 := of_decide_eq_false h2
  refine ⟨fun h3 => ?_, fun h3 => ?_⟩
  . have h3 := of_decide_eq_true h3
    have e : (gx (0 : Int) s (0 : Int)).toNat = nv b := by
      rw [<- hsv]
      obtain ⟨z, rfl⟩ : ∃ z, s = [z] := List.length_eq_one_iff.1 (by omega)
      show z.toNat = z.toNat + 4294967296 * 0
      omega
    have hg := B7n hsb (i := 0) (Int.le_refl _) (by omega)
    refine ⟨⟨Int.le_refl _, by omega⟩, ⟨Nat.le_trans hrl la, by omega⟩, ?_⟩
    rintro ⟨q, m, _⟩ _ hqm
    simp only at hqm ⊢
    rw [e, hrv] at hqm
    exact ⟨fun h0 => absurd h0 hb0, fun _ => ⟨hqm.1, hqm.2, by trivial⟩⟩
  have h3 := of_decide_eq_false h3
  refine ⟨⟨Nat.le_trans hrl la, by omega, hsr, by rw [hs]; exact D9b hb0⟩, ?_⟩
  rintro ⟨q, m, _⟩ _ hqm
  simp only at hqm ⊢
  rw [hrv, hsv] at hqm
  exact ⟨fun h0 => absurd h0 hb0, fun _ => ⟨hqm.1, hqm.2, by trivial⟩⟩
structure F1q (A B A' B' : Nat) : Prop where
  g : Nat.gcd A' B' = Nat.gcd A B
  le : B' <= A'
  lt : A' + B' < A + B
  top : A' <= A
theorem E9s {A B : Nat} (h : B <= A) (hB : 0 < B) : F1q A B B (A % B) where
  g := by rw [Nat.gcd_comm A B, Nat.gcd_comm B]; exact (Nat.gcd_rec B A).symm
  le := Nat.le_of_lt (Nat.mod_lt _ hB)
  lt := by have := Nat.mod_lt A hB; omega
  top := h
theorem F0n {A B : Nat} {u0 u1 v0 v1 : Int} {ev : Bool} (hB : 0 < B) (h : G3n A B u0 u1 v0 v1 ev) (hv : v0 ≠ 0) :
    (ev = true -> B * v0.toNat <= A * u0.toNat /\ A * u1.toNat <= B * v1.toNat /\ F1q A B (A * u0.toNat - B * v0.toNat) (B * v1.toNat - A * u1.toNat)) /\
    (ev = false -> A * u0.toNat <= B * v0.toNat /\ B * v1.toNat <= A * u1.toNat /\ F1q A B (B * v0.toNat - A * u0.toNat) (A * u1.toNat - B * v1.toNat)) := by
  rcases h with h | ⟨A', B', eA, eB, h0, h1, iA, iB, p1, p2, p3, p4⟩
  . exact absurd h hv
  have hg := F4g (A := A) (B := B) (A' := A') (B' := B') (u0 := u0) (u1 := u1) (v0 := v0) (v1 := v1) (s := if ev then u0 else -u0) (t := if ev then -v0 else v0) (p := if ev then -u1 else u1) (q := if ev then v1 else -v1) iA iB (by rw [eA]; cases ev <;> simp <;> grind) (by rw [eB]; cases ev <;> simp <;> grind)
  obtain ⟨U0, rfl⟩ := Int.eq_ofNat_of_zero_le p3
  obtain ⟨U1, rfl⟩ := Int.eq_ofNat_of_zero_le p4
  obtain ⟨V0, rfl⟩ := Int.eq_ofNat_of_zero_le (show (0 : Int) <= v0 by omega)
  obtain ⟨V1, rfl⟩ := Int.eq_ofNat_of_zero_le (show (0 : Int) <= v1 by omega)
  obtain ⟨b, rfl⟩ := Int.eq_ofNat_of_zero_le h0
  obtain ⟨a, rfl⟩ := Int.eq_ofNat_of_zero_le (Int.le_trans h0 h1)
  simp only [Int.toNat_natCast]
  have k1 : (1 : Int) * (a : Int) <= (V1 : Int) * a := Int.mul_le_mul_of_nonneg_right p2 (by omega)
  have k2 : (1 : Int) * (b : Int) <= (V0 : Int) * b := Int.mul_le_mul_of_nonneg_right p1 (by omega)
  have m1 : ∀ x y : Nat, ((x * y : Nat) : Int) = (y : Int) * (x : Int) := fun x y => by rw [Int.natCast_mul, Int.mul_comm]
  have e1 := m1 A U0
  have e2 := m1 B V0
  have e3 := m1 A U1
  have e4 := m1 B V1
  have hst : F1q A B a b := ⟨hg.symm, by omega, by omega, by omega⟩
  refine ⟨fun he => ?_, fun he => ?_⟩
  . subst he
    simp only [if_true] at eA eB
    have z1 : A * U0 - B * V0 = a := by omega
    have z2 : B * V1 - A * U1 = b := by omega
    refine ⟨by omega, by omega, ?_⟩
    rw [z1, z2]; exact hst
  . subst he
    simp only [Bool.false_eq_true, if_false] at eA eB
    have z1 : B * V0 - A * U0 = a := by omega
    have z2 : A * U1 - B * V1 = b := by omega
    refine ⟨by omega, by omega, ?_⟩
    rw [z1, z2]; exact hst
theorem F4r {x y : Int} (hx : 0 <= x) (hy : 0 < y) : Nat.gcd y.toNat (Int.tmod x y).toNat = Nat.gcd x.toNat y.toNat /\ (Int.tmod x y).toNat < y.toNat := by
  obtain ⟨a, rfl⟩ := Int.eq_ofNat_of_zero_le hx
  obtain ⟨b, rfl⟩ := Int.eq_ofNat_of_zero_le (Int.le_of_lt hy)
  have e : Int.tmod (a : Int) (b : Int) = ((a % b : Nat) : Int) := rfl
  simp only [e, Int.toNat_natCast]
  have hb : 0 < b := by omega
  exact ⟨by rw [Nat.gcd_comm a b, Nat.gcd_comm b]; exact (Nat.gcd_rec b a).symm, Nat.mod_lt _ hb⟩
structure G1r (G : Nat) (a b : List Int) : Prop where
  ea : a = nc (nv a)
  eb : b = nc (nv b)
  le : nv b <= nv a
  g : Nat.gcd (nv a) (nv b) = G
  len : a.length <= 8796093022208
theorem G1r.step {G : Nat} {a b a' b' : List Int} {A' B' : Nat} (h : G1r G a b) (s : F1q (nv a) (nv b) A' B') (ha : a' = nc A') (hb : b' = nc B') : G1r G a' b' /\ nv a' + nv b' < nv a + nv b := by
  have e1 : nv a' = A' := by rw [ha, H2]
  have e2 : nv b' = B' := by rw [hb, H2]
  refine ⟨⟨by rw [e1]; exact ha, by rw [e2]; exact hb, by rw [e1, e2]; exact s.le, by rw [e1, e2, s.g]; exact h.g, ?_⟩, by rw [e1, e2]; exact s.lt⟩
  have := M5 s.top
  rw [<- h.ea] at this
  rw [ha]
  exact Nat.le_trans this h.len
theorem C4q (x : A7 O8.args) (hw : awf O8.args x) (hp : O8.pre x) : A6q x := by
  obtain ⟨a, b, _⟩ := x
  have ha : A9 a := A5 hw.1.2
  have hb : A9 b := A5 hw.2.1.2
  change List Int at a b
  obtain ⟨la, lb⟩ : a.length <= 8796093022208 /\ b.length <= 8796093022208 := hp
  have n1 := C5 ha
  have n2 := C5 hb
  simp only [A6q]
  refine ⟨trivial, ?_⟩
  rintro ⟨r, _⟩ _ hr
  refine ⟨trivial, ?_⟩
  rintro ⟨s, _⟩ _ hs
  simp only at hr hs ⊢
  have hrv : nv r = nv a := by rw [hr, H2]
  have hsv : nv s = nv b := by rw [hs, H2]
  refine ⟨fun p => G1r (Nat.gcd (nv a) (nv b)) p.1 p.2.1, ⟨trivial, ?_⟩, ?_⟩
  . rintro ⟨d, _⟩ _ hd
    simp only at hd ⊢
    rw [hrv, hsv] at hd
    refine ⟨fun h => ?_, fun h => ?_⟩
    . have h := of_decide_eq_true h
      refine ⟨by rw [hsv]; exact hs, by rw [hrv]; exact hr, ?_, by rw [hrv, hsv, Nat.gcd_comm], by rw [hs]; omega⟩
      rw [hrv, hsv]
      rcases Nat.lt_or_ge (nv a) (nv b) with h1 | h1
      . omega
      . unfold B7b at hd
        rw [if_neg (by omega)] at hd
        split at hd <;> omega
    . have h := of_decide_eq_false h
      refine ⟨by rw [hrv]; exact hr, by rw [hsv]; exact hs, ?_, by rw [hrv, hsv], by rw [hr]; omega⟩
      rw [hrv, hsv]
      rcases Nat.lt_or_ge (nv a) (nv b) with h1 | h1
      . rw [B0x h1] at hd; omega
      . exact h1
  rintro ⟨a0, b0, _⟩ _ h0
  simp only at h0 ⊢
  refine ⟨fun p => G1r (Nat.gcd (nv a) (nv b)) p.1 p.2.1, fun p => nv p.1 + nv p.2.1, h0, ?_⟩
  rintro ⟨a', b', _⟩ ⟨hwa, hwb, _⟩ hI
  have ha' : A9 a' := A5 hwa.2
  have hb' : A9 b' := A5 hwb.2
  change List Int at a' b'
  simp only at hI ⊢
  have hlen := hI.len
  have hbl : b'.length <= a'.length := by rw [hI.ea, hI.eb]; exact M5 hI.le
  refine ⟨fun hc => ?_, fun hc => ?_⟩
  . have hc := of_decide_eq_true hc
    have hB : 0 < nv b' := by
      rcases Nat.eq_zero_or_pos (nv b') with h1 | h1
      . have := hI.eb
        rw [h1, Q6] at this
        rw [this] at hc
        exact absurd hc (by simp)
      . exact h1
    have hA0 : nv a' ≠ 0 := by have := hI.le; omega
    refine ⟨fun h2 => ?_, fun h2 => ?_⟩
    . have h2 := of_decide_eq_true h2
      refine ⟨by omega, ?_⟩
      rintro ⟨x, _⟩ _ hx
      refine ⟨by omega, ?_⟩
      rintro ⟨y, _⟩ _ hy
      simp only at hx hy ⊢
      refine ⟨fun p => 0 <= p.1 /\ 0 <= p.2.1 /\ Nat.gcd p.1.toNat p.2.1.toNat = Nat.gcd (nv a) (nv b), fun p => p.2.1.toNat, ⟨by show (0 : Int) <= x; omega, by show (0 : Int) <= y; omega, ?_⟩, ?_⟩
      . show Nat.gcd x.toNat y.toNat = _
        rw [hx, hy, Int.toNat_natCast, Int.toNat_natCast]; exact hI.g
      rintro ⟨X, Y, _⟩ _ ⟨x0, y0, hg⟩
      change Int at X Y
      simp only at x0 y0 hg ⊢
      refine ⟨fun h3 => ?_, fun h3 => ?_⟩
      . have h3 := of_decide_eq_true h3
        obtain ⟨g1, g2⟩ := F4r x0 (show 0 < Y by omega)
        exact ⟨h3, ⟨y0, Int.tmod_nonneg _ x0, by rw [g1]; exact hg⟩, g2⟩
      . have h3 : Y = 0 := Decidable.of_not_not (of_decide_eq_false h3)
        refine ⟨trivial, ?_⟩
        rintro ⟨q, _⟩ _ hq
        simp only at hq ⊢
        rw [h3] at hg
        rw [hq, <- hg]
        exact congrArg nc (Nat.gcd_zero_right _).symm
    . have h2 := of_decide_eq_false h2
      refine ⟨⟨by omega, by omega, by rw [hI.ea]; exact D9b hA0, hI.le, hbl⟩, ?_⟩
      rintro ⟨⟨u0, u1, v0, v1, ev⟩, _⟩ _ hL
      change Int at u0 u1 v0 v1
      change Bool at ev
      simp only at hL ⊢
      refine ⟨fun h4 => ?_, fun h4 => ?_⟩
      . refine ⟨by omega, ?_⟩
        rintro ⟨q, m, ok, _⟩ _ hqm
        simp only at hqm ⊢
        obtain ⟨_, hm, _⟩ := hqm.2 (by omega)
        exact hI.step (E9s hI.le hB) hI.eb hm
      . have h4 := of_decide_eq_false h4
        obtain ⟨w1, w2⟩ := F0n hB hL h4
        refine ⟨fun he => ?_, fun he => ?_⟩
        . obtain ⟨c1, c2, st⟩ := w1 he
          refine ⟨⟨by omega, by omega, c1⟩, ?_⟩
          rintro ⟨p, _⟩ _ hp
          refine ⟨⟨by omega, by omega, c2⟩, ?_⟩
          rintro ⟨q, _⟩ _ hq
          simp only at hp hq ⊢
          exact hI.step st hp hq
        . obtain ⟨c1, c2, st⟩ := w2 he
          refine ⟨⟨by omega, by omega, c1⟩, ?_⟩
          rintro ⟨p, _⟩ _ hp
          refine ⟨⟨by omega, by omega, c2⟩, ?_⟩
          rintro ⟨q, _⟩ _ hq
          simp only at hp hq ⊢
          exact hI.step st hp hq
  . have hc := of_decide_eq_false hc
    refine ⟨by show a'.length <= 35184372088832; omega, ?_⟩
    rintro ⟨q, _⟩ _ hq
    simp only at hq ⊢
    have hb0 : nv b' = 0 := by rw [List.eq_nil_of_length_eq_zero (l := b') (by omega)]; rfl
    have := hI.g
    rw [hb0, Nat.gcd_zero_right] at this
    rw [hq, this]
def C1o : An := {}
def A6t : B6 := []
def B9g : An := {}
def A5p : B6 := [(179, D9), (180, C4)]
def C8f : An := {}
def B2l : B6 := [(172, C8)]
def C8r : An := { plan := [(1, [1, 3], [6], true, (.p 0 (.q 1 (.p 2 (.q 3 (.e 4 (.e 5 (.e 6 .done))))))))] }
def B0v : B6 := [(179, D9), (183, F6)]
def D2j : An := { plan := [(1, [1, 4], [7], true, (.p 0 (.q 1 (.p 2 (.p 3 (.q 4 (.e 5 (.e 6 (.e 7 .done)))))))))] }
def B4x : B6 := [(179, D9), (183, F6)]
def D2l : An := { plan := [(2, [1, 3, 5], [8], true, (.p 0 (.q 1 (.p 2 (.q 3 (.p 4 (.q 5 (.e 6 (.e 7 (.e 8 .done))))))))))] }
def B4u : B6 := [(179, D9), (211, P6), (212, N3)]
def D2m : An := { plan := [(1, [1, 3, 6, 8], [11], true, (.p 0 (.q 1 (.p 2 (.q 3 (.p 4 (.p 5 (.q 6 (.p 7 (.q 8 (.e 9 (.e 10 (.e 11 .done)))))))))))))] }
def B4l : B6 := [(142, J3), (179, D9)]
def A1r : A7 D9.args -> Prop := fun (x : Bool × List Int × Unit) => (sel x.1 (decide ((0 : Int) < (x.2.1.length : Int))) false, x.2.1) = (x.1 && decide (x.2.1 ≠ []), x.2.1)
theorem B3r (x : A7 D9.args) : K8 Tryz.prog tys A6t C1o D9 Tryz.f179 x = A1r x := by kernel_rfl
def A1b : A7 I0.args -> Prop := fun (x : Int × Unit) => (decide (x.1 < 0) = true -> True /\ ∀ (r : List Int × Unit), WfU r.1 /\ True -> r.1 = nc (IntKind.u64.wrap (-IntKind.u64.wrap x.1)).toNat -> True /\ ∀ (a : (Bool × List Int) × Unit), WfZ a.1 /\ True -> a.1 = (true && decide (r.1 ≠ []), r.1) -> a.1 = ic x.1) /\ (decide (x.1 < 0) = false -> True /\ ∀ (r : List Int × Unit), WfU r.1 /\ True -> r.1 = nc (IntKind.u64.wrap x.1).toNat -> True /\ ∀ (a : (Bool × List Int) × Unit), WfZ a.1 /\ True -> a.1 = (false && decide (r.1 ≠ []), r.1) -> a.1 = ic x.1)
theorem B1d (x : A7 I0.args) : K8 Tryz.prog tys A5p B9g I0 Tryz.f136 x = A1b x := by kernel_rfl
def A4p : A7 O1.args -> Prop := fun (x : (Bool × List Int) × Unit) => True /\ ∀ (r : Int × Unit), G2 r.1 /\ True -> r.1 = B7b (nv x.1.2) (nv []) -> (decide (r.1 = 0) = true -> (0 : Int) = (iv x.1).sign) /\ (decide (r.1 = 0) = false -> (x.1.1 = true -> (-1 : Int) = (iv x.1).sign) /\ (x.1.1 = false -> (1 : Int) = (iv x.1).sign))
theorem B9e (x : A7 O1.args) : K8 Tryz.prog tys B2l C8f O1 Tryz.f198 x = A4p x := by kernel_rfl
def A4c : A7 O2.args -> Prop := fun (x : (Bool × List Int) × Unit) => sh0 x.1.2 /\ ∀ (r : List Int × Unit), WfU r.1 /\ True -> r.1 = nc (nv x.1.2) -> True /\ ∀ (a : (Bool × List Int) × Unit), WfZ a.1 /\ True -> a.1 = (x.1.1 && decide (r.1 ≠ []), r.1) -> a.1 = ic (iv x.1)
theorem B7t (x : A7 O2.args) : K8 Tryz.prog tys B0v C8r O2 Tryz.f182 x = A4c x := by kernel_rfl
def A6n : A7 P7.args -> Prop := fun (x : (Bool × List Int) × Unit) => sh0 x.1.2 /\ ∀ (r : List Int × Unit), WfU r.1 /\ True -> r.1 = nc (nv x.1.2) -> True /\ ∀ (a : (Bool × List Int) × Unit), WfZ a.1 /\ True -> a.1 = (!x.1.1 && decide (r.1 ≠ []), r.1) -> a.1 = ic (-iv x.1)
theorem C3f (x : A7 P7.args) : K8 Tryz.prog tys B4x D2j P7 Tryz.f143 x = A6n x := by kernel_rfl
def A6i : A7 P8.args -> Prop := fun (x : (Bool × List Int) × (Bool × List Int) × Unit) => ((x.1.1 == x.2.1.1) = true -> (sh1 x.1.2 /\ sh1 x.2.1.2) /\ ∀ (r : List Int × Unit), WfU r.1 /\ True -> r.1 = nc (nv x.1.2 + nv x.2.1.2) -> True /\ ∀ (a : (Bool × List Int) × Unit), WfZ a.1 /\ True -> a.1 = (x.1.1 && decide (r.1 ≠ []), r.1) -> a.1 = ic (iv x.1 + iv x.2.1)) /\ ((x.1.1 == x.2.1.1) = false -> (sh1 x.1.2 /\ sh1 x.2.1.2) /\ ∀ (r : List Int × Bool × Unit), WfU r.1 /\ True /\ True -> (nv x.1.2 < nv x.2.1.2 -> r.1 = [] /\ r.2.1 = false) /\ (nv x.2.1.2 <= nv x.1.2 -> r.1 = nc (nv x.1.2 - nv x.2.1.2) /\ r.2.1 = true) -> (r.2.1 = true -> True /\ ∀ (a : (Bool × List Int) × Unit), WfZ a.1 /\ True -> a.1 = (x.1.1 && decide (r.1 ≠ []), r.1) -> a.1 = ic (iv x.1 + iv x.2.1)) /\ (r.2.1 = false -> (sh1 x.2.1.2 /\ sh1 x.1.2) /\ ∀ (r : List Int × Bool × Unit), WfU r.1 /\ True /\ True -> (nv x.2.1.2 < nv x.1.2 -> r.1 = [] /\ r.2.1 = false) /\ (nv x.1.2 <= nv x.2.1.2 -> r.1 = nc (nv x.2.1.2 - nv x.1.2) /\ r.2.1 = true) -> True /\ ∀ (a : (Bool × List Int) × Unit), WfZ a.1 /\ True -> a.1 = (x.2.1.1 && decide (r.1 ≠ []), r.1) -> a.1 = ic (iv x.1 + iv x.2.1)))
theorem C3w (x : A7 P8.args) : K8 Tryz.prog tys B4u D2l P8 Tryz.f173 x = A6i x := by kernel_rfl
def A6o : A7 N4.args -> Prop := fun (x : (Bool × List Int) × (Bool × List Int) × Unit) => (sh1 x.1.2 /\ sh1 x.2.1.2) /\ ∀ (r : List Int × Unit), WfU r.1 /\ True -> r.1 = nc (nv x.1.2 * nv x.2.1.2) -> True /\ ∀ (a : (Bool × List Int) × Unit), WfZ a.1 /\ True -> a.1 = (x.1.1 != x.2.1.1 && decide (r.1 ≠ []), r.1) -> a.1 = ic (iv x.1 * iv x.2.1)
theorem C2i (x : A7 N4.args) : K8 Tryz.prog tys B4l D2m N4 Tryz.f141 x = A6o x := by kernel_rfl
end Go.Proofs.YtkdmjgcjpmcjjaaGreat
