/- Part. -/
import Derived.Shelf.SlGeneric
import Derived.Shelf.SlIterI.Sorted
import Derived.Shelf.SortM.Plain
import Derived.Shelf.SortM.SortNone
import Derived.Shelf.SlSortCmp.NoneTotal
import Derived.Shelf.SlicesG.Cmp
import Derived.Ground.GgzProg
import Derived.Ground.SlsfProg
import Derived.Ground.SlgmProg
import Derived.Ground.SlgcProg
import Derived.Test.YtkdmjgcjpmcjjaaGreatProg
import Derived.Test.YtkdmjgcjpmcjjaaGreatK24G
namespace Go.Proofs
open Go.Shelf
def Tryz.sortEnt_ren : Go.Shelf.Ren := ⟨fun | 6 => 112 | 15 => 167 | 14 => 166 | 28 => 208 | 29 => 209 | 20 => 200 | 21 => 201 | 22 => 202 | 23 => 203 | 24 => 204 | 25 => 205 | 26 => 206 | 27 => 207 | 46 => 229 | 47 => 230 | 48 => 231 | 49 => 232 | 50 => 233 | 57 => 244 | n => n, fun | 22 => 92 | 24 => 94 | 25 => 142 | 3 => 3 | 39 => 176 | 0 => 0 | 53 => 153 | 55 => 144 | 4 => 4 | 46 => 194 | 45 => 193 | 50 => 198 | 5 => 5 | 9 => 9 | 66 => 217 | 70 => 221 | 76 => 231 | 77 => 232 | n => n, fun | n => n⟩
theorem Tryz.sortEnt : Go.Proofs.SlLaysF0.n6 Tryz.prog Tryz.sortEnt_ren := {
  mixed := by kernel_rfl
  f6 := ⟨Tryz.f112.name, by decide, Tryz.func112.trans (congrArg some (by kernel_rfl))⟩
  f14 := ⟨Tryz.f166.name, by decide, Tryz.func166.trans (congrArg some (by kernel_rfl))⟩
  f15 := Tryz.func167.trans (congrArg some (by kernel_rfl))
  f20 := ⟨Tryz.f200.name, by decide, Tryz.func200.trans (congrArg some (by kernel_rfl))⟩
  f21 := ⟨Tryz.f201.name, by decide, Tryz.func201.trans (congrArg some (by kernel_rfl))⟩
  f22 := ⟨Tryz.f202.name, by decide, Tryz.func202.trans (congrArg some (by kernel_rfl))⟩
  f23 := ⟨Tryz.f203.name, by decide, Tryz.func203.trans (congrArg some (by kernel_rfl))⟩
  f24 := ⟨Tryz.f204.name, by decide, Tryz.func204.trans (congrArg some (by kernel_rfl))⟩
  f25 := ⟨Tryz.f205.name, by decide, Tryz.func205.trans (congrArg some (by kernel_rfl))⟩
  f26 := ⟨Tryz.f206.name, by decide, Tryz.func206.trans (congrArg some (by kernel_rfl))⟩
  f27 := ⟨Tryz.f207.name, by decide, Tryz.func207.trans (congrArg some (by kernel_rfl))⟩
  f28 := Tryz.func208.trans (congrArg some (by kernel_rfl))
  f29 := Tryz.func209.trans (congrArg some (by kernel_rfl))
  f46 := ⟨Tryz.f229.name, by decide, Tryz.func229.trans (congrArg some (by kernel_rfl))⟩
  f47 := Tryz.func230.trans (congrArg some (by kernel_rfl))
  f48 := Tryz.func231.trans (congrArg some (by kernel_rfl))
  f49 := ⟨Tryz.f232.name, by decide, Tryz.func232.trans (congrArg some (by kernel_rfl))⟩
  f50 := ⟨Tryz.f233.name, by decide, Tryz.func233.trans (congrArg some (by kernel_rfl))⟩
  f57 := ⟨Tryz.f244.name, by decide, Tryz.func244.trans (congrArg some (by kernel_rfl))⟩
  t0 := Tryz.underlying0
  a0 := Tryz.isAgg0
  z0 := Tryz.sizeOf0
  v0 := Tryz.zeroValue0
  t3 := Tryz.underlying3
  a3 := Tryz.isAgg3
  z3 := Tryz.sizeOf3
  v3 := Tryz.zeroValue3
  t4 := Tryz.underlying4
  a4 := Tryz.isAgg4
  z4 := Tryz.sizeOf4
  v4 := Tryz.zeroValue4
  t5 := Tryz.underlying5
  a5 := Tryz.isAgg5
  z5 := Tryz.sizeOf5
  v5 := Tryz.zeroValue5
  t9 := Tryz.underlying9
  a9 := Tryz.isAgg9
  z9 := Tryz.sizeOf9
  v9 := Tryz.zeroValue9
  t22 := Tryz.underlying92
  a22 := Tryz.isAgg92
  z22 := Tryz.sizeOf92
  v22 := Tryz.zeroValue92
  t25 := Tryz.underlying142
  a25 := Tryz.isAgg142
  z25 := Tryz.sizeOf142
  v25 := Tryz.zeroValue142
  t39 := Tryz.underlying176
  a39 := Tryz.isAgg176
  z39 := Tryz.sizeOf176
  v39 := Tryz.zeroValue176
  t45 := Tryz.underlying193
  a45 := Tryz.isAgg193
  z45 := Tryz.sizeOf193
  v45 := Tryz.zeroValue193
  t46 := Tryz.underlying194
  a46 := Tryz.isAgg194
  z46 := Tryz.sizeOf194
  v46 := Tryz.zeroValue194
  t50 := Tryz.underlying198
  a50 := Tryz.isAgg198
  z50 := Tryz.sizeOf198
  v50 := Tryz.zeroValue198
  t53 := Tryz.underlying153
  a53 := Tryz.isAgg153
  z53 := Tryz.sizeOf153
  v53 := Tryz.zeroValue153
  t55 := Tryz.underlying144
  a55 := Tryz.isAgg144
  z55 := Tryz.sizeOf144
  v55 := Tryz.zeroValue144
  t66 := Tryz.underlying217
  a66 := Tryz.isAgg217
  z66 := Tryz.sizeOf217
  v66 := Tryz.zeroValue217
  t70 := Tryz.underlying221
  a70 := Tryz.isAgg221
  z70 := Tryz.sizeOf221
  v70 := Tryz.zeroValue221
  t76 := Tryz.underlying231
  a76 := Tryz.isAgg231
  z76 := Tryz.sizeOf231
  v76 := Tryz.zeroValue231
  t77 := Tryz.underlying232
  a77 := Tryz.isAgg232
  z77 := Tryz.sizeOf232
  v77 := Tryz.zeroValue232 }
def Tryz.sortedInt_ren : Go.Shelf.Ren := ⟨fun | 6 => 174 | 8 => 213 | 9 => 214 | 11 => 235 | 13 => 167 | 12 => 236 | 23 => 208 | 24 => 209 | 14 => 246 | 15 => 247 | 16 => 248 | 17 => 249 | 18 => 250 | 19 => 251 | 20 => 252 | 21 => 253 | 22 => 254 | 25 => 257 | 26 => 230 | 27 => 231 | 28 => 258 | 29 => 259 | 30 => 168 | 31 => 261 | n => n, fun | 26 => 3 | 28 => 182 | 24 => 25 | 0 => 0 | 3 => 3 | 37 => 176 | 48 => 153 | 50 => 144 | 4 => 4 | 40 => 194 | 39 => 193 | 45 => 198 | 5 => 5 | 9 => 9 | 51 => 217 | 55 => 221 | 57 => 231 | 58 => 232 | 33 => 137 | n => n, fun | n => n⟩
theorem Tryz.sortedInt : Go.Proofs.SlLaysZI.n6 Tryz.prog Tryz.sortedInt_ren := {
  mixed := by kernel_rfl
  f6 := ⟨Tryz.f174.name, by decide, Tryz.func174.trans (congrArg some (by kernel_rfl))⟩
  f8 := ⟨Tryz.f213.name, by decide, Tryz.func213.trans (congrArg some (by kernel_rfl))⟩
  f11 := ⟨Tryz.f235.name, by decide, Tryz.func235.trans (congrArg some (by kernel_rfl))⟩
  t0 := Tryz.underlying0
  a0 := Tryz.isAgg0
  z0 := Tryz.sizeOf0
  v0 := Tryz.zeroValue0
  t24 := Tryz.underlying25
  a24 := Tryz.isAgg25
  z24 := Tryz.sizeOf25
  v24 := Tryz.zeroValue25
  t26 := Tryz.underlying3
  a26 := Tryz.isAgg3
  z26 := Tryz.sizeOf3
  v26 := Tryz.zeroValue3
  t28 := Tryz.underlying182
  a28 := Tryz.isAgg182
  z28 := Tryz.sizeOf182
  v28 := Tryz.zeroValue182
  i26 := by kernel_rfl }
def Tryz.keysGo_ren : Go.Shelf.Ren := ⟨fun | 10 => 215 | n => n, fun | 33 => 137 | 23 => 179 | 0 => 0 | 4 => 4 | 26 => 3 | 3 => 31 | n => n, fun | n => n⟩
theorem Tryz.keysGo : Go.Proofs.SlLaysZI.n10 Tryz.prog Tryz.keysGo_ren := {
  mixed := by kernel_rfl
  f10 := ⟨Tryz.f215.name, by decide, Tryz.func215.trans (congrArg some (by kernel_rfl))⟩
  t0 := Tryz.underlying0
  a0 := Tryz.isAgg0
  z0 := Tryz.sizeOf0
  v0 := Tryz.zeroValue0
  t4 := Tryz.underlying4
  a4 := Tryz.isAgg4
  z4 := Tryz.sizeOf4
  v4 := Tryz.zeroValue4
  t23 := Tryz.underlying179
  a23 := Tryz.isAgg179
  z23 := Tryz.sizeOf179
  v23 := Tryz.zeroValue179
  t26 := Tryz.underlying3
  a26 := Tryz.isAgg3
  z26 := Tryz.sizeOf3
  v26 := Tryz.zeroValue3
  t33 := Tryz.underlying137
  a33 := Tryz.isAgg137
  z33 := Tryz.sizeOf137
  v33 := Tryz.zeroValue137 }
def Tryz.sortInt_ren : Go.Shelf.Ren := ⟨fun | 5 => 214 | 8 => 167 | 7 => 236 | 19 => 208 | 20 => 209 | 10 => 246 | 11 => 247 | 12 => 248 | 13 => 249 | 14 => 250 | 15 => 251 | 16 => 252 | 17 => 253 | 18 => 254 | 30 => 257 | 31 => 230 | 32 => 231 | 33 => 258 | 34 => 259 | 35 => 168 | 40 => 261 | n => n, fun | 23 => 25 | 25 => 3 | 3 => 3 | 32 => 176 | 22 => 25 | 0 => 0 | 44 => 153 | 46 => 144 | 4 => 4 | 36 => 194 | 35 => 193 | 41 => 198 | 5 => 5 | 9 => 9 | 53 => 217 | 57 => 221 | 63 => 231 | 64 => 232 | n => n, fun | n => n⟩
theorem Tryz.sortInt : Go.Proofs.SlLaysM.n5 Tryz.prog Tryz.sortInt_ren := {
  mixed := by kernel_rfl
  f5 := ⟨Tryz.f214.name, by decide, Tryz.func214.trans (congrArg some (by kernel_rfl))⟩
  f7 := ⟨Tryz.f236.name, by decide, Tryz.func236.trans (congrArg some (by kernel_rfl))⟩
  f8 := Tryz.func167.trans (congrArg some (by kernel_rfl))
  f10 := ⟨Tryz.f246.name, by decide, Tryz.func246.trans (congrArg some (by kernel_rfl))⟩
  f11 := ⟨Tryz.f247.name, by decide, Tryz.func247.trans (congrArg some (by kernel_rfl))⟩
  f12 := ⟨Tryz.f248.name, by decide, Tryz.func248.trans (congrArg some (by kernel_rfl))⟩
  f13 := ⟨Tryz.f249.name, by decide, Tryz.func249.trans (congrArg some (by kernel_rfl))⟩
  f14 := ⟨Tryz.f250.name, by decide, Tryz.func250.trans (congrArg some (by kernel_rfl))⟩
  f15 := ⟨Tryz.f251.name, by decide, Tryz.func251.trans (congrArg some (by kernel_rfl))⟩
  f16 := ⟨Tryz.f252.name, by decide, Tryz.func252.trans (congrArg some (by kernel_rfl))⟩
  f17 := ⟨Tryz.f253.name, by decide, Tryz.func253.trans (congrArg some (by kernel_rfl))⟩
  f18 := ⟨Tryz.f254.name, by decide, Tryz.func254.trans (congrArg some (by kernel_rfl))⟩
  f19 := Tryz.func208.trans (congrArg some (by kernel_rfl))
  f20 := Tryz.func209.trans (congrArg some (by kernel_rfl))
  f30 := ⟨Tryz.f257.name, by decide, Tryz.func257.trans (congrArg some (by kernel_rfl))⟩
  f31 := Tryz.func230.trans (congrArg some (by kernel_rfl))
  f32 := Tryz.func231.trans (congrArg some (by kernel_rfl))
  f33 := ⟨Tryz.f258.name, by decide, Tryz.func258.trans (congrArg some (by kernel_rfl))⟩
  f34 := ⟨Tryz.f259.name, by decide, Tryz.func259.trans (congrArg some (by kernel_rfl))⟩
  f35 := ⟨Tryz.f168.name, by decide, Tryz.func168.trans (congrArg some (by kernel_rfl))⟩
  f40 := ⟨Tryz.f261.name, by decide, Tryz.func261.trans (congrArg some (by kernel_rfl))⟩
  t0 := Tryz.underlying0
  a0 := Tryz.isAgg0
  z0 := Tryz.sizeOf0
  v0 := Tryz.zeroValue0
  t3 := Tryz.underlying3
  a3 := Tryz.isAgg3
  z3 := Tryz.sizeOf3
  v3 := Tryz.zeroValue3
  t4 := Tryz.underlying4
  a4 := Tryz.isAgg4
  z4 := Tryz.sizeOf4
  v4 := Tryz.zeroValue4
  t5 := Tryz.underlying5
  a5 := Tryz.isAgg5
  z5 := Tryz.sizeOf5
  v5 := Tryz.zeroValue5
  t9 := Tryz.underlying9
  a9 := Tryz.isAgg9
  z9 := Tryz.sizeOf9
  v9 := Tryz.zeroValue9
  t22 := Tryz.underlying25
  a22 := Tryz.isAgg25
  z22 := Tryz.sizeOf25
  v22 := Tryz.zeroValue25
  t23 := Tryz.underlying25
  a23 := Tryz.isAgg25
  z23 := Tryz.sizeOf25
  v23 := Tryz.zeroValue25
  t25 := Tryz.underlying3
  a25 := Tryz.isAgg3
  z25 := Tryz.sizeOf3
  v25 := Tryz.zeroValue3
  t32 := Tryz.underlying176
  a32 := Tryz.isAgg176
  z32 := Tryz.sizeOf176
  v32 := Tryz.zeroValue176
  t35 := Tryz.underlying193
  a35 := Tryz.isAgg193
  z35 := Tryz.sizeOf193
  v35 := Tryz.zeroValue193
  t36 := Tryz.underlying194
  a36 := Tryz.isAgg194
  z36 := Tryz.sizeOf194
  v36 := Tryz.zeroValue194
  t41 := Tryz.underlying198
  a41 := Tryz.isAgg198
  z41 := Tryz.sizeOf198
  v41 := Tryz.zeroValue198
  t44 := Tryz.underlying153
  a44 := Tryz.isAgg153
  z44 := Tryz.sizeOf153
  v44 := Tryz.zeroValue153
  t46 := Tryz.underlying144
  a46 := Tryz.isAgg144
  z46 := Tryz.sizeOf144
  v46 := Tryz.zeroValue144
  t53 := Tryz.underlying217
  a53 := Tryz.isAgg217
  z53 := Tryz.sizeOf217
  v53 := Tryz.zeroValue217
  t57 := Tryz.underlying221
  a57 := Tryz.isAgg221
  z57 := Tryz.sizeOf221
  v57 := Tryz.zeroValue221
  t63 := Tryz.underlying231
  a63 := Tryz.isAgg231
  z63 := Tryz.sizeOf231
  v63 := Tryz.zeroValue231
  t64 := Tryz.underlying232
  a64 := Tryz.isAgg232
  z64 := Tryz.sizeOf232
  v64 := Tryz.zeroValue232 }
def Tryz.cmpInt_ren : Go.Shelf.Ren := ⟨fun | 5 => 114 | 7 => 168 | n => n, fun | 22 => 3 | 3 => 3 | 4 => 4 | n => n, fun | n => n⟩
theorem Tryz.cmpInt : Go.Proofs.SlLaysC2.n5 Tryz.prog Tryz.cmpInt_ren := {
  mixed := by kernel_rfl
  f5 := ⟨Tryz.f114.name, by decide, Tryz.func114.trans (congrArg some (by kernel_rfl))⟩
  f7 := ⟨Tryz.f168.name, by decide, Tryz.func168.trans (congrArg some (by kernel_rfl))⟩
  t3 := Tryz.underlying3
  a3 := Tryz.isAgg3
  z3 := Tryz.sizeOf3
  v3 := Tryz.zeroValue3
  t4 := Tryz.underlying4
  a4 := Tryz.isAgg4
  z4 := Tryz.sizeOf4
  v4 := Tryz.zeroValue4
  t22 := Tryz.underlying3
  a22 := Tryz.isAgg3
  z22 := Tryz.sizeOf3
  v22 := Tryz.zeroValue3 }
end Go.Proofs
namespace Go.Proofs.YtkdmjgcjpmcjjaaGreat
open Go.Vc Go.Gw Go.Lib Go.Shelf
theorem D6a (w : World) (o : Obj) : w.alloc o = { w with heap := w.heap.push o } := rfl
theorem F3x (a b : Int) (r1 r2 : List Value) (w : World) : Calls Tryz.prog 113 #[.agg (.int .i64 a :: r1).toArray, .agg (.int .i64 b :: r2).toArray] w fun e w' => e = .returned (.int .i64 (Lib.compareInt a b)) /\ ∃ q os, w' = Go.Sort.grow (w.drewN q) os := by
  have e114 : ∀ args w, (callFunc 114 args).run Tryz.prog w = .ok (.enter 114 args) w := Go.Vc.B2x (by kernel_rfl)
  have hc := fun (w : World) => AnyG.cmp_Compare_int Tryz.cmpInt a b w
  go_enter Tryz.func113, Tryz.ntmps113
  go_wp2_with (go_at_fn (114); refine (hc _).mono ?_; rintro e w' ⟨rfl, hw⟩; rw [hw])
  go_ret
  refine ⟨rfl, 0, #[.cells (Value.int .i64 a :: r1).toArray 94, .cells (Value.int .i64 b :: r2).toArray 94], ?_⟩
  rw [D6a, D6a]
  simp [Go.Sort.grow, World.drewN]
  apply Array.toList_inj.1
  simp
theorem G0e (a b : Int) : Lib.compareInt a b = C7b a b := by
  unfold Lib.compareInt C7b
  (repeat' split) <;> first | rfl | omega
theorem G1n : G0u Tryz.prog 113 tE (fun a b : Ent => C7b a.1 b.1) := by
  rintro w Z c1 c2 x y ⟨u1, r1, rfl, ⟨rfl, _⟩, _⟩ ⟨u2, r2, rfl, ⟨rfl, _⟩, _⟩
  have := F3x x.1 y.1 r1 r2 w
  rw [G0e] at this
  exact this
theorem F7u : D7s Tryz.prog 112 (E2q 113 tE 94 (fun a b => C7b a.1 b.1)) := by
  refine E8l (tys := []) (F5t (ρ := Tryz.sortEnt_ren) Tryz.sortEnt (t := tE) (e := 94) (g := 113) (φ := fun a b : Ent => C7b a.1 b.1) Tryz.isAgg94 Tryz.sizeOf94 (fun a => ?_) (fun a b c => ?_) (fun a b c => ?_) (by kernel_rfl) G1n)
  all_goals (simp only [C7b]; (repeat' split) <;> omega)
theorem F4k (n : Int) (w : World) : Calls Tryz.prog 106 #[.int .i64 n] w fun e w' => e = .returned (.func (.func 107) #[] #[.pointer (some ⟨w.heap.size, 0, none⟩)]) /\ w' = w.alloc (.cells #[.int .i64 n] 3) := by
  go_enter Tryz.func106, Tryz.ntmps106
  go_wp2
  go_ret
  exact ⟨rfl, rfl⟩
theorem G1i (hm : C0 Tryz.prog 107 E4) : D7s Tryz.prog 106 (F9p Tryz.prog [(false, .int .i64)] false .bool (.int .i64) (fun n x => decide (x.1 < 0 \/ n <= x.1))) := by
  refine F3g ?_
  rintro w Z v n ⟨hv, hn⟩
  obtain rfl : v = .int .i64 n := by simpa using hv
  refine Calls.mono (F4k _ w) ?_
  rintro _ _ ⟨rfl, rfl⟩
  have hsz : (w.alloc (.cells #[Value.int .i64 n] 3)).heap.size = w.heap.size + 1 := by simp
  refine ⟨_, rfl, Ext.alloc w _, (fun b => b = w.heap.size), fun b hb => .inr ⟨by omega, by rw [hsz, hb]; omega⟩, 107, [.pointer (some ⟨w.heap.size, 0, none⟩)], rfl, by kernel_rfl, ?_⟩
  rintro w1 Z1 vs ⟨i, _⟩ hs h0 hz ⟨v1, vs1, rfl, hv1, rfl⟩ _
  have hc : (w.alloc (.cells #[Value.int .i64 n] 3)).heap[w.heap.size]? = some (.cells #[Value.int .i64 n] 3 (0, 0)) := by rw [D6a]; simp
  have hc1 : w1.heap[w.heap.size]? = some (.cells #[Value.int .i64 n] 3 (0, 0)) := (hs _ rfl).trans hc
  have hrep : A1l Tryz.prog w1 (fun b => Z1 b \/ b = w.heap.size) E4.args [v1, .pointer (some ⟨w.heap.size, 0, none⟩)] (i, n, ()) := by
    refine ⟨_, _, rfl, ?_, _, _, rfl, ?_, rfl⟩
    . exact hv1
    . exact ⟨w.heap.size, 0, [Value.int .i64 n], rfl, .inr rfl, fun j u hj => by
        rcases j with _ | j
        . simp only [List.getElem?_cons_zero, Option.some.injEq] at hj
          subst hj
          rw [N2]
          simp [World.cell?, hc1]
        . simp at hj, rfl, hn⟩
  have := hm w1 (fun b => Z1 b \/ b = w.heap.size) [v1, .pointer (some ⟨w.heap.size, 0, none⟩)] (i, n, ()) (fun b hb => hb.elim (hz b) fun e => h0 b e) hrep trivial trivial
  refine Gw.Ret.mono this ?_
  rintro u w2 ⟨hx, ⟨r, _⟩, o, us, Zn, hpost, _, rfl, hzn, ⟨v2, us2, rfl, hv2, _, rfl⟩, _⟩
  refine ⟨hx.ext fun b hb => ?_, Zn, fun b hb => ?_, ?_⟩
  . obtain ⟨p, hp, _⟩ := hb
    cases hp
  . rcases hzn b hb with h | ⟨h, _⟩
    . exact .inl h
    . cases h
  . have hr : r = decide (i < 0 \/ n <= i) := hpost
    show A7z false .bool w2 Zn v2 (decide (i < 0 \/ n <= i))
    rw [<- hr]; exact hv2
end Go.Proofs.YtkdmjgcjpmcjjaaGreat
namespace Go.Proofs.YtkdmjgcjpmcjjaaGreat
open Go Go.Vc Go.Gw Go.Lib Go.Shelf Go.Maps Go.Sort Go.RowKit
open Go.WideElems (Fit)
def F4t (_ : Value) : Option (DataW Unit × List MemPlace) := some (.nil, [])
theorem F8y {P : Program} {k : TypeId} (hk : P.underlying k = some (.int .i64)) {n : Int} (hn : inR .i64 n) : keyOf P k (.int .i64 n) = some (.int .i64 n) := by
  refine keyOf_int_mk hk ?_
  unfold inR at hn
  simpa [Lit.wf] using hn
theorem G0x {P : Program} {k : TypeId} (hk : P.underlying k = some (.int .i64)) {x : MapEntry} {n : Int} (hx : x.key = .int .i64 n) (hn : inR .i64 n) : WideElems.rd P k F4t x = some (.int .i64 n, .nil) := by
  unfold WideElems.rd
  rw [hx, F8y hk hn]; rfl
theorem E0r {w : World} {Z : Nat -> Prop} {va : Bool} {vt : Ty} : ∀ {es : List (Int × vt.den)} {l : List MapEntry}, D5f w Z false (.int .i64) va vt l es -> ∀ {P : Program} {k : TypeId}, P.underlying k = some (.int .i64) -> (∀ x ∈ l, ∃ y, WideElems.rd P k F4t x = some y) /\ l.map (WideElems.rg P k F4t) = es.map fun e => (.int .i64 e.1, .nil)
  | [], l, h, P, k, hk => by
    obtain rfl : l = [] := h
    exact ⟨fun x hx => (by cases hx), rfl⟩
  | e :: es, l, h, P, k, hk => by
    obtain ⟨x, l', rfl, ⟨h1, h2⟩, _, h3⟩ := h
    have hx : x.key = .int .i64 e.1 := by simpa using h1
    have h4 := G0x hk hx h2
    obtain ⟨i1, i2⟩ := E0r h3 hk
    refine ⟨fun y hy => ?_, ?_⟩
    . rcases List.mem_cons.1 hy with rfl | hy
      . exact ⟨_, h4⟩
      . exact i1 y hy
    . rw [List.map_cons, List.map_cons, i2]
      congr 1
      unfold WideElems.rg
      rw [h4]; rfl
theorem D9j {w : World} {Z : Nat -> Prop} {va : Bool} {vt : Ty} : ∀ {es : List (Int × vt.den)} {l : List MapEntry}, D5f w Z false (.int .i64) va vt l es -> l.map (·.key) = es.map fun e => Value.int .i64 e.1
  | [], l, h => by obtain rfl : l = [] := h; rfl
  | e :: es, l, h => by
    obtain ⟨x, l', rfl, ⟨h1, h2⟩, _, h3⟩ := h
    have hx : x.key = .int .i64 e.1 := by simpa using h1
    rw [List.map_cons, List.map_cons, D9j h3, hx]
theorem F5r {P : Program} {k : TypeId} (hk : P.underlying k = some (.int .i64)) {w : World} {b clock : Nat} {ents : Array MapEntry} {Z : Nat -> Prop} {va : Bool} {vt : Ty} {es : List (Int × vt.den)} (hb : w.heap[b]? = some (.map ents clock)) (hm : MOk ents clock) (he : D5f w Z false (.int .i64) va vt ents.toList es) (hl : es.length <= 100000) (hnd : List.Nodup (α := Int) (es.map (·.1))) :
    ∃ D0 : DataW Unit, w.ownsMap P k F4t b ents.size D0 /\ (intKeys D0).Perm (es.map (·.1)) /\ Maps.size D0 = es.length := by
  obtain ⟨h1, h2⟩ := E0r he (P := P) hk
  have h4 : ents.toList.length = es.length := by have := congrArg List.length h2; simpa using this
  have h5 : ents.toList.map (·.key) = es.map fun e => Value.int .i64 e.1 := D9j he
  refine ⟨_, ⟨ents, clock, hb, ⟨?_, ⟨hm.1, hm.2, ?_⟩, h1⟩, Nat.le_refl _, rfl⟩, ?_, ?_⟩
  . have : ents.size = es.length := by rw [<- h4]; simp
    rw [this]
    exact Nat.le_trans hl (by decide)
  . rw [h5]
    have : (es.map fun e => Value.int .i64 e.1) = (es.map (·.1)).map fun n : Int => Value.int .i64 n := by rw [List.map_map]; rfl
    rw [this]
    exact List.Pairwise.map _ (fun a b hab h => hab (by simpa using h)) hnd
  . show (List.map _ _).Perm _
    refine ((WideShapes.sorted_perm _).map _).trans ?_
    rw [h2, List.map_map]
    exact List.Perm.of_eq (List.map_congr_left fun e _ => rfl)
  . show List.length (List.foldr _ _ _) = _
    rw [(WideShapes.sorted_perm _).length_eq, List.length_map, h4]
theorem D9e {w : World} {Z : Nat -> Prop} : ∀ {l : List Int}, (∀ n ∈ l, inR .i64 n) -> Q3 (Rep (.int .i64) w Z) (l.map encZ) l
  | [], _ => rfl
  | n :: l, h => ⟨[encZ n], l.map encZ, rfl, ⟨rfl, h n List.mem_cons_self⟩, D9e fun m hm => h m (List.mem_cons_of_mem _ hm)⟩
theorem F4j (m : Nat) : AnyZI.SortsIn Tryz.prog Tryz.sortedInt_ren Fence.wide m :=
  ⟨fun blk off cap ss W hH hblk hsz => callsIn_wide.2 (AnyM.slices_Sort_int Tryz.sortInt blk off cap ss W hH hblk hsz),
   fun p cap W => callsIn_wide.2 (AnyM.slices_Sort_int_none Tryz.sortInt p cap W)⟩
theorem F7m : D7s Tryz.prog 174 (E3c 215 3) := by
  refine E6w (tys := []) ?_
  intro w Z va vt bm b clock T ents es hbm hb hm he hl hnd
  obtain ⟨D0, hown, hperm, hsize⟩ := F5r (P := Tryz.prog) (k := 3) Tryz.underlying3 hb hm he hl hnd
  have hbl : bm < w.heap.size := hbm.lt
  have hcell : w.cell? ⟨bm, 0, none⟩ = some (.map (some b)) := by
    exact hbm.cell (o := 0) rfl
  have hseq := AnyZI.keys_gives Tryz.keysGo Fence.wide 3 trivial rfl (by decide) bm b ents.size D0 w hbl hcell hown
  have := AnyZI.sorted_in Tryz.sortedInt Fence.wide 6 trivial trivial trivial trivial rfl (by decide) (F4j _) (fun args w => Go.Vc.B2x (f := 214) (by kernel_rfl) args w) 215 _ trivial (Go.Vc.B2x (by kernel_rfl)) _ _ (by rw [hsize]; exact Nat.le_trans hl (by decide)) (by rw [hsize]; omega) w hseq
  refine Calls.mono (callsIn_wide.1 this) ?_
  rintro _ w' ⟨v, ss, rfl, hS, hrow, hnil, hbelow⟩
  have hb : Below w.heap.size w w' := hbelow
  have tr : ∀ a b c : Int, decide (a <= b) = true -> decide (b <= c) = true -> decide (a <= c) = true := fun a b c h h' => decide_eq_true (Int.le_trans (of_decide_eq_true h) (of_decide_eq_true h'))
  have to : ∀ a b : Int, (decide (a <= b) || decide (b <= a)) = true := fun a b => by
    simp only [Bool.or_eq_true, decide_eq_true_eq]; omega
  have hin : ∀ n ∈ ss, inR .i64 n := fun n hn => by
    have hn2 : n ∈ es.map (·.1) := hperm.mem_iff.1 (hS.mem_iff.1 hn)
    obtain ⟨e, he2, rfl⟩ := List.mem_map.1 hn2
    obtain ⟨x, _, hx, _⟩ := X4.mem he he2
    exact hx.2
  refine ⟨v, rfl, C1g.of ⟨hb, trivial⟩, (ss.mergeSort (fun x y => decide (x <= y)), ()), (), [v], (fun _ => False), ⟨?_, ?_⟩, fun h => (by cases h), rfl, fun _ hb => hb.elim, ⟨v, [], rfl, ⟨(ss.mergeSort (fun x y => decide (x <= y))).map encZ, ?_, ?_, fun _ _ h => h⟩, fun _ b _ u hu => (by cases hu), rfl⟩, trivial⟩
  . exact (List.mergeSort_perm ss _).trans (hS.trans hperm)
  . exact (List.pairwise_mergeSort tr to ss).imp fun h => of_decide_eq_true h
  . have hl2 : (ss.mergeSort (fun x y => decide (x <= y))).length = ss.length := (List.mergeSort_perm ss _).length_eq
    show w'.ownsRow w.heap.size 3 1 v (ss.mergeSort (fun x y => decide (x <= y))).length _
    rw [hl2]; exact hrow
  . exact D9e fun n hn => hin n ((List.mergeSort_perm ss _).mem_iff.1 hn)
end Go.Proofs.YtkdmjgcjpmcjjaaGreat
namespace Go.Proofs.YtkdmjgcjpmcjjaaGreat
open Go.Vc Go.Gw
def A9t : An := {}
def A1k : B6 := [(18, Z8), (20, H1), (28, F7), (47, P5), (55, P4), (56, G9), (57, S7), (58, J5)]
def U3 : A7 B8.args -> Prop := fun (x : List Int × QQ × Unit) => True /\ ∀ (r : (List Int × Int) × Unit), (WfI r.1.1 /\ G2 r.1.2) /\ True -> r.1 = (x.1, (0 : Int)) -> ((0 : Int) < (4 : Int) /\ 0 <= r.1.2 /\ r.1.2 <= (r.1.1.length : Int)) /\ ∀ (B : Int × Unit) (o : (List Int × Int) × Unit), G2 B.1 /\ True -> ((Ty.int IntKind.i64).sl.pair (Ty.int IntKind.i64)).wf o.1 /\ True -> 0 <= B.1 /\ B.1 < 4 -> o.1.1 = r.1.1 /\ 0 <= o.1.2 /\ o.1.2 <= (r.1.1.length : Int) -> ((0 : Int) < (4 : Int) /\ 0 <= o.1.2 /\ o.1.2 <= (o.1.1.length : Int)) /\ ∀ (r : Int × Unit) (t : (List Int × Int) × Unit), G2 r.1 /\ True -> ((Ty.int IntKind.i64).sl.pair (Ty.int IntKind.i64)).wf t.1 /\ True -> 0 <= r.1 /\ r.1 < 4 -> t.1.1 = o.1.1 /\ 0 <= t.1.2 /\ t.1.2 <= (o.1.1.length : Int) -> ((0 : Int) < (4 : Int) /\ 0 <= t.1.2 /\ t.1.2 <= (t.1.1.length : Int)) /\ ∀ (q : Int × Unit) (o : (List Int × Int) × Unit), G2 q.1 /\ True -> ((Ty.int IntKind.i64).sl.pair (Ty.int IntKind.i64)).wf o.1 /\ True -> 0 <= q.1 /\ q.1 < 4 -> o.1.1 = t.1.1 /\ 0 <= o.1.2 /\ o.1.2 <= (t.1.1.length : Int) -> ((0 : Int) < (4 : Int) /\ 0 <= o.1.2 /\ o.1.2 <= (o.1.1.length : Int)) /\ ∀ (C : Int × Unit) (u : (List Int × Int) × Unit), G2 C.1 /\ True -> ((Ty.int IntKind.i64).sl.pair (Ty.int IntKind.i64)).wf u.1 /\ True -> 0 <= C.1 /\ C.1 < 4 -> u.1.1 = o.1.1 /\ 0 <= u.1.2 /\ u.1.2 <= (o.1.1.length : Int) -> (0 <= B.1 /\ B.1 <= 20 /\ 0 <= r.1 /\ r.1 <= 20 /\ 0 <= u.1.2 /\ u.1.2 <= (u.1.1.length : Int)) /\ ∀ (a : MM × Unit) (o : (List Int × Int) × Unit), WfM a.1 /\ True -> ((Ty.int IntKind.i64).sl.pair (Ty.int IntKind.i64)).wf o.1 /\ True -> F9g (Int.toNat B.1) (Int.toNat r.1) a.1 -> o.1.1 = u.1.1 /\ 0 <= o.1.2 /\ o.1.2 <= (u.1.1.length : Int) -> (0 <= r.1 /\ r.1 <= 20 /\ 0 <= q.1 /\ q.1 <= 20 /\ 0 <= o.1.2 /\ o.1.2 <= (o.1.1.length : Int)) /\ ∀ (b : MM × Unit) (w : (List Int × Int) × Unit), WfM b.1 /\ True -> ((Ty.int IntKind.i64).sl.pair (Ty.int IntKind.i64)).wf w.1 /\ True -> F9g (Int.toNat r.1) (Int.toNat q.1) b.1 -> w.1.1 = o.1.1 /\ 0 <= w.1.2 /\ w.1.2 <= (o.1.1.length : Int) -> (0 <= q.1 /\ q.1 <= 20 /\ 0 <= C.1 /\ C.1 <= 20 /\ 0 <= w.1.2 /\ w.1.2 <= (w.1.1.length : Int)) /\ ∀ (f : MM × Unit) (o : (List Int × Int) × Unit), WfM f.1 /\ True -> ((Ty.int IntKind.i64).sl.pair (Ty.int IntKind.i64)).wf o.1 /\ True -> F9g (Int.toNat q.1) (Int.toNat C.1) f.1 -> o.1.1 = w.1.1 /\ 0 <= o.1.2 /\ o.1.2 <= (w.1.1.length : Int) -> (0 <= r.1 /\ r.1 <= 20 /\ 0 <= q.1 /\ q.1 <= 20 /\ 0 <= o.1.2 /\ o.1.2 <= (o.1.1.length : Int)) /\ ∀ (d : MM × Unit) (F : (List Int × Int) × Unit), WfM d.1 /\ True -> ((Ty.int IntKind.i64).sl.pair (Ty.int IntKind.i64)).wf F.1 /\ True -> F9g (Int.toNat r.1) (Int.toNat q.1) d.1 -> F.1.1 = o.1.1 /\ 0 <= F.1.2 /\ F.1.2 <= (o.1.1.length : Int) -> (okM K0 a.1 /\ okM K0 b.1 /\ a.1.2.1 <= 1000) /\ ∀ (r : MM × Int × Unit), WfM r.1 /\ G2 r.2.1 /\ True -> (¬(A6 a.1 /\ A6 b.1) -> r.1 = zm /\ r.2.1 = 1) /\ (A6 a.1 /\ A6 b.1 -> (a.1.2.1 ≠ b.1.1 -> r.1 = zm /\ r.2.1 = 4) /\ (a.1.2.1 = b.1.1 -> isM (Int.toNat a.1.1) (Int.toNat b.1.2.1) (fun (i j : Nat) => A0h (Int.toNat a.1.2.1) fun (k : Nat) => el a.1 i k * el b.1 k j) r.1 /\ r.2.1 = 0)) -> (okM K0 b.1 /\ okM K0 f.1 /\ b.1.2.1 <= 1000) /\ ∀ (l : MM × Int × Unit), WfM l.1 /\ G2 l.2.1 /\ True -> (¬(A6 b.1 /\ A6 f.1) -> l.1 = zm /\ l.2.1 = 1) /\ (A6 b.1 /\ A6 f.1 -> (b.1.2.1 ≠ f.1.1 -> l.1 = zm /\ l.2.1 = 4) /\ (b.1.2.1 = f.1.1 -> isM (Int.toNat b.1.1) (Int.toNat f.1.2.1) (fun (i j : Nat) => A0h (Int.toNat b.1.2.1) fun (k : Nat) => el b.1 i k * el f.1 k j) l.1 /\ l.2.1 = 0)) -> (okM K0 r.1 /\ okM K0 f.1 /\ r.1.2.1 <= 1000) /\ ∀ (c : MM × Int × Unit), WfM c.1 /\ G2 c.2.1 /\ True -> (¬(A6 r.1 /\ A6 f.1) -> c.1 = zm /\ c.2.1 = 1) /\ (A6 r.1 /\ A6 f.1 -> (r.1.2.1 ≠ f.1.1 -> c.1 = zm /\ c.2.1 = 4) /\ (r.1.2.1 = f.1.1 -> isM (Int.toNat r.1.1) (Int.toNat f.1.2.1) (fun (i j : Nat) => A0h (Int.toNat r.1.2.1) fun (k : Nat) => el r.1 i k * el f.1 k j) c.1 /\ c.2.1 = 0)) -> (okM K0 a.1 /\ okM K0 l.1 /\ a.1.2.1 <= 1000) /\ ∀ (g : MM × Int × Unit), WfM g.1 /\ G2 g.2.1 /\ True -> (¬(A6 a.1 /\ A6 l.1) -> g.1 = zm /\ g.2.1 = 1) /\ (A6 a.1 /\ A6 l.1 -> (a.1.2.1 ≠ l.1.1 -> g.1 = zm /\ g.2.1 = 4) /\ (a.1.2.1 = l.1.1 -> isM (Int.toNat a.1.1) (Int.toNat l.1.2.1) (fun (i j : Nat) => A0h (Int.toNat a.1.2.1) fun (k : Nat) => el a.1 i k * el l.1 k j) g.1 /\ g.2.1 = 0)) -> okM K1 a.1 /\ ∀ (p : MM × Int × Unit), WfM p.1 /\ G2 p.2.1 /\ True -> (¬A6 a.1 -> p.1 = zm /\ p.2.1 = 1) /\ (A6 a.1 -> isM (Int.toNat a.1.2.1) (Int.toNat a.1.1) (fun (i j : Nat) => el a.1 j i) p.1 /\ p.2.1 = 0) -> okM K1 b.1 /\ ∀ (m : MM × Int × Unit), WfM m.1 /\ G2 m.2.1 /\ True -> (¬A6 b.1 -> m.1 = zm /\ m.2.1 = 1) /\ (A6 b.1 -> isM (Int.toNat b.1.2.1) (Int.toNat b.1.1) (fun (i j : Nat) => el b.1 j i) m.1 /\ m.2.1 = 0) -> okM K1 r.1 /\ ∀ (y : MM × Int × Unit), WfM y.1 /\ G2 y.2.1 /\ True -> (¬A6 r.1 -> y.1 = zm /\ y.2.1 = 1) /\ (A6 r.1 -> isM (Int.toNat r.1.2.1) (Int.toNat r.1.1) (fun (i j : Nat) => el r.1 j i) y.1 /\ y.2.1 = 0) -> (okM K0 m.1 /\ okM K0 p.1 /\ m.1.2.1 <= 1000) /\ ∀ (z : MM × Int × Unit), WfM z.1 /\ G2 z.2.1 /\ True -> (¬(A6 m.1 /\ A6 p.1) -> z.1 = zm /\ z.2.1 = 1) /\ (A6 m.1 /\ A6 p.1 -> (m.1.2.1 ≠ p.1.1 -> z.1 = zm /\ z.2.1 = 4) /\ (m.1.2.1 = p.1.1 -> isM (Int.toNat m.1.1) (Int.toNat p.1.2.1) (fun (i j : Nat) => A0h (Int.toNat m.1.2.1) fun (k : Nat) => el m.1 i k * el p.1 k j) z.1 /\ z.2.1 = 0)) -> (okM K1 b.1 /\ sz K1 x.2.1 /\ okM K1 d.1) /\ ∀ (n : MM × Int × Unit), WfM n.1 /\ G2 n.2.1 /\ True -> (¬(A6 b.1 /\ A6 d.1) -> n.1 = zm /\ n.2.1 = 1) /\ (A6 b.1 /\ A6 d.1 -> (¬(b.1.1 = d.1.1 /\ b.1.2.1 = d.1.2.1) -> n.1 = zm /\ n.2.1 = 4) /\ (b.1.1 = d.1.1 /\ b.1.2.1 = d.1.2.1 -> isM (Int.toNat b.1.1) (Int.toNat b.1.2.1) (fun (i j : Nat) => el b.1 i j + rv x.2.1 * el d.1 i j) n.1 /\ n.2.1 = 0)) -> (okM K0 a.1 /\ okM K0 n.1 /\ a.1.2.1 <= 1000) /\ ∀ (s : MM × Int × Unit), WfM s.1 /\ G2 s.2.1 /\ True -> (¬(A6 a.1 /\ A6 n.1) -> s.1 = zm /\ s.2.1 = 1) /\ (A6 a.1 /\ A6 n.1 -> (a.1.2.1 ≠ n.1.1 -> s.1 = zm /\ s.2.1 = 4) /\ (a.1.2.1 = n.1.1 -> isM (Int.toNat a.1.1) (Int.toNat n.1.2.1) (fun (i j : Nat) => A0h (Int.toNat a.1.2.1) fun (k : Nat) => el a.1 i k * el n.1 k j) s.1 /\ s.2.1 = 0)) -> (okM K0 a.1 /\ okM K0 d.1 /\ a.1.2.1 <= 1000) /\ ∀ (h : MM × Int × Unit), WfM h.1 /\ G2 h.2.1 /\ True -> (¬(A6 a.1 /\ A6 d.1) -> h.1 = zm /\ h.2.1 = 1) /\ (A6 a.1 /\ A6 d.1 -> (a.1.2.1 ≠ d.1.1 -> h.1 = zm /\ h.2.1 = 4) /\ (a.1.2.1 = d.1.1 -> isM (Int.toNat a.1.1) (Int.toNat d.1.2.1) (fun (i j : Nat) => A0h (Int.toNat a.1.2.1) fun (k : Nat) => el a.1 i k * el d.1 k j) h.1 /\ h.2.1 = 0)) -> (okM K1 r.1 /\ sz K1 x.2.1 /\ okM K1 h.1) /\ ∀ (A : MM × Int × Unit), WfM A.1 /\ G2 A.2.1 /\ True -> (¬(A6 r.1 /\ A6 h.1) -> A.1 = zm /\ A.2.1 = 1) /\ (A6 r.1 /\ A6 h.1 -> (¬(r.1.1 = h.1.1 /\ r.1.2.1 = h.1.2.1) -> A.1 = zm /\ A.2.1 = 4) /\ (r.1.1 = h.1.1 /\ r.1.2.1 = h.1.2.1 -> isM (Int.toNat r.1.1) (Int.toNat r.1.2.1) (fun (i j : Nat) => el r.1 i j + rv x.2.1 * el h.1 i j) A.1 /\ A.2.1 = 0)) -> True /\ ∀ (r : Bool × Unit), True /\ True -> r.1 = true -> (sel (sel r.1 (decide (c.2.1 = 0)) false) (decide (g.2.1 = 0)) false = true -> okM K1 c.1) /\ ∀ (D : Bool × Unit), (sel (sel r.1 (decide (c.2.1 = 0)) false) (decide (g.2.1 = 0)) false = true -> (True /\ True) /\ (D.1 = true ↔ c.1 = g.1 /\ ∀ (v : List EE), v ∈ c.1.2.2 -> ∀ (e : EE), e ∈ v -> e.2 = rc (rv e.2))) -> (sel (sel (sel r.1 (decide (c.2.1 = 0)) false) (decide (g.2.1 = 0)) false) D.1 false = true -> okM K1 y.1) /\ ∀ (G : Bool × Unit), (sel (sel (sel r.1 (decide (c.2.1 = 0)) false) (decide (g.2.1 = 0)) false) D.1 false = true -> (True /\ True) /\ (G.1 = true ↔ y.1 = z.1 /\ ∀ (v : List EE), v ∈ y.1.2.2 -> ∀ (e : EE), e ∈ v -> e.2 = rc (rv e.2))) -> (sel (sel (sel (sel r.1 (decide (c.2.1 = 0)) false) (decide (g.2.1 = 0)) false) D.1 false) G.1 false = true -> okM K1 s.1) /\ ∀ (H : Bool × Unit), (sel (sel (sel (sel r.1 (decide (c.2.1 = 0)) false) (decide (g.2.1 = 0)) false) D.1 false) G.1 false = true -> (True /\ True) /\ (H.1 = true ↔ s.1 = A.1 /\ ∀ (v : List EE), v ∈ s.1.2.2 -> ∀ (e : EE), e ∈ v -> e.2 = rc (rv e.2))) -> sel (sel (sel (sel (sel r.1 (decide (c.2.1 = 0)) false) (decide (g.2.1 = 0)) false) D.1 false) G.1 false) H.1 false = true
theorem A6k (x : A7 B8.args) : K8 Tryz.prog tys A1k A9t B8 Tryz.f10 x = U3 x := by kernel_rfl
def km (k R C : Nat) (f : Nat -> Nat -> Rat) (m : B4g) : Prop := isM R C f m /\ 1 <= k /\ R <= 1000 /\ C <= 1000 /\ ∀ i j, i < R -> j < C -> qs k (f i j)
theorem A3r {k K R C : Nat} {f : Nat -> Nat -> Rat} {m : B4g} (h : km k R C f m) (hk : k <= K) : okM K m := E6b (F6s h.1 h.2.1 h.2.2.2.2) hk
theorem F8r {k R C : Nat} {f : Nat -> Nat -> Rat} {m : B4g} (h : km k R C f m) : m.2.1 <= 1000 := by
  have : m.2.1 = (C : Int) := h.1.2.1
  have := h.2.2.2.1
  omega
theorem G1p {k R C : Nat} {f : Nat -> Nat -> Rat} {m : B4g} (h : km k R C f m) : A6 m := B2b h.1 (by have := h.2.2.1; omega) (by have := h.2.2.2.1; omega)
theorem B1q {k K R C : Nat} {f : Nat -> Nat -> Rat} {m : B4g} (h : km k R C f m) (hk : k <= K) : km K R C f m := ⟨h.1, by have := h.2.1; omega, h.2.2.1, h.2.2.2.1, fun i j hi hj => C1r (h.2.2.2.2 i j hi hj) hk⟩
theorem E6d {R C : Nat} {m : B4g} (h : F9g R C m) (hR : R <= 1000) (hC : C <= 1000) : ∃ f, km 1 R C f m := by
  obtain ⟨f, hq, hm⟩ := h
  exact ⟨f, hm, by decide, hR, hC, fun i j _ _ => hq i j⟩
def G4f (a b r : B4g) (c : Int) : Prop := (¬ (A6 a /\ A6 b) -> r = zm /\ c = 1) /\ (A6 a /\ A6 b -> (a.2.1 ≠ b.1 -> r = zm /\ c = 4) /\ (a.2.1 = b.1 -> isM a.1.toNat b.2.1.toNat (fun i j => A0h a.2.1.toNat fun k => el a i k * el b k j) r /\ c = 0))
theorem C9n {k k' R C D : Nat} {f g : Nat -> Nat -> Rat} {a b r : B4g} {c : Int} (ha : km k R C f a) (hb : km k' C D g b) (h : G4f a b r c) : km (C * (k + k' + 1) + 1) R D (fun i j => A0h C fun t => f i t * g t j) r /\ c = 0 := by
  have h := (h.2 ⟨G1p ha, G1p hb⟩).2 (by rw [show a.2.1 = (C : Int) from ha.1.2.1, show b.1 = (C : Int) from hb.1.1])
  rw [show a.1 = (R : Int) from ha.1.1, show a.2.1 = (C : Int) from ha.1.2.1, show b.2.1 = (D : Int) from hb.1.2.1] at h
  refine ⟨⟨A4j h.1 fun i j hi hj => W9 fun t ht => ?_, by omega, ha.2.2.1, hb.2.2.2.1, fun i j hi hj => F9n fun t ht => C5e (ha.2.2.2.2 i t hi ht) (hb.2.2.2.2 t j ht hj)⟩, h.2⟩
  rw [A5k ha.1 hi ht, A5k hb.1 ht hj]
theorem F8w {k R C : Nat} {f : Nat -> Nat -> Rat} {a r : B4g} {c : Int} (ha : km k R C f a) (h : TRr a r c) : km k C R (fun i j => f j i) r /\ c = 0 := by
  have h := h.2 (G1p ha)
  rw [show a.1 = (R : Int) from ha.1.1, show a.2.1 = (C : Int) from ha.1.2.1] at h
  exact ⟨⟨A4j h.1 fun i j hi hj => A5k ha.1 hj hi, ha.2.1, ha.2.2.2.1, ha.2.2.1, fun i j hi hj => ha.2.2.2.2 j i hj hi⟩, h.2⟩
def G4d (a : B4g) (x : X5) (b r : B4g) (c : Int) : Prop := (¬ (A6 a /\ A6 b) -> r = zm /\ c = 1) /\ (A6 a /\ A6 b -> (¬ (a.1 = b.1 /\ a.2.1 = b.2.1) -> r = zm /\ c = 4) /\ (a.1 = b.1 /\ a.2.1 = b.2.1 -> isM a.1.toNat a.2.1.toNat (fun i j => el a i j + rv x * el b i j) r /\ c = 0))
theorem F6p {k k' s R C : Nat} {f g : Nat -> Nat -> Rat} {a b r : B4g} {x : X5} {c : Int} (ha : km k R C f a) (hx : qs s (rv x)) (hb : km k' R C g b) (h : G4d a x b r c) : km (k + (s + k') + 1) R C (fun i j => f i j + rv x * g i j) r /\ c = 0 := by
  have h := (h.2 ⟨G1p ha, G1p hb⟩).2 ⟨by rw [show a.1 = (R : Int) from ha.1.1, show b.1 = (R : Int) from hb.1.1], by rw [show a.2.1 = (C : Int) from ha.1.2.1, show b.2.1 = (C : Int) from hb.1.2.1]⟩
  rw [show a.1 = (R : Int) from ha.1.1, show a.2.1 = (C : Int) from ha.1.2.1] at h
  refine ⟨⟨A4j h.1 fun i j hi hj => ?_, by omega, ha.2.2.1, ha.2.2.2.1, fun i j hi hj => E4p (ha.2.2.2.2 i j hi hj) (C5e hx (hb.2.2.2.2 i j hi hj))⟩, h.2⟩
  rw [A5k ha.1 hi hj, A5k hb.1 hi hj]
theorem E2e {k k' R C : Nat} {f g : Nat -> Nat -> Rat} {a b : B4g} (ha : km k R C f a) (hb : km k' R C g b) (h : ∀ i j, f i j = g i j) : a = b /\ ∀ v ∈ a.2.2, ∀ e ∈ v, e.2 = rc (rv e.2) := ⟨D5t ha.1 hb.1 fun i j _ _ => h i j, B9d ha.1⟩
theorem A6a (x : A7 B8.args) (hw : awf B8.args x) (hp : B8.pre x) : U3 x := by
  obtain ⟨l, F, _⟩ := x
  change List Int at l
  have hF : sz 1048576 F := hp
  have hFq : qs 1048576 (rv F) := E0z (E4l hw.2.1) hF (by decide)
  have hF1 : sz K1 F := F1d hF (by decide)
  simp only [U3]
  refine ⟨trivial, ?_⟩
  rintro ⟨⟨l0, t0⟩, _⟩ _ h0
  change Int at t0
  change List Int at l0
  simp only at h0 ⊢
  have ht0 : 0 <= t0 /\ t0 <= (l0.length : Int) := by cases h0; exact ⟨Int.le_refl _, by omega⟩
  refine ⟨⟨by omega, ht0⟩, ?_⟩
  rintro ⟨n, _⟩ ⟨⟨l1, t1⟩, _⟩ _ _ hn ⟨e1, h1⟩
  change Int at n t1
  change List Int at l1
  simp only at hn e1 h1 ⊢
  subst e1
  refine ⟨⟨by omega, h1⟩, ?_⟩
  rintro ⟨k, _⟩ ⟨⟨l2, t2⟩, _⟩ _ _ hk ⟨e2, h2⟩
  change Int at k t2
  change List Int at l2
  simp only at hk e2 h2 ⊢
  subst e2
  refine ⟨⟨by omega, h2⟩, ?_⟩
  rintro ⟨q, _⟩ ⟨⟨l3, t3⟩, _⟩ _ _ hq ⟨e3, h3⟩
  change Int at q t3
  change List Int at l3
  simp only at hq e3 h3 ⊢
  subst e3
  refine ⟨⟨by omega, h3⟩, ?_⟩
  rintro ⟨m, _⟩ ⟨⟨l4, t4⟩, _⟩ _ _ hm ⟨e4, h4⟩
  change Int at m t4
  change List Int at l4
  simp only at hm e4 h4 ⊢
  subst e4
  refine ⟨⟨by omega, by omega, by omega, by omega, h4⟩, ?_⟩
  rintro ⟨a, _⟩ ⟨⟨l5, t5⟩, _⟩ _ _ ga ⟨e5, h5⟩
  change Int at t5
  change List Int at l5
  simp only at ga e5 h5 ⊢
  subst e5
  obtain ⟨fa, ga⟩ := E6d ga (by omega) (by omega)
  refine ⟨⟨by omega, by omega, by omega, by omega, h5⟩, ?_⟩
  rintro ⟨b, _⟩ ⟨⟨l6, t6⟩, _⟩ _ _ gb ⟨e6, h6⟩
  change Int at t6
  change List Int at l6
  simp only at gb e6 h6 ⊢
  subst e6
  obtain ⟨fb, gb⟩ := E6d gb (by omega) (by omega)
  refine ⟨⟨by omega, by omega, by omega, by omega, h6⟩, ?_⟩
  rintro ⟨c, _⟩ ⟨⟨l7, t7⟩, _⟩ _ _ gc ⟨e7, h7⟩
  change Int at t7
  change List Int at l7
  simp only at gc e7 h7 ⊢
  subst e7
  obtain ⟨fc, gc⟩ := E6d gc (by omega) (by omega)
  refine ⟨⟨by omega, by omega, by omega, by omega, h7⟩, ?_⟩
  rintro ⟨d, _⟩ ⟨⟨l8, t8⟩, _⟩ _ _ gd ⟨e8, h8⟩
  change Int at t8
  change List Int at l8
  simp only at gd e8 h8 ⊢
  subst e8
  obtain ⟨fd, gd⟩ := E6d gd (by omega) (by omega)
  have kn : k.toNat <= 3 := by omega
  have qn : q.toNat <= 3 := by omega
  generalize n.toNat = N at *
  generalize k.toNat = K at *
  generalize q.toNat = Q at *
  generalize m.toNat = M at *
  have K1K : K0 <= K1 := by decide
  have l1 : 1 <= K0 := by decide
  have l2 : 1048579 <= K0 := by decide
  have l3 : 3145744 <= K1 := by decide
  refine ⟨⟨A3r ga (by omega), A3r gb (by omega), F8r ga⟩, ?_⟩
  rintro ⟨ab, zab, _⟩ _ sab
  simp only at sab ⊢
  obtain ⟨gab, yab⟩ := C9n ga gb sab
  have gab := B1q gab (show _ <= 10 by omega)
  refine ⟨⟨A3r gb (by omega), A3r gc (by omega), F8r gb⟩, ?_⟩
  rintro ⟨bc, zbc, _⟩ _ sbc
  simp only at sbc ⊢
  obtain ⟨gbc, ybc⟩ := C9n gb gc sbc
  have gbc := B1q gbc (show _ <= 10 by omega)
  refine ⟨⟨A3r gab (by omega), A3r gc (by omega), F8r gab⟩, ?_⟩
  rintro ⟨x, zx, _⟩ _ sx
  simp only at sx ⊢
  obtain ⟨gx, yx⟩ := C9n gab gc sx
  have gx := B1q gx (show _ <= 37 by omega)
  refine ⟨⟨A3r ga (by omega), A3r gbc (by omega), F8r ga⟩, ?_⟩
  rintro ⟨y, zy, _⟩ _ sy
  simp only at sy ⊢
  obtain ⟨gy, yy⟩ := C9n ga gbc sy
  have gy := B1q gy (show _ <= 37 by omega)
  refine ⟨A3r ga (by omega), ?_⟩
  rintro ⟨A, zA, _⟩ _ sA
  simp only at sA ⊢
  obtain ⟨gA, yA⟩ := F8w ga sA
  refine ⟨A3r gb (by omega), ?_⟩
  rintro ⟨bt, zbt, _⟩ _ sbt
  simp only at sbt ⊢
  obtain ⟨gbt, ybt⟩ := F8w gb sbt
  refine ⟨A3r gab (by omega), ?_⟩
  rintro ⟨u, zu, _⟩ _ su
  simp only at su ⊢
  obtain ⟨gu, yu⟩ := F8w gab su
  refine ⟨⟨A3r gbt (by omega), A3r gA (by omega), F8r gbt⟩, ?_⟩
  rintro ⟨v, zv, _⟩ _ sv
  simp only at sv ⊢
  obtain ⟨gv, yv⟩ := C9n gbt gA sv
  have gv := B1q gv (show _ <= 10 by omega)
  refine ⟨⟨A3r gb (by omega), hF1, A3r gd (by omega)⟩, ?_⟩
  rintro ⟨sm, zsm, _⟩ _ ssm
  simp only at ssm ⊢
  obtain ⟨gsm, ysm⟩ := F6p gb hFq gd ssm
  have gsm := B1q gsm (show _ <= 1048579 by omega)
  refine ⟨⟨A3r ga (by omega), A3r gsm (by omega), F8r ga⟩, ?_⟩
  rintro ⟨p, zp, _⟩ _ sp
  simp only at sp ⊢
  obtain ⟨gp, yp⟩ := C9n ga gsm sp
  have gp := B1q gp (show _ <= 3145744 by omega)
  refine ⟨⟨A3r ga (by omega), A3r gd (by omega), F8r ga⟩, ?_⟩
  rintro ⟨ad, zad, _⟩ _ sad
  simp only at sad ⊢
  obtain ⟨gad, yad⟩ := C9n ga gd sad
  have gad := B1q gad (show _ <= 10 by omega)
  refine ⟨⟨A3r gab (by omega), hF1, A3r gad (by omega)⟩, ?_⟩
  rintro ⟨w, zw, _⟩ _ sw
  simp only at sw ⊢
  obtain ⟨gw, yw⟩ := F6p gab hFq gad sw
  refine ⟨trivial, ?_⟩
  rintro ⟨b0, _⟩ _ hb0
  simp only at hb0 ⊢
  subst hb0
  rw [yx, yy]
  refine ⟨fun _ => A3r gx (by omega), ?_⟩
  rintro ⟨b1, _⟩ h1
  simp only at h1 ⊢
  have h1 : b1 = true := (h1 rfl).2.2 (E2e gx gy fun i j => by
    rw [W9 fun t _ => (F0v _ _ _).symm, F1o]
    refine W9 fun s _ => ?_
    rw [<- E5x]
    refine W9 fun t _ => ?_
    rw [Rat.mul_assoc])
  subst h1
  refine ⟨fun _ => A3r gu (by omega), ?_⟩
  rintro ⟨b2, _⟩ h2
  simp only at h2 ⊢
  have h2 : b2 = true := (h2 rfl).2.2 (E2e gu gv fun i j => W9 fun t _ => Rat.mul_comm _ _)
  subst h2
  refine ⟨fun _ => A3r gp (by omega), ?_⟩
  rintro ⟨b3, _⟩ h3
  simp only at h3 ⊢
  have h3 : b3 = true := (h3 rfl).2.2 (E2e gp gw fun i j => by
    rw [<- E5x, <- D7e]
    refine W9 fun t _ => ?_
    grind)
  subst h3
  rfl
theorem B3m : C0 Tryz.prog 107 E4 := A4 (sp := A3o) Tryz.func107 (by kernel_rfl) (by kernel_rfl) (by kernel_rfl) A8 (A3) A8a A9d
theorem E2y : C0 Tryz.prog 18 Z8 := A4 (sp := C7t) Tryz.func18 (by kernel_rfl) (by kernel_rfl) (by kernel_rfl) A8 (A3) D1m D2z
theorem E2o : C0 Tryz.prog 49 A0e := A4 (sp := C8b) Tryz.func49 (by kernel_rfl) (by kernel_rfl) (by kernel_rfl) A8 (A3) D2h D2f
theorem A2d : C0 Tryz.prog 28 F7 := A4 (sp := A6v) Tryz.func28 (by kernel_rfl) (by kernel_rfl) (by kernel_rfl) A8 (A0 E2o (A3)) B4f B4b
theorem B6r : C0 Tryz.prog 75 T8 := A4 (sp := C9w) Tryz.func75 (by kernel_rfl) (by kernel_rfl) (by kernel_rfl) A8 (A3) D2n D2o
theorem B2i : C0 Tryz.prog 77 Q4 := A4 (sp := C5b) Tryz.func77 (by kernel_rfl) (by kernel_rfl) (by kernel_rfl) A8 (A3) D0h C9r
theorem Q5 : C0 Tryz.prog 191 I7 := A4 (sp := D0k) Tryz.func191 (by kernel_rfl) (by kernel_rfl) (by kernel_rfl) A8 (A3) D1p D2t
theorem V9 : C0 Tryz.prog 149 K6 := A4 (sp := C8v) Tryz.func149 (by kernel_rfl) (by kernel_rfl) (by kernel_rfl) A8 (A0 Q5 (A3)) D2u D1o
theorem C9u : C0 Tryz.prog 145 W8 := A4 (sp := D0s) Tryz.func145 (by kernel_rfl) (by kernel_rfl) (by kernel_rfl) A8 (A0 V9 (A3)) D1x D1v
theorem C9h : C0 Tryz.prog 88 W4 := A4 (sp := D0v) Tryz.func88 (by kernel_rfl) (by kernel_rfl) (by kernel_rfl) A8 (A0 C9u (A3)) D2y D2b
theorem D4i : C0 Tryz.prog 157 A1c := A4 (sp := D3i) Tryz.func157 (by kernel_rfl) (by kernel_rfl) (by kernel_rfl) A8 (A0 Q5 (A3)) D6d D7a
theorem D1r : C0 Tryz.prog 194 P0 := A4 (sp := B5b) Tryz.func194 (by kernel_rfl) (by kernel_rfl) (by kernel_rfl) A8 (A0 Q5 (A3)) C4j C2c
theorem D3m : C0 Tryz.prog 158 A0v := A4 (sp := D4l) Tryz.func158 (by kernel_rfl) (by kernel_rfl) (by kernel_rfl) A8 (A0 Q5 (A0 D1r (A3))) D6e D8j
theorem A7v : C0 Tryz.prog 176 H7 := A4 (sp := A6z) Tryz.func176 (by kernel_rfl) (by kernel_rfl) (by kernel_rfl) A8 (A0 Q5 (A3)) B3i B3n
theorem D6b : C0 Tryz.prog 224 S8 := A4 (sp := B7v) Tryz.func224 (by kernel_rfl) (by kernel_rfl) (by kernel_rfl) A8 (A0 Q5 (A3)) C5x C6h
theorem E2n : C0 Tryz.prog 225 A0a := A4 (sp := D0f) Tryz.func225 (by kernel_rfl) (by kernel_rfl) (by kernel_rfl) A8 (A0 Q5 (A3)) D2r D1i
theorem E7j : C0 Tryz.prog 226 A2p := A4 (sp := D4a) Tryz.func226 (by kernel_rfl) (by kernel_rfl) (by kernel_rfl) A8 (A3) D5y D8l
theorem C0f : C0 Tryz.prog 188 O9 := A4 (sp := B9l) Tryz.func188 (by kernel_rfl) (by kernel_rfl) (by kernel_rfl) A8 (A0 D4i (A0 D3m (A0 A7v (A0 Q5 (A0 D6b (A0 E2n (A0 E7j (A3)))))))) C5y C6o
theorem E8w : C0 Tryz.prog 187 A2k := A4 (sp := D4x) Tryz.func187 (by kernel_rfl) (by kernel_rfl) (by kernel_rfl) A8 (A0 C0f (A0 Q5 (A3))) D7b D7m
theorem E8b : C0 Tryz.prog 146 A2m := A4 (sp := D4d) Tryz.func146 (by kernel_rfl) (by kernel_rfl) (by kernel_rfl) A8 (A0 V9 (A0 E8w (A3))) D7k D6z
theorem C1y : C0 Tryz.prog 93 X8 := A4 (sp := D4e) Tryz.func93 (by kernel_rfl) (by kernel_rfl) (by kernel_rfl) A8 (A0 V9 (A0 D4i (A0 D3m (A3)))) D6x D7t
theorem A6p : C0 Tryz.prog 132 L3 := A4 (sp := B4v) Tryz.func132 (by kernel_rfl) (by kernel_rfl) (by kernel_rfl) A8 (A0 V9 (A0 A7v (A3))) C4k C2r
theorem E8q : C0 Tryz.prog 189 A2u := A4 (sp := D4t) Tryz.func189 (by kernel_rfl) (by kernel_rfl) (by kernel_rfl) A8 (A0 V9 (A3)) D5k D7v
theorem D3w : C0 Tryz.prog 148 A1f := A4 (sp := D3k) Tryz.func148 (by kernel_rfl) (by kernel_rfl) (by kernel_rfl) A8 (A0 V9 (A3)) D7c D6l
theorem E7e : C0 Tryz.prog 190 A2l := A4 (sp := D4m) Tryz.func190 (by kernel_rfl) (by kernel_rfl) (by kernel_rfl) A8 (A0 C1y (A0 D3w (A3))) D6q D7p
theorem D6m : C0 Tryz.prog 147 S9 := A4 (sp := B8x) Tryz.func147 (by kernel_rfl) (by kernel_rfl) (by kernel_rfl) A8 (A0 C1y (A0 A6p (A0 V9 (A0 C0f (A0 E8q (A0 E7e (A3))))))) C5v C6b
theorem A8i : C0 Tryz.prog 81 Q9 := A4 (sp := D1b) Tryz.func81 (by kernel_rfl) (by kernel_rfl) (by kernel_rfl) A8 (A0 B6r (A0 B2i (A0 C9h (A0 C9u (A0 E8b (A0 D6m (A0 D3w (A3)))))))) D3a D3f
theorem A8x : C0 Tryz.prog 83 R4 := A4 (sp := C8k) Tryz.func83 (by kernel_rfl) (by kernel_rfl) (by kernel_rfl) A8 (A0 A8i (A3)) D2c D2d
theorem E4f : C0 Tryz.prog 29 A0d := A4 (sp := D0i) Tryz.func29 (by kernel_rfl) (by kernel_rfl) (by kernel_rfl) A8 (A0 A8x (A0 C9h (A3))) D2p D2a
theorem E7c : C0 Tryz.prog 150 A2n := A4 (sp := D4w) Tryz.func150 (by kernel_rfl) (by kernel_rfl) (by kernel_rfl) A8 (A0 Q5 (A3)) D8n D8a
theorem E6z : C0 Tryz.prog 82 A2z := A4 (sp := D3r) Tryz.func82 (by kernel_rfl) (by kernel_rfl) (by kernel_rfl) A8 (A0 V9 (A0 E7c (A3))) D7o D6n
theorem E7h : C0 Tryz.prog 84 A2o := A4 (sp := D4c) Tryz.func84 (by kernel_rfl) (by kernel_rfl) (by kernel_rfl) A8 (A0 A8x (A3)) D7j D7g
theorem E8m : C0 Tryz.prog 32 A3a := A4 (sp := D3n) Tryz.func32 (by kernel_rfl) (by kernel_rfl) (by kernel_rfl) A8 (A0 A8i (A0 E6z (A0 A8x (A0 E7h (A0 C1y (A3)))))) D6r D6y
theorem E8f : C0 Tryz.prog 120 A2x := A4 (sp := D3s) Tryz.func120 (by kernel_rfl) (by kernel_rfl) (by kernel_rfl) A8 (A0 E8m (A0 B6r (A3))) D6k D6u
theorem D3c : C0 Tryz.prog 199 P9 := A4 (sp := B5e) Tryz.func199 (by kernel_rfl) (by kernel_rfl) (by kernel_rfl) A8 (A3) C1v C2n
theorem E3m : C0 Tryz.prog 164 A0c := A4 (sp := C8s) Tryz.func164 (by kernel_rfl) (by kernel_rfl) (by kernel_rfl) A8 (A0 E4f (A0 E8f (A0 D3c (A3)))) D1h D2g
theorem C6c : C0 Tryz.prog 105 L9 := A4 (sp := A9p) Tryz.func105 (by kernel_rfl) (by kernel_rfl) (by kernel_rfl) A8 (A0 E3m (A3)) B6g B6y
theorem C7y : C0 Tryz.prog 78 W3 := A4 (sp := D0n) Tryz.func78 (by kernel_rfl) (by kernel_rfl) (by kernel_rfl) A8 (A0 C6c (A3)) D3d D1j
theorem F0x : C0 Tryz.prog 144 A5j := A4 (sp := D9s) Tryz.func144 (by kernel_rfl) (by kernel_rfl) (by kernel_rfl) A8 (A0 A8i (A0 A6p (A3))) D9h E0y
theorem C7d : C0 Tryz.prog 79 L4 := A4 (sp := A9g) Tryz.func79 (by kernel_rfl) (by kernel_rfl) (by kernel_rfl) A8 (A0 A2d (A0 F0x (A3))) B6n B6q
theorem B6d : C0 Tryz.prog 20 H1 := A4 (sp := A4i) Tryz.func20 (by kernel_rfl) (by kernel_rfl) (by kernel_rfl) A8 (A0 A2d (A0 B6r (A0 C7y (A0 C7d (A3))))) A9w A9v
theorem A7u : C0 Tryz.prog 109 H5 := A4 (sp := A7h) Tryz.func109 (by kernel_rfl) (by kernel_rfl) (by kernel_rfl) A8 (A3) B4d B3u
theorem G1 : C0 Tryz.prog 186 C7 := A4 (sp := B4n) Tryz.func186 (by kernel_rfl) (by kernel_rfl) (by kernel_rfl) A8 (A3) C4i C1m
theorem M8 : C0 Tryz.prog 172 C8 := A4 (sp := A5v) Tryz.func172 (by kernel_rfl) (by kernel_rfl) (by kernel_rfl) A8 (A0 G1 (A3)) B1w B2d
theorem W5 : C0 Tryz.prog 139 E5 := A4 (sp := A6s) Tryz.func139 (by kernel_rfl) (by kernel_rfl) (by kernel_rfl) A8 (A0 M8 (A3)) B3p B3y
theorem C7x : C0 Tryz.prog 198 O1 := A4 (sp := B2l) Tryz.func198 (by kernel_rfl) (by kernel_rfl) (by kernel_rfl) A8 (A0 M8 (A3)) B9e C1d
theorem O6 : C0 Tryz.prog 160 E2 := A4 (sp := A9r) Tryz.func160 (by kernel_rfl) (by kernel_rfl) (by kernel_rfl) A8 (A0 W5 (A0 C7x (A3))) B5p B6o
theorem A4y : C0 Tryz.prog 192 F3 := A4 (sp := A4h) Tryz.func192 (by kernel_rfl) (by kernel_rfl) (by kernel_rfl) A8 (A3) A9z B0h
theorem D0r : C0 Tryz.prog 151 N5 := A4 (sp := B1j) Tryz.func151 (by kernel_rfl) (by kernel_rfl) (by kernel_rfl) A8 (A0 O6 (A0 A4y (A3))) B9x B8i
theorem V6 : C0 Tryz.prog 85 F9 := A4 (sp := B1o) Tryz.func85 (by kernel_rfl) (by kernel_rfl) (by kernel_rfl) A8 (A0 A7u (A0 D0r (A3))) B8c B9s
theorem A3v : C0 Tryz.prog 165 C6 := A4 (sp := U4) Tryz.func165 (by kernel_rfl) (by kernel_rfl) (by kernel_rfl) A8 (A3) A1v A1n
theorem A1m : C0 Tryz.prog 108 C3 := A4 (sp := R5) Tryz.func108 (by kernel_rfl) (by kernel_rfl) (by kernel_rfl) A8 (A0 A3v (A3)) A0f A0g
theorem A4w : C0 Tryz.prog 219 J2 := A4 (sp := B1y) Tryz.func219 (by kernel_rfl) (by kernel_rfl) (by kernel_rfl) A8 (A3) C0q B8f
theorem C2q : C0 Tryz.prog 181 J8 := A4 (sp := A7k) Tryz.func181 (by kernel_rfl) (by kernel_rfl) (by kernel_rfl) A8 (A0 G1 (A0 A4w (A3))) B3o B3g
theorem A2a : C0 Tryz.prog 137 F8 := A4 (sp := A7y) Tryz.func137 (by kernel_rfl) (by kernel_rfl) (by kernel_rfl) A8 (A0 C2q (A3)) B3l B3z
theorem I5 : C0 Tryz.prog 180 C4 := A4 (sp := A2t) Tryz.func180 (by kernel_rfl) (by kernel_rfl) (by kernel_rfl) A8 (A0 G1 (A3)) A7s A6x
theorem X2 : C0 Tryz.prog 138 D6 := A4 (sp := A3m) Tryz.func138 (by kernel_rfl) (by kernel_rfl) (by kernel_rfl) A8 (A0 I5 (A3)) A8f A8b
theorem R6 : C0 Tryz.prog 179 D9 := A4 (sp := A6t) Tryz.func179 (by kernel_rfl) (by kernel_rfl) (by kernel_rfl) A8 (A3) B3r B3w
theorem V7 : C0 Tryz.prog 183 F6 := A4 (sp := B2q) Tryz.func183 (by kernel_rfl) (by kernel_rfl) (by kernel_rfl) A8 (A0 G1 (A3)) C0y B9n
theorem C9l : C0 Tryz.prog 182 O2 := A4 (sp := B0v) Tryz.func182 (by kernel_rfl) (by kernel_rfl) (by kernel_rfl) A8 (A0 R6 (A0 V7 (A3))) B7t B9b
theorem A8l : C0 Tryz.prog 222 D7 := A4 (sp := A0t) Tryz.func222 (by kernel_rfl) (by kernel_rfl) (by kernel_rfl) A8 (A0 I5 (A0 G1 (A3))) A5d A5h
theorem D6c : C0 Tryz.prog 208 S6 := A4 (sp := B8p) Tryz.func208 (by kernel_rfl) (by kernel_rfl) (by kernel_rfl) A8 (A3) C6z C7g
theorem A1j : C0 Tryz.prog 238 D5 := A4 (sp := A1i) Tryz.func238 (by kernel_rfl) (by kernel_rfl) (by kernel_rfl) A8 (A0 D6c (A3)) A6d A6b
theorem B9c : C0 Tryz.prog 240 I6 := A4 (sp := A5o) Tryz.func240 (by kernel_rfl) (by kernel_rfl) (by kernel_rfl) A8 (A3) B1l B1x
theorem B1f : C0 Tryz.prog 242 E9 := A4 (sp := A2v) Tryz.func242 (by kernel_rfl) (by kernel_rfl) (by kernel_rfl) A8 (A0 G1 (A3)) A7t A7a
theorem B1c : C0 Tryz.prog 223 F0 := A4 (sp := A2s) Tryz.func223 (by kernel_rfl) (by kernel_rfl) (by kernel_rfl) A8 (A0 G1 (A0 A1j (A0 B9c (A0 B1f (A3q (D4j (cx := ⟨Tryz.prog, tys⟩) (fn := Tryz.f241) (c := Tryz.f241.body.getD .skip) Tryz.func241 (by kernel_rfl) (by kernel_rfl) A8 (A3w (A3) (A6u))) (A3)))))) A7x A7l
theorem A6r : C0 Tryz.prog 185 H6 := A4 (sp := A7i) Tryz.func185 (by kernel_rfl) (by kernel_rfl) (by kernel_rfl) A8 (A0 M8 (A0 I5 (A0 V7 (A0 G1 (A0 A4w (A0 A8l (A0 B1c (A3)))))))) B4h B3s
theorem B6f : C0 Tryz.prog 255 G6 := A4 (sp := A4b) Tryz.func255 (by kernel_rfl) (by kernel_rfl) (by kernel_rfl) A8 (A3) B0b A9y
theorem C2s : C0 Tryz.prog 239 J9 := A4 (sp := A7j) Tryz.func239 (by kernel_rfl) (by kernel_rfl) (by kernel_rfl) A8 (A0 B6f (A3)) B3t B4i
theorem C0j : C0 Tryz.prog 220 I9 := A4 (sp := A5r) Tryz.func220 (by kernel_rfl) (by kernel_rfl) (by kernel_rfl) A8 (A0 A1j (A0 C2s (A3))) B1g B1h
theorem A2h : C0 Tryz.prog 142 J3 := A4 (sp := B4r) Tryz.func142 (by kernel_rfl) (by kernel_rfl) (by kernel_rfl) A8 (A0 G1 (A3)) C2w C2m
theorem B4t : C0 Tryz.prog 212 N3 := A4 (sp := B4y) Tryz.func212 (by kernel_rfl) (by kernel_rfl) (by kernel_rfl) A8 (A0 M8 (A0 G1 (A3))) C1z C2t
theorem B8d : C0 Tryz.prog 221 H9 := A4 (sp := A5t) Tryz.func221 (by kernel_rfl) (by kernel_rfl) (by kernel_rfl) A8 (A0 A2h (A0 I5 (A0 B4t (A3)))) B1m B2p
theorem D3g : C0 Tryz.prog 184 O8 := A4 (sp := B5a) Tryz.func184 (by kernel_rfl) (by kernel_rfl) (by kernel_rfl) A8 (A0 M8 (A0 I5 (A0 V7 (A0 A6r (A0 G1 (A0 A4w (A0 C0j (A0 B8d (A3))))))))) C2e C4q
theorem A0i : C0 Tryz.prog 140 E7 := A4 (sp := A5w) Tryz.func140 (by kernel_rfl) (by kernel_rfl) (by kernel_rfl) A8 (A0 C9l (A0 V7 (A0 D3g (A0 A6r (A3))))) B2g B1a
theorem O5 : C0 Tryz.prog 111 E1 := A4 (sp := A9j) Tryz.func111 (by kernel_rfl) (by kernel_rfl) (by kernel_rfl) A8 (A0 A2a (A0 X2 (A0 W5 (A0 A0i (A3))))) B5y B5k
theorem C7a : C0 Tryz.prog 45 L8 := A4 (sp := A9k) Tryz.func45 (by kernel_rfl) (by kernel_rfl) (by kernel_rfl) D7d (A0 V6 (A3q (G1i B3m) (A0 A1m (A0 A7u (A0 O5 (A3q F7u (A3q (D4j (cx := ⟨Tryz.prog, F8e⟩) (fn := Tryz.f110) (c := Tryz.f110.body.getD .skip) Tryz.func110 (by kernel_rfl) (by kernel_rfl) D7d (A3w (A3) (A6u))) (A3)))))))) B6s B5h
theorem B5d : C0 Tryz.prog 141 N4 := A4 (sp := B4l) Tryz.func141 (by kernel_rfl) (by kernel_rfl) (by kernel_rfl) A8 (A0 A2h (A0 R6 (A3))) C2i C1i
theorem A4r : C0 Tryz.prog 71 J1 := A4 (sp := B2c) Tryz.func71 (by kernel_rfl) (by kernel_rfl) (by kernel_rfl) A8 (A0 A2a (A0 X2 (A0 W5 (A0 A0i (A0 B5d (A0 A2h (A3))))))) C0h B8o
theorem D1l : C0 Tryz.prog 143 P7 := A4 (sp := B4x) Tryz.func143 (by kernel_rfl) (by kernel_rfl) (by kernel_rfl) A8 (A0 R6 (A0 V7 (A3))) C3f C1u
theorem C8y : C0 Tryz.prog 73 O0 := A4 (sp := B0t) Tryz.func73 (by kernel_rfl) (by kernel_rfl) (by kernel_rfl) A8 (A0 O5 (A0 D1l (A3))) B9u B7q
theorem D1c : C0 Tryz.prog 117 N6 := A4 (sp := B2t) Tryz.func117 (by kernel_rfl) (by kernel_rfl) (by kernel_rfl) A8 (A0 O5 (A0 O6 (A3))) B7z B8u
theorem C0t : C0 Tryz.prog 136 I0 := A4 (sp := A5p) Tryz.func136 (by kernel_rfl) (by kernel_rfl) (by kernel_rfl) A8 (A0 R6 (A0 I5 (A3))) B1d B0w
theorem B6u : C0 Tryz.prog 70 G5 := A4 (sp := A4m) Tryz.func70 (by kernel_rfl) (by kernel_rfl) (by kernel_rfl) A8 (A0 C0t (A3)) B0d B0j
theorem D3e : C0 Tryz.prog 211 P6 := A4 (sp := B4w) Tryz.func211 (by kernel_rfl) (by kernel_rfl) (by kernel_rfl) A8 (A0 G1 (A3)) C2p C2o
theorem D1y : C0 Tryz.prog 173 P8 := A4 (sp := B4u) Tryz.func173 (by kernel_rfl) (by kernel_rfl) (by kernel_rfl) A8 (A0 R6 (A0 D3e (A0 B4t (A3)))) C3w C4d
theorem A0r : C0 Tryz.prog 122 H4 := A4 (sp := B0o) Tryz.func122 (by kernel_rfl) (by kernel_rfl) (by kernel_rfl) A8 (A0 O5 (A0 A2a (A0 X2 (A0 W5 (A0 A0i (A0 B5d (A0 A2h (A0 O6 (A0 M8 (A0 D1y (A3))))))))))) B9t C0n
theorem D7r : C0 Tryz.prog 118 S0 := A4 (sp := C1e) Tryz.func118 (by kernel_rfl) (by kernel_rfl) (by kernel_rfl) A8 (A0 B6u (A0 A0r (A3))) C5z C6k
theorem C9b : C0 Tryz.prog 169 N9 := A4 (sp := B0n) Tryz.func169 (by kernel_rfl) (by kernel_rfl) (by kernel_rfl) A8 (A0 O6 (A3)) B7s B7u
theorem C6j : C0 Tryz.prog 168 L6 := A4 (sp := A9n) Tryz.func168 (by kernel_rfl) (by kernel_rfl) (by kernel_rfl) A8 (A3) B5w B5u
theorem C0m : C0 Tryz.prog 114 I8 := A4 (sp := A5u) Tryz.func114 (by kernel_rfl) (by kernel_rfl) (by kernel_rfl) A8 (A0 C6j (A3)) B2a B1e
theorem C4e : C0 Tryz.prog 156 J6 := A4 (sp := A7r) Tryz.func156 (by kernel_rfl) (by kernel_rfl) (by kernel_rfl) A8 (A0 C0m (A3)) B3h B3j
theorem X6 : C0 Tryz.prog 210 N7 := E2w fun _ h => h
theorem C2y : C0 Tryz.prog 170 J7 := A4 (sp := A7w) Tryz.func170 (by kernel_rfl) (by kernel_rfl) (by kernel_rfl) A8 (A0 A0r (A0 C4e (A0 A4y (A0 X6 (A3))))) B3q B3x
theorem B0z : C0 Tryz.prog 171 F1 := A4 (sp := A2q) Tryz.func171 (by kernel_rfl) (by kernel_rfl) (by kernel_rfl) A8 (A0 A4r (A0 O5 (A0 A0r (A0 O6 (A3))))) A7c A7f
theorem A4x : C0 Tryz.prog 119 F4 := A4 (sp := A5b) Tryz.func119 (by kernel_rfl) (by kernel_rfl) (by kernel_rfl) A8 (A0 C9b (A0 C2y (A0 B0z (A3)))) B0e B0c
theorem C9t : C0 Tryz.prog 50 N8 := A4 (sp := B1s) Tryz.func50 (by kernel_rfl) (by kernel_rfl) (by kernel_rfl) A8 (A0 A4r (A0 C8y (A0 V6 (A0 D1c (A0 D7r (A0 A4x (A3))))))) B8t B9i
theorem B0p : C0 Tryz.prog 125 E8 := A4 (sp := A2r) Tryz.func125 (by kernel_rfl) (by kernel_rfl) (by kernel_rfl) A8 (A0 A4r (A0 A0r (A0 O6 (A3q F7m (A3q (D4j (cx := ⟨Tryz.prog, tys⟩) (fn := Tryz.f175) (c := Tryz.f175.body.getD .skip) Tryz.func175 (by kernel_rfl) (by kernel_rfl) A8 (A3w (A3) (A6u))) (A3)))))) A6y A7p
theorem C0b : C0 Tryz.prog 55 P4 := A4 (sp := B8h) Tryz.func55 (by kernel_rfl) (by kernel_rfl) (by kernel_rfl) A8 (A0 V6 (A0 B0p (A3q (D4j (cx := ⟨Tryz.prog, tys⟩) (fn := Tryz.f110) (c := Tryz.f110.body.getD .skip) Tryz.func110 (by kernel_rfl) (by kernel_rfl) A8 (A3w (A3) (A6u))) (A3)))) C6n C6y
theorem D8s : C0 Tryz.prog 76 V4 := A4 (sp := C5h) Tryz.func76 (by kernel_rfl) (by kernel_rfl) (by kernel_rfl) A8 (A0 B2i (A3)) C9m C9k
theorem C4y : C0 Tryz.prog 17 T5 := A4 (sp := C5d) Tryz.func17 (by kernel_rfl) (by kernel_rfl) (by kernel_rfl) A8 (A0 D8s (A0 B2i (A3))) C8h D0c
theorem C5t : C0 Tryz.prog 102 L5 := A4 (sp := A9h) Tryz.func102 (by kernel_rfl) (by kernel_rfl) (by kernel_rfl) A8 (A0 C4y (A0 A8x (A3))) B6k B5n
theorem C7c : C0 Tryz.prog 126 M0 := A4 (sp := A9q) Tryz.func126 (by kernel_rfl) (by kernel_rfl) (by kernel_rfl) A8 (A0 C4y (A0 C5t (A3))) B6e B6t
theorem A9l : C0 Tryz.prog 58 J5 := A4 (sp := A9o) Tryz.func58 (by kernel_rfl) (by kernel_rfl) (by kernel_rfl) A8 (A0 C7c (A3)) B7k B5i
theorem D2e : C0 Tryz.prog 68 Q0 := A4 (sp := B4z) Tryz.func68 (by kernel_rfl) (by kernel_rfl) (by kernel_rfl) A8 (A0 A8i (A0 A6p (A3))) C3x C2b
theorem D6g : C0 Tryz.prog 116 T3 := A4 (sp := C0d) Tryz.func116 (by kernel_rfl) (by kernel_rfl) (by kernel_rfl) A8 (A0 D2e (A0 C7y (A3))) C5o C5n
theorem D1u : C0 Tryz.prog 47 P5 := A4 (sp := B4m) Tryz.func47 (by kernel_rfl) (by kernel_rfl) (by kernel_rfl) A8 (A0 C7a (A0 C9t (A0 C0b (A0 A9l (A0 D6g (A3)))))) C4m C3o
theorem B6i : C0 Tryz.prog 56 G9 := A4 (sp := A5a) Tryz.func56 (by kernel_rfl) (by kernel_rfl) (by kernel_rfl) D7d (A0 V6 (A0 O5 (A3q (D4j (cx := ⟨Tryz.prog, F8e⟩) (fn := Tryz.f110) (c := Tryz.f110.body.getD .skip) Tryz.func110 (by kernel_rfl) (by kernel_rfl) D7d (A3w (A3) (A6u))) (A3)))) B0g A9u
theorem D5l : C0 Tryz.prog 57 S7 := A4 (sp := B8v) Tryz.func57 (by kernel_rfl) (by kernel_rfl) (by kernel_rfl) A8 (A0 V6 (A0 A4x (A3q (D4j (cx := ⟨Tryz.prog, tys⟩) (fn := Tryz.f110) (c := Tryz.f110.body.getD .skip) Tryz.func110 (by kernel_rfl) (by kernel_rfl) A8 (A3w (A3) (A6u))) (A3)))) C6a C6i
theorem B0f : C0 Tryz.prog 10 B8 := A4 (sp := A1k) Tryz.func10 (by kernel_rfl) (by kernel_rfl) (by kernel_rfl) A8 (A0 E2y (A0 B6d (A0 A2d (A0 D1u (A0 C0b (A0 B6i (A0 D5l (A0 A9l (A3))))))))) A6k A6a
theorem F1r {t : Ty} (ht : ∀ x, 1 <= bul t x) (l : List t.den) : l.length + 1 <= bul (.sl t) l := by
  simp only [bul]
  induction l with
  | nil => simp
  | cons y r ih => simp only [List.map_cons, List.sum_cons, List.length_cons]; have := ht y; omega
theorem G0o {k : Nat} {x : X5} (h : bul tQ x <= k) : sz k x := by
  have h1 := F1r (t := .int .u32) (fun _ => Nat.le_refl _) x.1.2
  have h2 := F1r (t := .int .u32) (fun _ => Nat.le_refl _) x.2
  have h : bul .bool x.1.1 + bul (.sl (.int .u32)) x.1.2 + bul (.sl (.int .u32)) x.2 <= k := h
  exact ⟨by omega, by omega⟩
theorem C3c (x : A7 B8.args) (h : F4d B8.args x <= 1048576) : B8.pre x := by
  obtain ⟨l, F, u⟩ := x
  have h : bul (.sl (.int .i64)) l + (bul tQ F + 0) <= 1048576 := h
  have h1 : sz 1048576 F := G0o (by omega)
  exact h1
end Go.Proofs.YtkdmjgcjpmcjjaaGreat
