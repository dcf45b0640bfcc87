/- Operations that make or write memory of the call's own. -/
import Derived.Test.YtedfiemhfpcggaaVc10
namespace Go.Vc
open Go Go.RowKit Go.Gw

def packParts (t : Ty) : Nat → List (Nat × List C) → Option (List t.den)
  | _, [] => some []
  | i, (j, cs) :: r => bif Nat.beq i j then (match pack t cs with
    | some (x, []) => (packParts t (i + 1) r).map (x :: ·)
    | _ => none) else none
def settleP : St → List (Nat × Operand) → St
  | st, [] => st
  | st, (_, x) :: r => settleP (settleO st x) r
def intO (st : St) (x : Operand) : Option Int := (st.ev [] x).bind intC
def isNilSl : Value → Bool
  | .slice none 0 0 => true
  | _ => false
theorem isNilSl_spec {v : Value} (h : isNilSl v = true) : v = .slice none 0 0 := by
  unfold isNilSl at h; split at h
  · rfl
  · cases h
/-- The elements of a slice that is read. -/
def elems (st : St) (t : Ty) : C → Option (List t.den)
  | .val (.sl t') l => if h : t' = t then some (h ▸ l) else none
  | .row k => match st.L k with
    | .row t' _ l => if h : t' = t then some (h ▸ l) else none
    | _ => none
  | .raw v => bif isNilSl v then some [] else none
  | _ => none
/-- The elements of a row of the call's own. -/
def rowFor (st : St) (t : Ty) (e : TypeId) : C → Option (List t.den)
  | .row k => match st.L k with
    | .row t' e' l => if h : t' = t then (bif Nat.beq e' e && Nat.ble st.nm k then some (h ▸ l) else none) else none
    | _ => none
  | .raw v => bif isNilSl v then some [] else none
  | _ => none
def boxS (st : St) (d : Tmp) (T : TypeId) (cs : List C) : St := (st.newL (.box T cs)).setS d (one1 (.box st.nx 0))
def rowS (st : St) (d : Tmp) (t : Ty) (e : TypeId) (l : List t.den) : St := (st.newL (.row t e l)).setS d (one1 (.row st.nx))
def mapS (st : St) (d : Tmp) (ka : Bool) (kt : Ty) (va : Bool) (vt : Ty) : St := (st.newL (.map ka kt va vt [])).setS d (one1 (.mp st.nx))
def dropR (st : St) : C → St
  | .row k => st.setL k .none
  | _ => st
def notRow (c : C) : C → Bool
  | .row k => match c with
    | .row j => !(Nat.beq j k)
    | _ => true
  | _ => true
def slT : Ty → Option Ty
  | .sl t => some t
  | _ => none
def appS (cx : Cx) (st : St) (d : Tmp) (T : TypeId) (x y : Operand) : Option (Option Prop × St) := do
  let ti ← cx.ti T
  let t ← slT ti.ty
  let a ← (st.ev [] x).bind c1
  let b ← (st.ev [] y).bind c1
  let l ← rowFor st t ti.elem a
  let ys ← elems st t b
  bif notRow a b && Nat.ble 1 t.size then some (some ((l.length + ys.length) * ti.bytes ≤ 140737488355328 ∧ l.length + ys.length ≤ 9223372036854775807), rowS (dropR st a) d t ti.elem (l ++ ys)) else none
def effS (cx : Cx) (st : St) (d : Tmp) : Op → Option (Option Prop × St)
  | .box T x => do
    let s ← st.ev [] x
    bif s.cs.all notDead then some (none, boxS st d T s.cs) else none
  | .alloc T => do
    let ti ← cx.ti T
    some (none, boxS st d T (zeroCs ti.ty))
  | .buildSlice T len parts => do
    let ti ← cx.ti T
    let t ← slT ti.ty
    let st1 := settleP st parts.toList
    let ps ← evParts st1 [] parts.toList
    let xs ← packParts t 0 ps
    bif Nat.beq xs.length len && Nat.ble (len * t.size) 16777216 && Nat.ble 1 t.size then some (none, rowS st1 d t ti.elem xs) else none
  | .makeSlice T lo co => do
    let ti ← cx.ti T
    let t ← slT ti.ty
    let l ← intO st lo
    let c ← intO st co
    bif noPtr t then some (some (0 ≤ l ∧ l ≤ c ∧ (ti.bytes : Int) * c ≤ 281474976710656 ∧ c ≤ 9223372036854775807), rowS st d t ti.elem (List.replicate l.toNat t.dflt)) else none
  | .call ⟨.builtin .append, args, ts⟩ => match args.toList, ts.toList with
    | [x, y], [T, T'] => bif Nat.beq T T' then appS cx st d T x y else none
    | _, _ => none
  | .makeMap T r => do
    let ti ← cx.ti T
    match ti.ty, r with
    | .mp ka kt va vt, none => some (none, mapS st d ka kt va vt)
    | .mp ka kt va vt, some o => (intO st o).map fun _ => (none, mapS st d ka kt va vt)
    | _, _ => none
  | .call ⟨.builtin .len, args, ts⟩ => match args.toList, ts.toList with
    | [x], [T] => do
      let ti ← cx.ti T
      match ti.ty with
      | .mp ka kt va vt => do
        let c ← (st.ev [] x).bind c1
        let es ← mapC st ka kt va vt c
        some (some (es.length ≤ 9223372036854775807), st.setS d (one1 (.val (.int .i64) (es.length : Int))))
      | _ => none
    | _, _ => none
  | _ => none

section
variable {za : Zn} {w0 w w' : World} {Z Z' : Nat → Prop} {B : Nat → Value} {st st' : St} {E : Env} {cx : Cx} {φ : Option Prop} {d : Tmp}
theorem EntsR.len {κ ν : Type} {Rk : Value → κ → Prop} {Rv : Value → ν → Prop} : ∀ {l : List (κ × ν)} {es : List MapEntry}, EntsR Rk Rv es l → es.length = l.length
  | [], _, h => by rw [show _ = _ from h]; rfl
  | _ :: _, _, ⟨e, es', he, _, _, h3⟩ => by rw [he, List.length_cons, List.length_cons, EntsR.len h3]
theorem live_lt (h : Rel za w0 st E w Z B) {k : Nat} (hl : live (st.L k)) : k < st.nx := by
  by_cases hlt : k < st.nx
  · exact hlt
  · rw [h.fresh k (by omega)] at hl; exact hl.elim
theorem own_base {base base' e sz n : Nat} {v : Value} {xs : List Value} (h : w.ownsRow base e sz v n xs) (hb : base' ≤ base) : w.ownsRow base' e sz v n xs := by
  refine ⟨h.1, ?_⟩
  rcases h.2 with h | ⟨g, cap, cur, h1, h2, h3⟩
  · exact .inl h
  · exact .inr ⟨g, cap, cur, h1, Nat.le_trans hb h2, h3⟩
theorem own_up {base base' e sz n : Nat} {v : Value} {xs : List Value} (h : w.ownsRow base e sz v n xs) (hb : ∀ b, v.ownBlock = some b → base' ≤ b) : w.ownsRow base' e sz v n xs := by
  refine ⟨h.1, ?_⟩
  rcases h.2 with h | ⟨g, cap, cur, h1, h2, h3⟩
  · exact .inl h
  · exact .inr ⟨g, cap, cur, h1, hb g (by rw [h1]; rfl), h3⟩
/-- A new box. -/
theorem Rel.newBox (h : Rel za w0 st E w Z B) (d : Tmp) {T : TypeId} {cs : List C} {vs : Array Value} (hcs : RCs w Z B cs vs.toList) (hr : ∀ c ∈ cs, refC st.nx c) :
    ∃ B', Rel za w0 (boxS st d T cs) (upd E d (.pointer (some ⟨w.heap.size, 0, none⟩))) (w.alloc (.cells vs T)) Z B' := by
  have hx : Ext w (w.alloc (.cells vs T)) := Ext.alloc w _
  have h1 := h.more (Z' := Z) hx (fun _ => id) (fun _ => .inl)
  have hZ : ∀ b, Z b → b < w.heap.size := h.zlt
  have hs : SameZ Z w (w.alloc (.cells vs T)) := fun b hb => hx.block b (hZ b hb)
  have h2 := h1.new (v := .pointer (some ⟨w.heap.size, 0, none⟩)) (lc := .box T cs) ⟨w.heap.size, vs, upd_same _ _ _, .inl h.ext.size, fun hz => absurd (hZ _ hz) (Nat.lt_irrefl _), blk_alloc w vs T,
    RCs.mono (n := st.nx) (fun _ => id) hs (fun k hk => upd_other _ _ _ _ (Nat.ne_of_lt hk)) hr hcs⟩
    (fun k b hl hb hb' => by
      simp only [root, Option.some.injEq] at hb
      have := ((h.locs k).root hl hb').2.1
      omega)
    (fun c hc => (hr c hc).le (Nat.le_succ _)) rfl (fun b _ hb => by simp only [root, Option.some.injEq] at hb; have := h.mrk.1; omega)
  refine ⟨_, h2.setS d (x := one1 (.box st.nx 0)) ⟨_, [], rfl, ⟨w.heap.size, upd_same _ _ _, rfl⟩, rfl⟩ (fun c hc => ?_)⟩
  simp at hc; subst hc; exact Nat.lt_succ_self _
/-- A new row, in a world that has changed in no block that is known. -/
theorem Rel.newRow (h : Rel za w0 st E w' Z B) (d : Tmp) {t : Ty} {e : TypeId} {l : List t.den} {v : Value} {xs : List Value} (hown : w'.ownsRow w0.heap.size e t.size v l.length xs) (heach : Each (Rep t w' Z) xs l) (hn : ∀ b, v.ownBlock = some b → ¬ Z b ∧ ∀ k, live (st.L k) → root (B k) ≠ some b) (hmk : ∀ b, za.k0 ≤ st.nx → v.ownBlock = some b → za.b0 ≤ b) :
    ∃ B', Rel za w0 (rowS st d t e l) (upd E d v) w' Z B' := by
  have hro := own_root hown
  have hv1 : v.oneCell' = true := by rcases hown.2 with ⟨hv, _⟩ | ⟨_, _, _, hv, _⟩ <;> rw [hv] <;> rfl
  have h2 := h.new (v := v) (lc := .row t e l) ⟨xs, by rw [upd_same]; exact own_base hown (Nat.zero_le _), heach, fun b hb => by rw [upd_same] at hb; exact ⟨.inl (World.ownsRow.lt hown b hb).1, (hn b hb).1⟩⟩
    (fun k b hl hb hb' => (hn b (hro ▸ hb)).2 k hl hb') trivial hv1 (fun b hk hb => hmk b hk (hro ▸ hb))
  refine ⟨_, h2.setS d (x := one1 (.row st.nx)) ⟨_, [], rfl, (upd_same _ _ _).symm, rfl⟩ (fun c hc => ?_)⟩
  simp at hc; subst hc; exact Nat.lt_succ_self _
/-- A new map. -/
theorem Rel.newMap (h : Rel za w0 st E w Z B) (d : Tmp) (ka : Bool) (kt : Ty) (va : Bool) (vt : Ty) :
    ∃ B', Rel za w0 (mapS st d ka kt va vt) (upd E d (.map (some w.heap.size))) (w.alloc (.map #[] 0)) Z B' := by
  have hx : Ext w (w.alloc (.map #[] 0)) := Ext.alloc w _
  have h1 := h.more (Z' := Z) hx (fun _ => id) (fun _ => .inl)
  have hZ : ∀ b, Z b → b < w.heap.size := h.zlt
  have h2 := h1.new (v := .map (some w.heap.size)) (lc := .map ka kt va vt []) ⟨w.heap.size, #[], 0, upd_same _ _ _, .inl h.ext.size, fun hz => absurd (hZ _ hz) (Nat.lt_irrefl _), heap_alloc_new w _, rfl⟩
    (fun k b hl hb hb' => by
      simp only [root, Option.some.injEq] at hb
      have := ((h.locs k).root hl hb').2.1
      omega)
    trivial rfl (fun b _ hb => by simp only [root, Option.some.injEq] at hb; have := h.mrk.1; omega)
  refine ⟨_, h2.setS d (x := one1 (.mp st.nx)) ⟨_, [], rfl, (upd_same _ _ _).symm, rfl⟩ (fun c hc => ?_)⟩
  simp at hc; subst hc; exact Nat.lt_succ_self _
theorem packParts_ok {t : Ty} : ∀ {i : Nat} {ps : List (Nat × List C)} {vals : List (Nat × Value)} {xs : List t.den}, Parts w Z B ps vals → packParts t i ps = some xs → vals = ((vals.map (·.2)).zipIdx i).map (fun x => (x.2, x.1)) ∧ (∀ v ∈ vals.map (·.2), v.cells.size = t.size) ∧ xs.length = vals.length ∧ Each (Rep t w Z) ((vals.map (·.2)).flatMap (·.cells.toList)) xs
  | i, [], vals, xs, h, hp => by cases hp; rw [show vals = [] from h]; exact ⟨rfl, by simp, rfl, rfl⟩
  | i, (j, cs) :: r, vals, xs, ⟨v, vs', e, h1, h2⟩, hp => by
    simp only [packParts] at hp
    cases hb : Nat.beq i j with
    | false => simp [hb] at hp
    | true =>
      have hij := Nat.eq_of_beq_eq_true hb
      subst hij
      simp only [hb, cond_true] at hp
      split at hp
      · rename_i x hx
        simp only [Option.map_eq_some_iff] at hp
        obtain ⟨xs', hx', rfl⟩ := hp
        obtain ⟨g1, g2, g3, g4⟩ := packParts_ok h2 hx'
        have hrep := pack_all h1 hx
        subst e
        refine ⟨?_, ?_, by simp [g3], ⟨v.cells.toList, _, by simp, hrep, g4⟩⟩
        · simp only [List.map_cons, List.zipIdx_cons]
          rw [← g1]
        · intro u hu
          simp only [List.map_cons, List.mem_cons] at hu
          rcases hu with rfl | hu
          · have := Rep.length hrep; simpa using this
          · exact g2 u (by simpa using hu)
      · cases hp
theorem Rel.settleP (h : Rel za w0 st E w Z B) : ∀ ps : List (Nat × Operand), ∃ Z', Rel za w0 (settleP st ps) E w Z' B := by
  intro ps
  induction ps generalizing st Z with
  | nil => exact ⟨Z, h⟩
  | cons x ps ih =>
    obtain ⟨Z1, h1⟩ := h.settleO x.2
    exact ih h1
theorem y_buildSlice' {P : Program} {T e ty : TypeId} {sz len : Nat} {parts : List (Nat × Operand)} {z : Value} (vs : List Value) (ht : sliceT P T e sz = true) (hz : zeroT P e = some z) (hlen : len * sz ≤ 16777216) (hsz : 1 ≤ sz) (hzs : z.cells.size = sz)
    (hp : (parts.map fun x => (x.1, Gw.ev E x.2)) = (vs.zipIdx 0).map fun x => (x.2, x.1)) (hv : ∀ v ∈ vs, v.cells.size = sz) (hl : vs.length = len) :
    ∃ cs : Array Value, cs.toList = vs.flatMap (·.cells.toList) ∧ Gw.Yields P E ty (.buildSlice T len parts.toArray) w (.slice (some ⟨w.heap.size, 0, none⟩) len len) (w.alloc (.cells cs e)) := by
  by_cases h0 : len = 0
  · subst h0
    have : vs = [] := List.eq_nil_of_length_eq_zero hl
    subst this
    refine ⟨#[], rfl, fun _ _ _ _ => ?_⟩
    obtain ⟨hu, hs⟩ := sliceT_spec ht
    have h3 := Gw.run_sizeOf (P := P) (w := w) hs
    have hp' : parts = [] := by simpa using hp
    subst hp'
    simp only [execOp]
    unfold Instr.buildSlice
    have h0 : Array.range 0 = #[] := by apply Array.ext <;> simp
    simp [run_underlying hu, h3, Instr.fill, newRow, h0]
  · obtain ⟨r, hr, hrl, hrs⟩ := fill_seq sz vs 0 ((Array.range (len * sz)).map (z.cells[· % z.cells.size]!)) hv (by simp [hl])
    refine ⟨r, by rw [hrl]; simp [hl], ?_⟩
    have hne : len * sz ≠ 0 := by
      have : 1 ≤ len := by omega
      have := Nat.mul_le_mul this hsz
      omega
    exact y_buildSlice r ht hz hlen (by rw [hp]; exact hr) hne
/-- append, whatever is appended. -/
theorem append_run {P : Program} {base : Nat} {t ty e : TypeId} {i : TypeInfo} {z : Value} {size : Nat} (ht : P.underlying t = some (.slice e)) (hi : P.info? e = some i) (hz : i.zero = some z) (hsize : i.size = size) (hzs : z.cells.size = size) (hsz : 0 < size)
    {v : Value} {n : Nat} {xs : List Value} (hown : w.ownsRow base e size v n xs) {ao : Option Addr} {m c : Nat} {news : List Value} (hl : news.length = m * size) (hnews : ∀ a, ao = some a → CellsAt w a news) (hno : ao = none → m = 0 ∧ c = 0) (h1 : ∀ u ∈ news, u.oneCell' = true)
    (h63 : n + m ≤ 9223372036854775807) (hbytes : (n + m) * i.bytes ≤ 140737488355328) (hbase : base ≤ w.heap.size) :
    ∃ v' w', (Builtin.append_ #[t, t] ty #[v, .slice ao m c]).run P w = .ok v' w' ∧ w'.ownsRow base e size v' (n + m) (xs ++ news) ∧ w.grownBy w' v.ownBlock ∧ (v'.ownBlock = v.ownBlock ∨ v'.ownBlock = some w.heap.size) := by
  cases ao with
  | none =>
    obtain ⟨rfl, rfl⟩ := hno rfl
    have hnil : news = [] := List.eq_nil_of_length_eq_zero (by simpa using hl)
    subst hnil
    refine ⟨v, w, run_append_owned_none (P := P) w base t ty e i size ht hi v n xs hown, by simpa using hown, ⟨rfl, rfl, rfl, Nat.le_refl _, fun _ _ _ => rfl⟩, .inl rfl⟩
  | some a =>
    by_cases hm0 : m = 0
    · subst hm0
      have hnil : news = [] := List.eq_nil_of_length_eq_zero (by simpa using hl)
      subst hnil
      have hrun : (Builtin.append_ #[t, t] ty #[v, .slice (some a) 0 c]).run P w = .ok v w := by
        have hl0 : (loadCells a 0).run P w = .ok #[] w := by simpa using run_loadCells_list (P := P) w a [] (by simp)
        rcases hown.2 with ⟨rfl, rfl⟩ | ⟨g, cap, cur, rfl, _, _, hnc, _⟩
        · simp [Builtin.append_, run_underlying ht, sizeOf, typeInfo, hi, Builtin.lenOf, Builtin.firstCells, hl0]
        · simp [Builtin.append_, run_underlying ht, sizeOf, typeInfo, hi, Builtin.lenOf, Builtin.firstCells, hnc, storeCells, hl0]
      exact ⟨v, w, hrun, by simpa using hown, ⟨rfl, rfl, rfl, Nat.le_refl _, fun _ _ _ => rfl⟩, .inl rfl⟩
    · have hmax : n + m ≤ maxLen := by simp only [maxLen]; omega
      have hn' := hnews a rfl
      obtain ⟨v', w1, hrun, hown', hgr, _⟩ := run_append_own (P := P) w base t ty e i z size i.bytes ht hi hz hsize rfl hzs hsz v n xs hown a m c news hl hn' h1 hmax hbytes hbase
      refine ⟨v', w1, hrun, hown', hgr, ?_⟩
      subst hsize
      rcases hown.2 with ⟨rfl, rfl⟩ | ⟨gb, cap, cur, rfl, _, hcur, hnc, _, hcs, _⟩
      · have h48 : m * i.bytes ≤ 281474976710656 := by simp only [Nat.zero_add] at hbytes; omega
        have hr := run_append_nil (P := P) w t ty e i z ht hi hz a m c news hl hn' (by omega) (by omega) h48
        rw [hr] at hrun
        cases hrun
        exact .inr rfl
      · by_cases hroom : n + m ≤ cap
        · have hfit : n * i.size + news.length ≤ cur.size := by rw [hl, hcs, ← Nat.add_mul]; exact Nat.mul_le_mul_right _ hroom
          have hr := run_append_room (P := P) w t ty e i ht hi gb n cap cur hcur a m c news hl hn' h1 hroom hfit
          rw [hr] at hrun
          cases hrun
          exact .inl rfl
        · have holds : ∀ j u, xs[j]? = some u → w.cell? ((⟨gb, 0, none⟩ : Addr).add j) = some u := hown.cells (g := gb) rfl
          have hr := run_append_grow (P := P) w t ty e i z ht hi hz ⟨gb, 0, none⟩ n cap xs hown.1 holds a m c news hl hn' (by omega) (by omega) (growslice_fits (by omega) hbytes)
          rw [hr] at hrun
          cases hrun
          exact .inr rfl
/-- What is known of the slice that elems reads. -/
theorem elems_ok (h : Rel za w0 st E w Z B) {t : Ty} {c : C} {l : List t.den} {v : Value} (hc : RC w Z B c v) (he : elems st t c = some l) :
    ∃ ao cap ec, v = .slice ao l.length cap ∧ l.length ≤ cap ∧ (ao = none → cap = 0) ∧ (∀ a, ao = some a → CellsAt w a ec) ∧ Each (Rep t w Z) ec l := by
  unfold elems at he
  split at he
  · rename_i t' l'
    split at he
    · rename_i heq; subst heq; cases he
      obtain ⟨a, cap, e1, hlc, _, hn, hh⟩ := hc
      simp only [List.cons.injEq, and_true] at e1
      rcases hh with hh | ⟨b, o, ec, ha, hz, hcells, heach⟩
      · subst hh; exact ⟨a, cap, [], e1, hlc, hn, fun _ _ j u hj => by simp at hj, rfl⟩
      · subst ha; exact ⟨_, cap, ec, e1, hlc, hn, fun a ha => by cases ha; exact hcells, heach⟩
    · cases he
  · rename_i k
    split at he
    · rename_i t' e' l' hk
      split at he
      · rename_i heq; subst heq; cases he
        have hL := h.locs k
        rw [hk] at hL
        obtain ⟨xs, hown, heach, _⟩ := hL
        have hc : v = B k := hc
        rcases hown.2 with ⟨hv, hn⟩ | ⟨g, cap, cur, hv, _, _, hnc, _⟩
        · have : l' = [] := List.eq_nil_of_length_eq_zero hn
          subst this
          exact ⟨none, 0, [], by rw [hc, hv]; rfl, Nat.le_refl _, fun _ => rfl, fun a ha => (by cases ha), rfl⟩
        · exact ⟨some ⟨g, 0, none⟩, cap, xs, by rw [hc, hv], hnc, fun hh => (by cases hh), fun a ha => by cases ha; exact own_cells hown hv, heach⟩
      · cases he
    · cases he
  · rename_i v0
    cases hn : isNilSl v0 with
    | false => simp [hn] at he
    | true =>
      simp [hn] at he
      subst he
      exact ⟨none, 0, [], by rw [hc.1, isNilSl_spec hn]; rfl, Nat.le_refl _, fun _ => rfl, fun a ha => (by cases ha), rfl⟩
  · cases he
theorem info_of {P : Program} {T : TypeId} {ti : TI} {t : Ty} (h : tyOk P T ti = true) (ht : ti.ty = .sl t) : ∃ i z, P.underlying T = some (.slice ti.elem) ∧ P.info? ti.elem = some i ∧ i.zero = some z ∧ i.size = t.size ∧ z.cells.toList = zeroV t ∧ z.cells.size = t.size ∧ i.bytes = ti.bytes ∧ sliceT P T ti.elem t.size = true := by
  obtain ⟨h1, h2, i, hi, hb⟩ := tyOk_sl h ht
  obtain ⟨hu, hs⟩ := sliceT_spec h1
  obtain ⟨z, hz, hzc⟩ := zeroOk_spec h2
  unfold zeroT at hz
  unfold sizeT at hs
  simp only [hi, Option.bind_some] at hz
  simp only [hi, beq_iff_eq] at hs
  have hsz : (zeroV t).length = t.size := by
    clear hzc hs h1 h2 ht
    induction t with
    | pair a b iha ihb => simp [zeroV, Ty.size, iha, ihb]
    | _ => rfl
  exact ⟨i, z, hu, hi, hz, hs, hzc, by rw [← Array.length_toList, hzc, hsz], hb, h1⟩
theorem slT_spec {ty t : Ty} (h : slT ty = some t) : ty = .sl t := by
  unfold slT at h; split at h
  · cases h; rfl
  · cases h
variable {all : List Oper} {ty : TypeId} {pos : String} {aft : Array Edge} {g : Option (Nat × Bool)} {k : St → Prop}
theorem ctxNil (E : Env) : CtxOk E [] := fun _ _ h => by cases h
theorem Each.of_index {α : Type} {R : List Value → α → Prop} {s : Nat} : ∀ {l : List α} {cs : List Value}, cs.length = l.length * s → (∀ (i : Nat) (x : α), l[i]? = some x → R ((cs.drop (i * s)).take s) x) → Each R cs l
  | [], cs, hl, _ => List.eq_nil_of_length_eq_zero (by simpa using hl)
  | x :: l, cs, hl, h => by
    have hl' : cs.length = s + l.length * s := by rw [hl, List.length_cons, Nat.succ_mul, Nat.add_comm]
    refine ⟨cs.take s, cs.drop s, (List.take_append_drop s cs).symm, ?_, Each.of_index (s := s) (by rw [List.length_drop]; omega) (fun i y hi => ?_)⟩
    · have := h 0 x rfl; simpa using this
    · have := h (i + 1) y (by simpa using hi)
      rw [Nat.succ_mul, Nat.add_comm, ← List.drop_drop] at this
      exact this
theorem made_each {t : Ty} {z : Array Value} (hz : z.toList = zeroV t) (hn : noPtr t = true) (hsz : z.size = t.size) (c l : Nat) (hlc : l ≤ c) : Each (Rep t w Z) ((madeCells z (c * t.size)).toList.take (l * t.size)) (List.replicate l t.dflt) := by
  have hlen : ((madeCells z (c * t.size)).toList.take (l * t.size)).length = l * t.size := by
    rw [List.length_take, Array.length_toList, size_madeCells]; exact Nat.min_eq_left (Nat.mul_le_mul_right _ hlc)
  refine Each.of_index (s := t.size) (by rw [hlen, List.length_replicate]) (fun i x hi => ?_)
  have hil : i < l := by have := el_lt hi; simpa using this
  have hx : x = t.dflt := by
    have := List.mem_of_getElem? hi
    exact (List.mem_replicate.1 this).2
  subst hx
  have hcell : (((madeCells z (c * t.size)).toList.take (l * t.size)).drop (i * t.size)).take t.size = zeroV t := by
    have hzl : (zeroV t).length = t.size := by rw [← hz, Array.length_toList, hsz]
    have hle : i * t.size + t.size ≤ l * t.size := by rw [← Nat.succ_mul]; exact Nat.mul_le_mul_right _ hil
    have hle2 : l * t.size ≤ c * t.size := Nat.mul_le_mul_right _ hlc
    apply List.ext_getElem?
    intro j
    by_cases hj : j < t.size
    · rw [List.getElem?_take, if_pos hj, List.getElem?_drop, List.getElem?_take, if_pos (by omega)]
      have h1 : (i * t.size + j) % z.size = j := by rw [hsz, Nat.mul_comm, Nat.mul_add_mod, Nat.mod_eq_of_lt hj]
      have h2 : (madeCells z (c * t.size)).toList[i * t.size + j]? = some (z[(i * t.size + j) % z.size]!) := by
        simp only [madeCells, Array.getElem?_toList, Array.getElem?_map]
        rw [Array.getElem?_range, if_pos (by omega)]
        rfl
      rw [h2, h1, ← hz, Array.getElem?_toList]
      rw [Array.getElem?_eq_getElem (by omega), getElem!_pos z j (by omega)]
    · rw [List.getElem?_take, if_neg hj, List.getElem?_eq_none (by omega)]
  rw [hcell]
  exact zero_rep hn
/-- The row that is appended to is new since the mark. -/
def okMark (k0 : Nat) (st : St) : Op → Bool
  | .call ⟨.builtin .append, args, _⟩ => match args.toList with
    | x :: _ => (match (st.ev [] x).bind c1 with
      | some (.row k) => Nat.ble k0 k
      | _ => true)
    | _ => true
  | _ => true
theorem effS_ok {op0 : Op} (h : Rel za w0 st E w Z B) (hmkd : za.b0 = 0 ∨ ∀ op, op = op0 → okMark za.k0 st op = true) (hty : tysOk cx.P cx.tys = true) (hs : effS cx st d op0 = some (φ, st')) (hφ : okP φ) (hk : k st') (hg : wantedE all ⟨some d, op0, ty, pos, aft, g⟩ E = true) : stepI cx.P all ⟨some d, op0, ty, pos, aft, g⟩ (NxE za w0 w (wrB op0) k) E w := by
  unfold effS at hs
  split at hs
  · simp only [Option.bind_eq_bind, bind_some] at hs
    obtain ⟨s, hsv, hs⟩ := hs
    cases hd : s.cs.all notDead with
    | false => simp only [hd, cond_false] at hs; cases hs
    | true =>
      simp only [hd, cond_true] at hs
      cases hs
      obtain ⟨h1, h2⟩ := h.ev (ctxNil E) hsv
      obtain ⟨B', h3⟩ := h.newBox d (T := _) (RS.cells h h1 hd) h2
      exact step_y (y_box rfl) hg ⟨fun _ => Ext.alloc w _, _, _, _, h3, hk⟩
  · simp only [Option.bind_eq_bind, bind_some] at hs
    obtain ⟨ti, hti, hs⟩ := hs
    cases hs
    obtain ⟨z, hz, hzc⟩ := zeroOk_spec (tyOk_parts (tysOk_spec hty hti)).2.2
    have h3 := constCs_ok (w := w) (Z := Z) (B := B) (n := st.nx) (zeroV ti.ty)
    obtain ⟨B', h4⟩ := h.newBox d (T := _) (vs := z.cells) (by rw [hzc]; exact h3.1) h3.2
    exact step_y (y_alloc hz) hg ⟨fun _ => Ext.alloc w _, _, _, _, h4, hk⟩
  · rename_i T len parts
    simp only [Option.bind_eq_bind, bind_some] at hs
    obtain ⟨ti, hti, t, ht, ps, hps, xs, hxs, hs⟩ := hs
    have ht := slT_spec ht
    cases hd : Nat.beq xs.length len && Nat.ble (len * t.size) 16777216 && Nat.ble 1 t.size with
    | false => simp only [hd, cond_false] at hs; cases hs
    | true =>
      simp only [hd, cond_true] at hs
      cases hs
      simp only [Bool.and_eq_true] at hd
      obtain ⟨i, z, hu, hi, hz, hsz, hzc, hzs, hb, hsl⟩ := info_of (tysOk_spec hty hti) ht
      obtain ⟨Z1, h1⟩ := h.settleP parts.toList
      obtain ⟨h2, h3⟩ := evParts_ok h1 (ctxNil E) hps
      obtain ⟨g1, g2, g3, g4⟩ := packParts_ok h2 hxs
      have hlen := Nat.eq_of_beq_eq_true hd.1.1
      have hzT : zeroT cx.P ti.elem = some z := by simp [zeroT, hi, hz]
      obtain ⟨cs, hcs, hy⟩ := y_buildSlice' (w := w) (ty := ty) (len := len) _ hsl hzT (Nat.le_of_ble_eq_true hd.1.2) (Nat.le_of_ble_eq_true hd.2) hzs g1 g2 (by rw [List.length_map, ← g3, hlen])
      have hx : Ext w (w.alloc (.cells cs ti.elem)) := Ext.alloc w _
      have h4 := h1.more (Z' := Z1) hx (fun _ => id) (fun _ => .inl)
      have hsame : SameZ Z1 w (w.alloc (.cells cs ti.elem)) := fun b hb => hx.block b (h1.zlt b hb)
      have hll : cs.toList.length = len * t.size := by rw [hcs, Each.length (fun _ _ h => Rep.length h) g4, hlen]
      have hown : (w.alloc (.cells cs ti.elem)).ownsRow w0.heap.size ti.elem t.size (.slice (some ⟨w.heap.size, 0, none⟩) len len) xs.length cs.toList := by
        rw [hlen]
        refine ⟨hll, .inr ⟨w.heap.size, len, cs, rfl, h.ext.size, blk_alloc w _ _, Nat.le_refl _, ?_, by simpa using hll, by rw [← hll, List.take_length]⟩⟩
        have h5 := Nat.le_of_ble_eq_true hd.1.2
        have h6 := Nat.le_of_ble_eq_true hd.2
        have : len * 1 ≤ len * t.size := Nat.mul_le_mul_left _ h6
        simp only [maxLen]; omega
      obtain ⟨B', h5⟩ := h4.newRow d (t := t) (e := ti.elem) (l := xs) hown (by rw [hcs]; exact g4.mono fun _ _ => Rep.mono (fun _ => id) hsame) (fun b hb => by
        simp only [Value.ownBlock, Option.some.injEq] at hb
        refine ⟨fun hz => ?_, fun q hq hqb => ?_⟩
        · have := h1.zlt b hz; omega
        · have := ((h1.locs q).root hq hqb).2.1; omega) (fun b _ hb => by simp only [Value.ownBlock, Option.some.injEq] at hb; have := h.mrk.1; omega)
      have := step_y (pos := pos) (aft := aft) hy (by simpa using hg) (show NxE za w0 w (wrB (.buildSlice T len parts)) k _ _ from ⟨fun _ => hx, _, _, _, h5, hk⟩)
      simpa using this
  · rename_i T lo co
    simp only [Option.bind_eq_bind, bind_some] at hs
    obtain ⟨ti, hti, t, ht, l, hl, c, hc, hs⟩ := hs
    have ht := slT_spec ht
    cases hd : noPtr t with
    | false => simp only [hd, cond_false] at hs; cases hs
    | true =>
      simp only [hd, cond_true] at hs
      cases hs
      obtain ⟨f1, f2, f3, f4⟩ := hφ
      obtain ⟨i, z, hu, hi, hz, hsz, hzc, hzs, hb, hsl⟩ := info_of (tysOk_spec hty hti) ht
      obtain ⟨k1, e1, _⟩ := h.int (ctxNil E) hl
      obtain ⟨k2, e2, _⟩ := h.int (ctxNil E) hc
      have hrun := run_make (P := cx.P) w T ti.elem i z hu hi hz k1 k2 l c f1 f2 (by rw [hb]; exact f3) f4
      have hy : Gw.Yields cx.P E ty (.makeSlice T lo co) w (.slice (some ⟨w.heap.size, 0, none⟩) l.toNat c.toNat) (w.alloc (.cells (madeCells z.cells (c.toNat * i.size)) ti.elem)) := fun _ _ _ _ => by simp [execOp, e1, e2, hrun]
      generalize hcs : madeCells z.cells (c.toNat * i.size) = cs at hy
      have hcsz : cs.size = c.toNat * t.size := by rw [← hcs, ← hsz]; simp [madeCells]
      have hx : Ext w (w.alloc (.cells cs ti.elem)) := Ext.alloc w _
      have h4 := h.more (Z' := Z) hx (fun _ => id) (fun _ => .inl)
      have hlc : l.toNat ≤ c.toNat := by omega
      have heach : Each (Rep t (w.alloc (.cells cs ti.elem)) Z) (cs.toList.take (l.toNat * t.size)) (List.replicate l.toNat t.dflt) := by
        rw [← hcs, hsz]; exact made_each hzc hd hzs _ _ hlc
      have hown : (w.alloc (.cells cs ti.elem)).ownsRow w0.heap.size ti.elem t.size (.slice (some ⟨w.heap.size, 0, none⟩) l.toNat c.toNat) (List.replicate l.toNat t.dflt).length (cs.toList.take (l.toNat * t.size)) := by
        rw [List.length_replicate]
        refine ⟨?_, .inr ⟨w.heap.size, c.toNat, cs, rfl, h.ext.size, blk_alloc w _ _, hlc, ?_, hcsz, rfl⟩⟩
        · rw [List.length_take, Array.length_toList, hcsz]; exact Nat.min_eq_left (Nat.mul_le_mul_right _ hlc)
        · simp only [maxLen]; omega
      obtain ⟨B', h5⟩ := h4.newRow d hown heach (fun b hb => by
        simp only [Value.ownBlock, Option.some.injEq] at hb
        refine ⟨fun hz => ?_, fun q hq hqb => ?_⟩
        · have := h.zlt b hz; omega
        · have := ((h.locs q).root hq hqb).2.1; omega) (fun b _ hb => by simp only [Value.ownBlock, Option.some.injEq] at hb; have := h.mrk.1; omega)
      exact step_y hy hg ⟨fun _ => hx, _, _, _, h5, hk⟩
  · rename_i args ts
    split at hs
    · rename_i x y T T' hargs hts
      cases hT : Nat.beq T T' with
      | false => simp [hT] at hs
      | true =>
        simp only [hT, cond_true] at hs
        have hTT := Nat.eq_of_beq_eq_true hT
        subst hTT
        simp only [appS, Option.bind_eq_bind, bind_some] at hs
        obtain ⟨ti, hti, t, ht, a, ⟨sa, hsa, hca⟩, b, ⟨sb, hsb, hcb⟩, l, hl, ys, hys, hs⟩ := hs
        have ht := slT_spec ht
        cases hd : notRow a b && Nat.ble 1 t.size with
        | false => simp only [hd, cond_false] at hs; cases hs
        | true =>
          simp only [hd, cond_true] at hs
          cases hs
          simp only [Bool.and_eq_true] at hd
          obtain ⟨f1, f2⟩ := hφ
          obtain ⟨i, z, hu, hi, hz, hsz, hzc, hzs, hb, hsl⟩ := info_of (tysOk_spec hty hti) ht
          have ha := h.c1 (ctxNil E) (bind_some.2 ⟨sa, hsa, hca⟩)
          have hbv := h.c1 (ctxNil E) (bind_some.2 ⟨sb, hsb, hcb⟩)
          obtain ⟨ao, cap, ec, hv, hlcap, hno, hcells, heach⟩ := elems_ok h hbv.1 hys
          have hel := Each.length (R := Rep t w Z) (s := t.size) (fun _ _ h => Rep.length h) heach
          have hok : za.b0 = 0 ∨ ∀ j, a = .row j → za.k0 ≤ j := hmkd.imp id fun hh j hj => by
            have := hh _ rfl
            simp only [okMark, hargs, show (st.ev [] x).bind c1 = some a from bind_some.2 ⟨sa, hsa, hca⟩, hj] at this
            exact Nat.le_of_ble_eq_true this
          have hrow : ∃ xs, w.ownsRow w0.heap.size ti.elem t.size (Gw.ev E x) l.length xs ∧ Each (Rep t w Z) xs l ∧ (∀ q, (Gw.ev E x).ownBlock = some q → ¬ Z q ∧ w0.heap.size ≤ q ∧ ∀ j, live ((dropR st a).L j) → root (B j) ≠ some q) ∧ Rel za w0 (dropR st a) E w Z B ∧ (∀ q, (Gw.ev E x).ownBlock = some q → za.b0 ≤ q) := by
            unfold rowFor at hl
            split at hl
            · rename_i j
              split at hl
              · rename_i t' e' l' hj
                split at hl
                · rename_i heq; subst heq
                  cases he : Nat.beq e' ti.elem && Nat.ble st.nm j with
                  | false => simp only [he, cond_false] at hl; cases hl
                  | true =>
                    simp only [he, cond_true] at hl
                    cases hl
                    simp only [Bool.and_eq_true] at he
                    have hjn := Nat.le_of_ble_eq_true he.2
                    have hee := Nat.eq_of_beq_eq_true he.1
                    subst hee
                    have hL := h.locs j
                    rw [hj] at hL
                    obtain ⟨xs, hown, hea, hnz'⟩ := hL
                    have hup : ∀ q, (B j).ownBlock = some q → w0.heap.size ≤ q := fun q hq => by
                      rcases (hnz' q hq).1 with g | g
                      · exact g
                      · have := h.nms.1; omega
                    replace hown := own_up hown hup
                    have hnz := fun q hq => (hnz' q hq).2
                    have hxv : Gw.ev E x = B j := ha.1
                    have hro := own_root hown
                    rw [← hxv] at hown
                    refine ⟨xs, hown, hea, fun q hq => ?_, h.drop j, fun q hq => ?_⟩
                    case refine_2 =>
                      rw [hxv] at hq
                      rcases hok with hok | hok
                      · rw [hok]; exact Nat.zero_le _
                      · exact h.mrk.2 j q (hok j rfl) (by rw [hj]; trivial) (hro.trans hq)
                    rw [hxv] at hq
                    refine ⟨hnz q hq, (World.ownsRow.lt hown q (by rw [hxv]; exact hq)).1, fun j' hj' hjb => ?_⟩
                    simp only [dropR, St.L_setL] at hj'
                    by_cases hjj : j' = j
                    · rw [if_pos hjj] at hj'; exact hj'.elim
                    · rw [if_neg hjj] at hj'
                      exact h.disj j' j q hjj hj' (by rw [hj]; trivial) hjb (hro.trans hq)
                · cases hl
              · cases hl
            · rename_i v0
              cases hn : isNilSl v0 with
              | false => simp [hn] at hl
              | true =>
                simp [hn] at hl
                subst hl
                have hxv : Gw.ev E x = .slice none 0 0 := by rw [ha.1.1]; exact isNilSl_spec hn
                refine ⟨[], by rw [hxv]; exact World.ownsRow_nil _ _ _ _, rfl, fun q hq => ?_, h, fun q hq => ?_⟩ <;> (rw [hxv] at hq; cases hq)
            · cases hl
          obtain ⟨xs, hown, hea, hxz, hrel, hxm⟩ := hrow
          obtain ⟨v', w1, hrun, hown', hgr, hblk⟩ := append_run (P := cx.P) (ty := ty) hu hi hz hsz hzs (Nat.le_of_ble_eq_true hd.2) hown (ao := ao) (m := ys.length) (c := cap) (news := ec) hel (fun a ha => hcells a ha) (fun hn => by have := hno hn; omega) (Each.oneCell heach) f2 (by rw [hb]; exact f1) h.ext.size
          have hsame : ∀ q, (Z q ∨ ∃ j, live ((dropR st a).L j) ∧ root (B j) = some q) → w1.heap[q]? = w.heap[q]? := fun q hq => by
            refine hgr.block q ?_ (fun hh => ?_)
            · rcases hq with hq | ⟨j, hj, hjb⟩
              · exact h.zlt q hq
              · exact ((hrel.locs j).root hj hjb).2.1
            · have := hxz q hh.symm
              rcases hq with hq | ⟨j, hj, hjb⟩
              · exact this.1 hq
              · exact this.2.2 j hj hjb
          have h4 := hrel.keep (Z' := Z) (h.ext.grown hgr (fun q hq => .inl (hxz q hq).2.1)) hgr.size hsame (fun _ => id) (fun _ => .inl)
          have hsz' : SameZ Z w w1 := fun q hq => hsame q (.inl hq)
          obtain ⟨B', h5⟩ := h4.newRow d (l := l ++ ys) (by rw [List.length_append]; exact hown') ((hea.append heach).mono fun _ _ => Rep.mono (fun _ => id) hsz') (fun q hq => by
            rcases hblk with hbk | hbk
            · rw [hbk] at hq; exact ⟨(hxz q hq).1, (hxz q hq).2.2⟩
            · rw [hbk] at hq; cases hq
              exact ⟨fun hz => absurd (h.zlt _ hz) (Nat.lt_irrefl _), fun j hj hjb => absurd ((hrel.locs j).root hj hjb).2.1 (Nat.lt_irrefl _)⟩) (fun q hk0 hq => by
            rcases hblk with hbk | hbk
            · rw [hbk] at hq; exact hxm q hq
            · rw [hbk] at hq; cases hq; exact h.mrk.1)
          have hargs' : args = #[x, y] := by rw [← hargs]
          have hts' : ts = #[T, T] := by rw [← hts]
          subst hargs' hts'
          refine step_y (v := v') (w' := w1) (fun _ _ _ _ => ?_) hg ⟨fun hh => (by cases hh), _, _, _, h5, hk⟩
          simp [execOp, resolve, invoke, builtin, hv, hrun]
    · cases hs
  · rename_i T r
    simp only [Option.bind_eq_bind, bind_some] at hs
    obtain ⟨ti, hti, hs⟩ := hs
    split at hs
    · rename_i ka kt va vt hT
      cases hs
      obtain ⟨B', h5⟩ := h.newMap d ka kt va vt
      exact step_y y_makeMap hg ⟨fun _ => Ext.alloc w _, _, _, _, h5, hk⟩
    · rename_i ka kt va vt o hT
      simp only [Option.map_eq_some_iff] at hs
      obtain ⟨n, hn, hs⟩ := hs
      cases hs
      obtain ⟨hu, _⟩ := tyOk_mp (tysOk_spec hty hti) hT
      obtain ⟨kd, e1, _⟩ := h.int (ctxNil E) hn
      obtain ⟨B', h5⟩ := h.newMap d ka kt va vt
      refine step_y (v := .map (some w.heap.size)) (w' := w.alloc (.map #[] 0)) (fun _ _ _ _ => ?_) hg ⟨fun _ => Ext.alloc w _, _, _, _, h5, hk⟩
      simp [execOp, Instr.makeMap, e1, run_underlying hu, asInt, go_sem]
    · cases hs
  · rename_i args ts
    split at hs
    · rename_i x T hargs hts
      simp only [Option.bind_eq_bind, bind_some] at hs
      obtain ⟨ti, hti, hs⟩ := hs
      split at hs
      · rename_i ka kt va vt hT
        simp only [bind_some] at hs
        obtain ⟨c, ⟨s, hs1, hs2⟩, es, hes, hs⟩ := hs
        cases hs
        have hlen : (es.length : Int) ≤ 9223372036854775807 := by have : es.length ≤ 9223372036854775807 := hφ; omega
        have hargs' : args = #[x] := by rw [← hargs]
        have hts' : ts = #[T] := by rw [← hts]
        subst hargs' hts'
        obtain ⟨hu, _⟩ := tyOk_mp (tysOk_spec hty hti) hT
        have h1 := h.c1 (ctxNil E) (bind_some.2 ⟨s, hs1, hs2⟩)
        have hin : inR .i64 (es.length : Int) := by
          unfold inR
          have e1 : IntKind.i64.min = -9223372036854775808 := by decide
          have e2 : IntKind.i64.max = 9223372036854775807 := by decide
          omega
        have hyl : Gw.Yields cx.P E ty (.call ⟨.builtin .len, #[x], #[T]⟩) w (.int .i64 (es.length : Int)) w := by
          intro _ _ _ _
          rcases mapC_ok h h1.1 hes with ⟨e, hn⟩ | ⟨b, ents, cl, e, hlt, hb, he⟩
          · simp [execOp, resolve, invoke, builtin, Builtin.len_, e, run_underlying hu, goInt, hn]
          · have hgo : (getObj b).run cx.P w = .ok (.map ents cl) w := by simp [getObj, Sem.run, hb]
            have hl := EntsR.len he
            simp [execOp, resolve, invoke, builtin, Builtin.len_, e, run_underlying hu, hgo, goInt] at hl ⊢
            exact congrArg Int.ofNat hl
        exact step_y hyl hg ⟨fun _ => Ext.refl w, _, _, _, h.setS d (x := one1 (.val (.int .i64) (es.length : Int))) ⟨_, [], rfl, ⟨rfl, hin⟩, rfl⟩ (fun c hc => by simp at hc; subst hc; trivial), hk⟩
      · cases hs
    · cases hs
  · cases hs
end
end Go.Vc
