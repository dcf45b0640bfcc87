/- Memory: boxes, slices, appends; the rules hand on a world of which only what is needed is known. -/
import Derived.Test.YtedfiemhfpcggaaGwOps
import Derived.OwnWalk
namespace Go.Gw
open Go Go.RowKit

section frames
variable {P : Program} {n : Nat} {R : Env → World → Prop} {k : List Fr} {E : Env} {w : World} {all rest : List Oper} {d : Nat} {ty : TypeId} {pos : String} {aft : Array Edge} {g : Option (Nat × Bool)}

theorem go_box {T : TypeId} {x : Operand} (v : Value) (cs : Array Value) (hx : ev E x = v) (hg : wantedE all ⟨some d, .box T x, ty, pos, aft, g⟩ E = true) (hcs : v.cells = cs)
    (h : ∀ w1 b, Ext w w1 → w.heap.size ≤ b → Blk w1 b cs T → Go P n R (.ops all rest :: k) (upd E d (.pointer (some ⟨b, 0, none⟩))) w1) :
    Go P n R (.ops all (⟨some d, .box T x, ty, pos, aft, g⟩ :: rest) :: k) E w := by
  subst hcs
  exact go_y (y_box hx) hg (h _ _ (Ext.alloc w _) (Nat.le_refl _) (blk_alloc w _ _))
theorem go_alloc {T : TypeId} (z : Value) (cs : Array Value) (hz : zeroT P T = some z) (hg : wantedE all ⟨some d, .alloc T, ty, pos, aft, g⟩ E = true) (hcs : z.cells = cs)
    (h : ∀ w1 b, Ext w w1 → w.heap.size ≤ b → Blk w1 b cs T → Go P n R (.ops all rest :: k) (upd E d (.pointer (some ⟨b, 0, none⟩))) w1) :
    Go P n R (.ops all (⟨some d, .alloc T, ty, pos, aft, g⟩ :: rest) :: k) E w := by
  subst hcs
  exact go_y (y_alloc hz) hg (h _ _ (Ext.alloc w _) (Nat.le_refl _) (blk_alloc w _ _))
/-- A region that draws: the world behind the draw is a name. -/
theorem go_drawn {id : Nat} {l : List Oper} (hm : P.follows .mixedOrders = true) (heads tails : List Nat) (p : Plan) (hp : planned l heads tails p = true) (h : ∀ w1, Ext w w1 → Go P n R (.dops (Ext w1) l tails p false :: k) E w1) : Go P n R (.code (.region id l.toArray true) :: k) E w :=
  go_draw hm (Ext w.drew) heads tails p hp (Ext.refl _) (h w.drew (Ext.refl w).drew)
end frames

/-! ### A test, parted -/
section tests
variable {P : Program} {n : Nat} {R : Env → World → Prop} {k : List Fr} {E : Env} {w : World} {all rest : List Oper} {d : Nat} {ty : TypeId} {pos : String} {aft : Array Edge} {g : Option (Nat × Bool)} {op : Op} {c : Prop} [Decidable c]
theorem go_test (hy : Yields P E ty op w (.bool (decide c)) w) (hg : wantedE all ⟨some d, op, ty, pos, aft, g⟩ E = true)
    (ht : c → Go P n R (.ops all rest :: k) (upd E d (.bool true)) w) (hf : ¬ c → Go P n R (.ops all rest :: k) (upd E d (.bool false)) w) : Go P n R (.ops all (⟨some d, op, ty, pos, aft, g⟩ :: rest) :: k) E w := by
  refine go_y hy hg ?_
  by_cases h : c
  · rw [decide_eq_true h]; exact ht h
  · rw [decide_eq_false h]; exact hf h
variable {S : World → Prop} {i : Nat} {p : Plan} {tails : List Nat} {t : Bool}
theorem go_dtest (hi : all[i]? = some ⟨some d, op, ty, pos, aft, g⟩) (hy : ∀ w', S w' → Yields P E ty op w' (.bool (decide c)) w') (hg : wantedE all ⟨some d, op, ty, pos, aft, g⟩ E = true)
    (ht : c → Go P n R (.dops S all tails p t :: k) (upd E d (.bool true)) w) (hf : ¬ c → Go P n R (.dops S all tails p t :: k) (upd E d (.bool false)) w) : Go P n R (.dops S all tails (.q i p) t :: k) E w := by
  by_cases h : c
  · exact go_dq hi (v := .bool true) (fun w' hS => by have := hy w' hS; rwa [decide_eq_true h] at this) hg (ht h)
  · exact go_dq hi (v := .bool false) (fun w' hS => by have := hy w' hS; rwa [decide_eq_false h] at this) hg (hf h)
theorem go_dptest (hi : all[i]? = some ⟨some d, op, ty, pos, aft, g⟩) (hy : ∀ w', Yields P E ty op w' (.bool (decide c)) w') (hg : wantedE all ⟨some d, op, ty, pos, aft, g⟩ E = true)
    (ht : c → Go P n R (.dops S all tails p t :: k) (upd E d (.bool true)) w) (hf : ¬ c → Go P n R (.dops S all tails p t :: k) (upd E d (.bool false)) w) : Go P n R (.dops S all tails (.p i p) t :: k) E w := by
  by_cases h : c
  · exact go_dp hi (v := .bool true) (fun w' => by have := hy w'; rwa [decide_eq_true h] at this) hg (ht h)
  · exact go_dp hi (v := .bool false) (fun w' => by have := hy w'; rwa [decide_eq_false h] at this) hg (hf h)
end tests

/-! ### Building a struct out of one-cell parts -/
def placesT (P : Program) (t : TypeId) : Option (List (Nat × Nat)) :=
  match P.underlying t with
  | some (.struct fs) => fs.toList.mapM fun f => (P.info? f.type).map fun i => (f.offset, i.size)
  | _ => none
theorem run_places {P : Program} {w : World} : ∀ (fs : List Field) (pl : List (Nat × Nat)), fs.mapM (fun f => (P.info? f.type).map fun i => (f.offset, i.size)) = some pl →
    (fs.mapM fun f => do pure (f.offset, ← sizeOf f.type) : Sem (List (Nat × Nat))).run P w = .ok pl w
  | [], pl, h => by simp at h; subst h; rfl
  | f :: fs, pl, h => by
    simp only [List.mapM_cons] at h
    cases hi : P.info? f.type with
    | none => simp [hi] at h
    | some i =>
      simp only [hi, Option.map_some, Option.bind_eq_bind, Option.bind_some] at h
      cases hm : fs.mapM (fun f => (P.info? f.type).map fun i => (f.offset, i.size)) with
      | none => rw [hm] at h; simp at h
      | some pl' =>
        rw [hm] at h
        simp at h
        subst h
        have ih := run_places (w := w) fs pl' hm
        rw [List.mapM_cons]
        simp [sizeOf, typeInfo, hi, go_sem]
        simp [sizeOf, typeInfo, go_sem] at ih
        rw [ih]
        rfl

theorem y_build {P : Program} {E : Env} {w : World} {ty : TypeId} {T : TypeId} {parts : List (Nat × Operand)} {z : Value} {pl : List (Nat × Nat)} (cs : Array Value) (hz : zeroT P T = some z) (hp : placesT P T = some pl)
    (hfill : Instr.fill (fun i => pl[i]?) z.cells (parts.map fun x => (x.1, ev E x.2)) = some cs) : Yields P E ty (.build T parts.toArray) w (.agg cs) w := fun _ _ _ _ => by
  unfold zeroT at hz
  unfold placesT at hp
  cases hi : P.info? T with
  | none => simp [hi] at hz
  | some i =>
    simp [hi] at hz
    cases hu : P.underlying T with
    | none => simp [hu] at hp
    | some ds =>
      cases ds <;> simp [hu] at hp
      case struct fs =>
        have hpl := run_places (w := w) fs.toList pl hp
        have hm : (fs.mapM fun f => do pure (f.offset, ← sizeOf f.type) : Sem (Array (Nat × Nat))).run P w = .ok pl.toArray w := by
          rw [Array.mapM_eq_mapM_toList]
          simp at hpl ⊢
          simp [hpl]
        simp only [execOp]
        unfold Instr.build
        simp at hm
        simp [zeroValue, typeInfo, hi, hz, run_underlying hu, hm, hfill]

theorem y_build_arr {P : Program} {E : Env} {w : World} {ty : TypeId} {T e : TypeId} {len sz : Nat} {parts : List (Nat × Operand)} {z : Value} (cs : Array Value) (hz : zeroT P T = some z) (hT : P.underlying T = some (.array len e)) (hs : sizeT P e sz = true)
    (hfill : Instr.fill (fun i => some (i * sz, sz)) z.cells (parts.map fun x => (x.1, ev E x.2)) = some cs) : Yields P E ty (.build T parts.toArray) w (.agg cs) w := fun _ _ _ _ => by
  unfold zeroT at hz
  have h3 := run_sizeOf (P := P) (w := w) hs
  cases hi : P.info? T with
  | none => simp [hi] at hz
  | some i =>
    simp [hi] at hz
    simp only [execOp]
    unfold Instr.build
    simp [zeroValue, typeInfo, hi, hz, run_underlying hT, h3, hfill]

/-! ### An array that is a value -/
theorem y_index_arr {P : Program} {E : Env} {w : World} {ty : TypeId} {T e : TypeId} {x ix : Operand} {len : Nat} {cs : Array Value} {kd : IntKind} {i : Int} {v : Value} (hx : ev E x = .agg cs) (hi : ev E ix = .int kd i) (hT : P.underlying T = some (.array len e)) (he : scalarT P e = true) (hsz : sizeT P e 1 = true)
    (h0 : 0 ≤ i) (h1 : i < len) (hv : cs[i.toNat]? = some v) : Yields P E ty (.index T x ix) w v w := fun _ _ _ _ => by
  have h2 := run_isAgg_scalar (P := P) (w := w) he
  have h3 := run_sizeOf (P := P) (w := w) hsz
  simp [execOp, hx, hi, Instr.index, asIntOf, run_underlying hT, h0, h1, part, h2, h3, hv, go_sem]

/-! ### Slices -/
theorem cell_ext {w w' : World} (hx : Ext w w') {a : Addr} {v : Value} (h : w.cell? a = some v) : w'.cell? a = some v := by
  have hlt : a.block < w.heap.size := block_lt_of_cell h
  rw [hx.cell hlt]; exact h
theorem CellsAt.ext {w w' : World} {a : Addr} {cs : List Value} (h : CellsAt w a cs) (hx : Ext w w') : CellsAt w' a cs := fun j v hv => cell_ext hx (h j v hv)
/-- The slice v reads as the list l; f: the cells of an element; sz: how many. -/
def SlR {α : Type} (w : World) (sz : Nat) (f : α → List Value) (v : Value) (l : List α) : Prop :=
  (∃ a cap, v = .slice a 0 cap ∧ l = []) ∨ ∃ b o cap, v = .slice (some ⟨b, o, none⟩) l.length cap ∧ l.length ≤ cap ∧ ∀ i a, l[i]? = some a → CellsAt w ⟨b, o + i * sz, none⟩ (f a)
theorem SlR.ext {α : Type} {w w' : World} {sz : Nat} {f : α → List Value} {v : Value} {l : List α} (h : SlR w sz f v l) (hx : Ext w w') : SlR w' sz f v l := by
  rcases h with h | ⟨b, o, cap, hv, hc, hh⟩
  · exact .inl h
  · exact .inr ⟨b, o, cap, hv, hc, fun i a hi => (hh i a hi).ext hx⟩
theorem SlR.nil {α : Type} (w : World) (sz : Nat) (f : α → List Value) : SlR w sz f (.slice none 0 0) [] := .inl ⟨_, _, rfl, rfl⟩
theorem SlR.form {α : Type} {w : World} {sz : Nat} {f : α → List Value} {v : Value} {l : List α} (h : SlR w sz f v l) : ∃ a cap, v = .slice a l.length cap := by
  rcases h with ⟨_, _, rfl, rfl⟩ | ⟨b, o, cap, rfl, _⟩
  · exact ⟨_, _, rfl⟩
  · exact ⟨_, _, rfl⟩
section sl
variable {P : Program} {E : Env} {w : World} {ty : TypeId} {α : Type} {sz : Nat} {f : α → List Value} {v : Value} {l : List α}
theorem sliceT_spec {t e : TypeId} {s : Nat} (ht : sliceT P t e s = true) : P.underlying t = some (.slice e) ∧ sizeT P e s = true := by
  unfold sliceT at ht
  simp only [Bool.and_eq_true] at ht
  obtain ⟨ht, h2⟩ := ht
  refine ⟨?_, h2⟩
  split at ht
  · rename_i e' he; simp at ht; subst ht; exact he
  · cases ht
theorem y_len_sl {x : Operand} {t e : TypeId} {s : Nat} (hs : SlR w sz f v l) (hx : ev E x = v) (ht : sliceT P t e s = true) (w' : World) : Yields P E ty (.call ⟨.builtin .len, #[x], #[t]⟩) w' (.int .i64 l.length) w' := by
  obtain ⟨a, cap, rfl⟩ := hs.form
  exact y_len hx ht
/-- The address of an element, and what lies there. -/
theorem y_idx {x ix : Operand} {t e : TypeId} {kd : IntKind} {i : Int} {a : Addr} {len cap : Nat} (hx : ev E x = .slice (some a) len cap) (hi : ev E ix = .int kd i) (ht : sliceT P t e sz = true) (h0 : 0 ≤ i) (h1 : i < len) : Yields P E ty (.indexAddr t x ix) w (.pointer (some (a.add (i.toNat * sz)))) w := fun _ _ _ _ => by
  obtain ⟨hu, hz⟩ := sliceT_spec ht
  have h3 := run_sizeOf (P := P) (w := w) hz
  simp [execOp, hx, hi, Instr.indexAt, asIntOf, run_underlying hu, h0, h1, h3, go_sem]
theorem SlR.at_ {i : Nat} {a : α} (hs : SlR w sz f v l) (hi : l[i]? = some a) : ∃ b o cap, v = .slice (some ⟨b, o, none⟩) l.length cap ∧ CellsAt w ⟨b, o + i * sz, none⟩ (f a) := by
  rcases hs with ⟨_, _, _, rfl⟩ | ⟨b, o, cap, hv, _, hh⟩
  · simp at hi
  · exact ⟨b, o, cap, hv, hh i a hi⟩
end sl

section owned
variable {w w' : World} {base : Nat} {e : TypeId} {sz : Nat} {v : Value} {n : Nat} {xs : List Value}
theorem own_ext (h : w.ownsRow base e sz v n xs) (hx : Ext w w') : w'.ownsRow base e sz v n xs :=
  h.kept (row := none) ⟨hx.os, hx.tape, hx.output, hx.size, fun k hk _ => hx.block k hk⟩ (by cases v.ownBlock <;> simp)
theorem own_form (h : w.ownsRow base e sz v n xs) : ∃ a cap, v = .slice a n cap := by
  rcases h.2 with ⟨rfl, rfl⟩ | ⟨g, cap, cur, rfl, _⟩ <;> exact ⟨_, _, rfl⟩
theorem Blk.grown {b : Nat} {cs : Array Value} {t : TypeId} {row : Option Nat} (h : Blk w b cs t) (hg : w.grownBy w' row) (hne : some b ≠ row) : Blk w' b cs t := (hg.block b h.lt hne).trans h
theorem own_ne (h : w.ownsRow base e sz v n xs) {b : Nat} (hb : b < base) : some b ≠ v.ownBlock := fun hh => by have := (h.lt b hh.symm).1; omega
theorem below_grown {w0 : World} (hx : Ext w0 w) (hg : w.grownBy w' v.ownBlock) (h : w.ownsRow base e sz v n xs) (hb : w0.heap.size ≤ base) : Ext w0 w' :=
  hx.grown hg hx.size (fun k hk => by have := (h.lt k hk).1; omega)
/-- What it owns reads as a list. -/
theorem own_slr {α : Type} {f : α → List Value} {l : List α} (h : w.ownsRow base e sz v l.length (l.flatMap f)) (hf : ∀ a, (f a).length = sz) : SlR w sz f v l := by
  rcases h.2 with ⟨rfl, hn⟩ | ⟨g, cap, cur, rfl, _, hg, hc, _, hcs, htake⟩
  · exact .inl ⟨_, _, rfl, List.eq_nil_of_length_eq_zero hn⟩
  · refine .inr ⟨g, 0, cap, rfl, hc, fun i a hi j u hu => ?_⟩
    rw [add_lit]
    have hlt : i < l.length := (List.getElem?_eq_some_iff.1 hi).1
    have hj : j < sz := by have := (List.getElem?_eq_some_iff.1 hu).1; rw [hf] at this; exact this
    have key : (l.flatMap f)[i * sz + j]? = some u := by
      clear h htake hcs hc hg hlt
      induction l generalizing i with
      | nil => simp at hi
      | cons x l ih =>
        cases i with
        | zero =>
          simp at hi; subst hi
          rw [List.flatMap_cons, List.getElem?_append_left (by rw [hf]; omega)]
          simpa using hu
        | succ i =>
          simp at hi
          rw [List.flatMap_cons, List.getElem?_append_right (by rw [hf, Nat.succ_mul]; omega), hf]
          have : (i + 1) * sz + j - sz = i * sz + j := by rw [Nat.succ_mul]; omega
          rw [this]
          exact ih i hi
    rw [← htake] at key
    have hk2 : cur.toList[i * sz + j]? = some u := by
      rw [List.getElem?_take] at key
      split at key
      · exact key
      · cases key
    simp only [World.cell?, hg, Nat.zero_add]
    simpa using hk2
end owned

section frames2
variable {P : Program} {n : Nat} {R : Env → World → Prop} {k : List Fr} {E : Env} {w : World} {all rest : List Oper} {d : Nat} {ty : TypeId} {pos : String} {aft : Array Edge} {g : Option (Nat × Bool)}
/-- The literal of a slice. -/
theorem y_buildSlice {T e : TypeId} {sz len : Nat} {parts : List (Nat × Operand)} {z : Value} (cs : Array Value) (ht : sliceT P T e sz = true) (hz : zeroT P e = some z) (hlen : len * sz ≤ 16777216)
    (hfill : Instr.fill (fun i => some (i * sz, sz)) ((Array.range (len * sz)).map (z.cells[· % z.cells.size]!)) (parts.map fun x => (x.1, ev E x.2)) = some cs) (h0 : len * sz ≠ 0) :
    Yields P E ty (.buildSlice T len parts.toArray) w (.slice (some ⟨w.heap.size, 0, none⟩) len len) (w.alloc (.cells cs e)) := fun _ _ _ _ => by
  obtain ⟨hu, hs⟩ := sliceT_spec ht
  unfold zeroT at hz
  have h3 := run_sizeOf (P := P) (w := w) hs
  cases hi : P.info? e with
  | none => simp [hi] at hz
  | some i =>
    simp [hi] at hz
    have hn : ¬ (16777216 < len * sz) := by omega
    simp only [execOp]
    unfold Instr.buildSlice
    simp [run_underlying hu, h3, hn, h0, zeroValue, typeInfo, hi, hz, hfill, newRow]
theorem go_buildSlice {T e : TypeId} {sz len : Nat} {parts : List (Nat × Operand)} {z : Value} (cs : Array Value) (ht : sliceT P T e sz = true) (hz : zeroT P e = some z) (hlen : len * sz ≤ 16777216)
    (hfill : Instr.fill (fun i => some (i * sz, sz)) ((Array.range (len * sz)).map (z.cells[· % z.cells.size]!)) (parts.map fun x => (x.1, ev E x.2)) = some cs) (h0 : len * sz ≠ 0)
    (hg : wantedE all ⟨some d, .buildSlice T len parts.toArray, ty, pos, aft, g⟩ E = true)
    (h : ∀ w1 b, Ext w w1 → w.heap.size ≤ b → Blk w1 b cs e → Go P n R (.ops all rest :: k) (upd E d (.slice (some ⟨b, 0, none⟩) len len)) w1) :
    Go P n R (.ops all (⟨some d, .buildSlice T len parts.toArray, ty, pos, aft, g⟩ :: rest) :: k) E w :=
  go_y (y_buildSlice cs ht hz hlen hfill h0) hg (h _ _ (Ext.alloc w _) (Nat.le_refl _) (blk_alloc w _ _))
def infoT (P : Program) (e : TypeId) (z : Value) (sz bytes : Nat) : Prop := ∃ i, P.info? e = some i ∧ i.zero = some z ∧ i.size = sz ∧ i.bytes = bytes
theorem infoT_mk {e : TypeId} {z : Value} {sz bytes : Nat} (h : (P.info? e).map (fun i => (i.zero, i.size, i.bytes)) = some (some z, sz, bytes)) : infoT P e z sz bytes := by
  cases hi : P.info? e with
  | none => simp [hi] at h
  | some i => simp [hi] at h; exact ⟨i, hi, h.1, h.2.1, h.2.2⟩
/-- append of m elements that lie at a. -/
theorem go_append {s x : Operand} {t e : TypeId} {base sz bytes m c len : Nat} {z v : Value} {xs news : List Value} {a : Addr} (hs : ev E s = v) (hx : ev E x = .slice (some a) m c) (own : w.ownsRow base e sz v len xs)
    (ht : P.underlying t = some (.slice e)) (hi : infoT P e z sz bytes) (hzs : z.cells.size = sz) (hsz : 0 < sz) (hl : news.length = m * sz) (hn : CellsAt w a news) (h1 : ∀ u ∈ news, u.oneCell' = true)
    (h63 : len + m ≤ maxLen) (hb : (len + m) * bytes ≤ 140737488355328) (hbase : base ≤ w.heap.size)
    (hg : wantedE all ⟨some d, .call ⟨.builtin .append, #[s, x], #[t, t]⟩, ty, pos, aft, g⟩ E = true)
    (h : ∀ v' w1, w1.ownsRow base e sz v' (len + m) (xs ++ news) → w.grownBy w1 v.ownBlock → Go P n R (.ops all rest :: k) (upd E d v') w1) :
    Go P n R (.ops all (⟨some d, .call ⟨.builtin .append, #[s, x], #[t, t]⟩, ty, pos, aft, g⟩ :: rest) :: k) E w := by
  obtain ⟨i, hi1, hi2, hi3, hi4⟩ := hi
  obtain ⟨v', w1, hrun, hown, hgr, _⟩ := run_append_own (P := P) w base t ty e i z sz bytes ht hi1 hi2 hi3 hi4 hzs hsz v len xs own a m c news hl hn h1 h63 hb hbase
  refine go_y (v := v') (w' := w1) (fun _ _ _ _ => ?_) hg (h v' w1 hown hgr)
  simp [execOp, resolve, invoke, builtin, hs, hx, hrun]
/-- make([]T, 0, c) -/
theorem go_make {t e : TypeId} {lo co : Operand} {base sz bytes c : Nat} {z : Value} {ci : Int} (hl : ev E lo = .int .i64 0) (hc : ev E co = .int .i64 ci) (hci : ci = (c : Int)) (ht : P.underlying t = some (.slice e)) (hi : infoT P e z sz bytes) (hb : bytes * c ≤ 281474976710656) (h63 : c ≤ maxLen) (hbase : base ≤ w.heap.size)
    (hg : wantedE all ⟨some d, .makeSlice t lo co, ty, pos, aft, g⟩ E = true)
    (h : ∀ v' w1, w1.ownsRow base e sz v' 0 [] → Ext w w1 → Go P n R (.ops all rest :: k) (upd E d v') w1) :
    Go P n R (.ops all (⟨some d, .makeSlice t lo co, ty, pos, aft, g⟩ :: rest) :: k) E w := by
  subst hci
  obtain ⟨i, hi1, hi2, hi3, hi4⟩ := hi
  obtain ⟨w1, hrun, hown, hgr⟩ := run_make_own (P := P) w base t e i z sz ht hi1 hi2 hi3 .i64 .i64 c (by rw [hi4]; exact hb) h63 hbase
  refine go_y (w' := w1) (fun _ _ _ _ => ?_) hg (h _ w1 hown ⟨hgr.os, hgr.tape, hgr.output, hgr.size, fun k hk => hgr.block k hk (by simp)⟩)
  simp [execOp, hl, hc, hrun]
/-- a store into a box of the call's own -/
def Chg (b : Nat) (w w' : World) : Prop := w'.os = w.os ∧ w'.tape = w.tape ∧ w'.output = w.output ∧ w'.heap.size = w.heap.size ∧ ∀ k, k ≠ b → w'.heap[k]? = w.heap[k]?
theorem Blk.chg {w w' : World} {b b' : Nat} {cs : Array Value} {t : TypeId} (h : Blk w b cs t) (hc : Chg b' w w') (hne : b ≠ b') : Blk w' b cs t := (hc.2.2.2.2 b hne).trans h
theorem Ext.chg {w0 w w' : World} {b : Nat} (h : Ext w0 w) (hc : Chg b w w') (hb : w0.heap.size ≤ b) : Ext w0 w' :=
  ⟨hc.1.trans h.os, hc.2.1.trans h.tape, hc.2.2.1.trans h.output, by rw [hc.2.2.2.1]; exact h.size, fun k hk => (hc.2.2.2.2 k (by omega)).trans (h.block k hk)⟩
theorem cell_chg {w w' : World} {b : Nat} (hc : Chg b w w') {a : Addr} (hne : a.block ≠ b) : w'.cell? a = w.cell? a := World.cell?_of_block (w := w) (hc.2.2.2.2 _ hne)
theorem own_chg {w w' : World} {b base e sz n : Nat} {v : Value} {xs : List Value} (h : w.ownsRow base e sz v n xs) (hc : Chg b w w') (hne : some b ≠ v.ownBlock) : w'.ownsRow base e sz v n xs :=
  h.kept (row := some b) ⟨hc.1, hc.2.1, hc.2.2.1, by rw [hc.2.2.2.1]; exact Nat.le_refl _, fun k _ hk => hc.2.2.2.2 k (fun e => hk (by rw [e]))⟩ (.inr (Ne.symm hne))
theorem s_store {T tb : TypeId} {x y : Operand} {b o s : Nat} {cs : Array Value} {v : Value} (vs : List Value) (hx : ev E x = .pointer (some ⟨b, o, none⟩)) (hy : ev E y = v) (hvs : v.cells.toList = vs) (hs : sizeT P T s = true) (hl : vs.length = s) (hb : Blk w b cs tb) (hfit : o + vs.length ≤ cs.size) (h1 : ∀ u ∈ vs, u.oneCell' = true) :
    Skips P E ty (.store T x y) w (w.setRow b (cs.toList.take o ++ vs ++ cs.toList.drop (o + vs.length)).toArray) := fun _ _ _ _ => by
  have h2 := run_sizeOf (P := P) (w := w) hs
  have h3 := run_storeCells_at P b o tb vs 0 cs w hb (by simpa using hfit) h1
  have h4 : v.cells.size = s := by rw [← hl, ← hvs]; simp
  simp only [Nat.add_zero] at h3
  subst hy
  simp [execOp, hx, Instr.storeAt, Instr.sureAddr, storeVar, h2, h4, hvs, h3]
theorem go_store {T tb : TypeId} {x y : Operand} {b o s : Nat} {cs : Array Value} {v : Value} (vs : List Value) (cs' : Array Value) (hx : ev E x = .pointer (some ⟨b, o, none⟩)) (hy : ev E y = v) (hvs : v.cells.toList = vs) (hs : sizeT P T s = true) (hl : vs.length = s) (hb : Blk w b cs tb) (hfit : o + vs.length ≤ cs.size) (h1 : ∀ u ∈ vs, u.oneCell' = true)
    (hcs : (cs.toList.take o ++ vs ++ cs.toList.drop (o + vs.length)).toArray = cs')
    (hg : wantedE all ⟨none, .store T x y, ty, pos, aft, g⟩ E = true)
    (h : ∀ w1, Chg b w w1 → Blk w1 b cs' tb → Go P n R (.ops all rest :: k) E w1) :
    Go P n R (.ops all (⟨none, .store T x y, ty, pos, aft, g⟩ :: rest) :: k) E w := by
  subst hcs
  exact go_s (s_store vs hx hy hvs hs hl hb hfit h1) hg (h _ ⟨rfl, rfl, rfl, by simp, fun k hk => setRow_other w b k _ hk⟩ (setRow_heap w b cs _ tb _ hb))
end frames2
end Go.Gw
