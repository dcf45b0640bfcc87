/- Arguments that the row's reader reads are values of the verifier's types. -/
import Derived.Test.YtedfiemhfpcggaaVc20
import Derived.Test.YtedfiemhfpcggaaGwLaw
namespace Go.Vc
open Go Go.RowKit Go.Gw Go.ChangeShapes Go.WideShapes Go.ChangeAt
def isTy (P : Program) : Nat → TypeId → Ty → Bool
  | 0, _, _ => false
  | n + 1, T, ty => match P.underlying T with
    | some (.int k) => (match ty with | .int k' => decide (k = k') | _ => false)
    | some .bool => (match ty with | .bool => true | _ => false)
    | some .string => (match ty with | .str => true | _ => false)
    | some (.slice e) => (match ty with | .sl t => isTy P n e t && Nat.beq (P.cellsOf e) t.size && Nat.ble 1 t.size | _ => false)
    | some (.struct fs) => isFs P (isTy P n) fs.toList 0 ty && Nat.beq (P.cellsOf T) ty.size
    | _ => false
section
variable {H : Type} {α : Type} {enc : TypeId × Value → H} {P : Program} {W : World}
theorem cells?_at {base : Nat} {a : Addr} {n : Nat} {cs : List Value} (h : W.cells? base a n = some cs) : cs.length = n ∧ CellsAt W a cs := by
  obtain ⟨_, hl, hc⟩ := World.cells?_some h
  exact ⟨hl, fun j v hj => by have := hc j (by have := el_lt hj; omega); rw [this]; exact hj⟩
theorem spot_none {a : Addr} {v : Value} (h : W.cell? a = some v) : a.spot = none := by
  unfold World.cell? at h
  split at h
  · cases hs : a.spot with
    | none => rfl
    | some _ => simp [hs] at h
  · cases h
/-- Elements, one after the other. -/
theorem elems_each {R : List Value → α → Prop} {b o sz : Nat} : ∀ (len : Nat), (∀ i, i < len → ∃ ec y, ec.length = sz ∧ CellsAt W ⟨b, o + i * sz, none⟩ ec ∧ R ec y) → ∃ ec l, l.length = len ∧ ec.length = len * sz ∧ CellsAt W ⟨b, o, none⟩ ec ∧ Each R ec l
  | 0, _ => ⟨[], [], rfl, by simp, fun j v hj => by simp at hj, rfl⟩
  | len + 1, h => by
    obtain ⟨ec, l, h1, h2, h3, h4⟩ := elems_each (R := R) (b := b) (o := o) (sz := sz) len (fun i hi => h i (by omega))
    obtain ⟨ec', y, g1, g2, g3⟩ := h len (by omega)
    refine ⟨ec ++ ec', l ++ [y], by simp [h1], by rw [List.length_append, h2, g1, Nat.succ_mul], fun j v hj => ?_, h4.append ⟨ec', [], by simp, g3, rfl⟩⟩
    rw [List.getElem?_append] at hj
    split at hj
    · exact h3 j v hj
    · rename_i hlt
      have := g2 _ v hj
      rw [add_lit] at this ⊢
      rw [h2] at this hlt
      rw [show o + len * sz + (j - len * sz) = o + j from by omega] at this
      exact this
theorem isFs_ok {n : Nat} {r : TypeId → Ty → Bool} {Z : Nat → Prop} {cs : List Value} (hr : ∀ {T : TypeId} {ty : Ty} {cs : List Value} {x : DataW H × List MemPlace}, r T ty = true → DataW.trod enc P W 0 (fun _ => true) true n T cs = some x → ∃ y, Rep ty W Z cs y) :
    ∀ {fs : List Field} {off : Nat} {ty : Ty}, isFs P r fs off ty = true → (∀ f ∈ fs, ∃ x, DataW.trod enc P W 0 (fun _ => true) true n f.type ((cs.drop f.offset).take (P.cellsOf f.type)) = some x) → cs.length = off + ty.size → ∃ y, Rep ty W Z (cs.drop off) y
  | [], off, ty, h, hx, hl => by
    cases ty <;> simp [isFs] at h
    exact ⟨(), by rw [List.drop_of_length_le (by simp [Ty.size] at hl; omega)]; rfl⟩
  | [f], off, ty, h, hx, hl => by
    have h' : (Nat.beq f.offset off && r f.type ty && Nat.beq (P.cellsOf f.type) ty.size) = true := by cases ty <;> exact h
    simp only [Bool.and_eq_true] at h'
    obtain ⟨x, hx⟩ := hx f (by simp)
    obtain ⟨y, hy⟩ := hr h'.1.2 hx
    rw [Nat.eq_of_beq_eq_true h'.1.1, Nat.eq_of_beq_eq_true h'.2, List.take_of_length_le (by rw [List.length_drop]; omega)] at hy
    exact ⟨y, hy⟩
  | f :: g :: fs, off, ty, h, hx, hl => by
    cases ty <;> simp only [isFs] at h <;> try cases h
    rename_i a b
    simp only [Bool.and_eq_true] at h
    obtain ⟨⟨⟨h1, h2⟩, h3⟩, h4⟩ := h
    obtain ⟨x, hx1⟩ := hx f (by simp)
    obtain ⟨y, hy⟩ := hr h2 hx1
    rw [Nat.eq_of_beq_eq_true h1, Nat.eq_of_beq_eq_true h3] at hy
    obtain ⟨z, hz⟩ := isFs_ok hr h4 (fun q hq => hx q (List.mem_cons_of_mem _ hq)) (by rw [hl]; simp only [Ty.size]; omega)
    exact ⟨(y, z), (cs.drop off).take a.size, cs.drop (off + a.size), by rw [← List.drop_drop, List.take_append_drop], hy, hz⟩
theorem open_ty : ∀ {m n : Nat} {T : TypeId} {ty : Ty} {cs : List Value} {x : DataW H × List MemPlace}, isTy P m T ty = true → DataW.trod enc P W 0 (fun _ => true) true n T cs = some x → ∃ y, Rep ty W (fun b => b < W.heap.size) cs y
  | 0, _, _, _, _, _, h, _ => by cases h
  | m + 1, n, T, ty, cs, x, h, hx => by
    simp only [isTy] at h
    split at h
    · rename_i k hu
      cases ty <;> simp only at h <;> try cases h
      rename_i k'
      have := of_decide_eq_true h
      subst this
      obtain ⟨z, e, _, hw⟩ := DataW.trod_int hu hx
      exact ⟨z, e, by simp only [Lit.wf, Bool.and_eq_true, decide_eq_true_eq] at hw; exact hw⟩
    · rename_i hu
      cases ty <;> simp only at h <;> try cases h
      obtain ⟨b, e, _⟩ := DataW.trod_bool hu hx
      exact ⟨b, e⟩
    · rename_i hu
      cases ty <;> simp only at h <;> try cases h
      obtain ⟨s, e, _⟩ := DataW.trod_string hu hx
      exact ⟨s, e⟩
    · rename_i e hu
      cases ty <;> simp only at h <;> try cases h
      rename_i t
      simp only [Bool.and_eq_true] at h
      have hsz := Nat.eq_of_beq_eq_true h.1.2
      rcases DataW.trod_slice hu hx with ⟨hc, _⟩ | ⟨a, len, cap, elems, rest, q, hq, hc, _, _, hlc, hcm, hel, hget, _⟩
      · exact ⟨[], none, 0, hc, Nat.le_refl _, Nat.zero_le _, fun _ => rfl, .inl rfl⟩
      · by_cases h0 : len = 0
        · subst h0
          exact ⟨[], some a, cap, hc, Nat.zero_le _, hcm, fun hh => (by cases hh), .inl rfl⟩
        · have hone : ∀ i, i < len → ∃ ec y, ec.length = t.size ∧ CellsAt W (a.add (i * t.size)) ec ∧ Rep t W (fun b => b < W.heap.size) ec y := fun i hi => by
            have h1 := hget i hi
            rw [List.getElem?_eq_getElem (by omega), hsz] at h1
            obtain ⟨ec, hec, hx2⟩ := Option.bind_eq_some_iff.1 h1
            obtain ⟨g1, g2⟩ := cells?_at hec
            obtain ⟨y, hy⟩ := open_ty (m := m) h.1.1 hx2
            exact ⟨ec, y, g1, g2, hy⟩
          obtain ⟨e0, y0, g1, g2, _⟩ := hone 0 (by omega)
          have hs1 := Nat.le_of_ble_eq_true h.2
          obtain ⟨v0, hv0⟩ := el_some (l := e0) (i := 0) (by omega)
          have hcell := g2 0 v0 hv0
          have ha0 : (a.add (0 * t.size)).add 0 = a := by simp [Addr.add]
          rw [ha0] at hcell
          have hsp := spot_none hcell
          obtain ⟨b, o, sp⟩ := a
          simp only at hsp
          subst hsp
          have hb : b < W.heap.size := block_lt_of_cell hcell
          obtain ⟨ec, l, k1, _, k3, k4⟩ := elems_each (R := Rep t W (fun b => b < W.heap.size)) (b := b) (o := o) (sz := t.size) len (fun i hi => by
            obtain ⟨ec, y, q1, q2, q3⟩ := hone i hi
            rw [add_lit] at q2
            exact ⟨ec, y, q1, q2, q3⟩)
          exact ⟨l, some ⟨b, o, none⟩, cap, by rw [hc, k1], by omega, hcm, fun hh => (by cases hh), .inr ⟨b, o, ec, rfl, hb, k3, k4⟩⟩
    · rename_i fs hu
      simp only [Bool.and_eq_true] at h
      obtain ⟨xs, q, hq, _, hl, hxl, hf⟩ := DataW.trod_struct hu hx
      have := isFs_ok (enc := enc) (P := P) (W := W) (n := q) (Z := fun b => b < W.heap.size) (cs := cs) (fun hh hx => open_ty (m := m) hh hx) h.1 (fun f hf' => by
        obtain ⟨i, hi, he⟩ := List.getElem_of_mem hf'
        have hi' : i < fs.size := by simpa using hi
        have h1 := hf i f (by rw [Array.getElem?_eq_getElem hi']; simpa using he)
        rw [List.getElem?_eq_getElem (by omega)] at h1
        exact ⟨_, h1⟩) (by rw [hl, Nat.eq_of_beq_eq_true h.2]; omega)
      simpa using this
    · cases h
end
end Go.Vc
