/- The operations that only compute or read. -/
import Derived.Test.YtedfiemhfpcggaaVc4
namespace Go.Vc
open Go Go.RowKit Go.Gw

structure Cx where
  P : Program
  tys : List (Nat × TI)
def findO {α : Type} (s : Nat) : List (Nat × α) → Option α
  | [] => none
  | (t, x) :: l => bif Nat.beq t s then some x else findO s l
def Cx.ti (cx : Cx) (T : TypeId) : Option TI := findO T cx.tys
def tysOk (P : Program) : List (Nat × TI) → Bool
  | [] => true
  | (T, ti) :: l => tyOk P T ti && tysOk P l
theorem tysOk_spec {P : Program} : ∀ {l : List (Nat × TI)}, tysOk P l = true → ∀ {T : TypeId} {ti : TI}, findO T l = some ti → tyOk P T ti = true
  | (T', ti') :: l, h, T, ti, hf => by
    simp only [tysOk, Bool.and_eq_true] at h
    simp only [findO] at hf
    cases hb : Nat.beq T' T with
    | true => simp [hb] at hf; have := Nat.eq_of_beq_eq_true hb; subst hf this; exact h.1
    | false => simp [hb] at hf; exact tysOk_spec h.2 hf

def c1 : SV → Option C
  | ⟨false, [c]⟩ => some c
  | _ => none
def faC (off : Nat) : C → Option C
  | .box k o => some (.box k (o + off))
  | .elp k sz i o => some (.elp k sz i (o + off))
  | .pf t x o => some (.pf t x (o + off))
  | _ => none
/-- cells off .. off + n - 1 -/
def cut (off n : Nat) (cs : List C) : Option (List C) := (fun s => bif Nat.beq s.length n then some s else none) ((cs.drop off).take n)
def loadC (st : St) (n : Nat) : C → Option (List C)
  | .box k off => match st.L k with
    | .box _ cs => cut off n cs
    | _ => none
  | .pf t x off => cut off n (explode t x)
  | .elp k sz i off => match st.L k with
    | .row t _ l => bif Nat.beq sz t.size then cut off n (explode t (l.getD i t.dflt)) else none
    | _ => none
  | _ => none
/-- element i of a list, by an int -/
def gx {α : Type} (d : α) (l : List α) (i : Int) : α := l.getD i.toNat d
def idxC (st : St) (i : Int) : C → Option (Option Prop × C)
  | .val (.sl t) l => some (some (0 ≤ i ∧ i < (l.length : Int)), .pf t (gx t.dflt l i) 0)
  | .row k => match st.L k with
    | .row t _ l => some (some (0 ≤ i ∧ i < (l.length : Int)), .elp k t.size i.toNat 0)
    | _ => none
  | _ => none
def lenC (st : St) : C → Option Int
  | .val (.sl _) l => some (l.length : Int)
  | .row k => match st.L k with
    | .row _ _ l => some (l.length : Int)
    | _ => none
  | .mp k => match st.L k with
    | .map _ _ _ _ es => some (es.length : Int)
    | _ => none
  | .raw (.slice none 0 0) => some 0
  | _ => none
def intC : SV → Option Int
  | ⟨false, [.val (.int _) n]⟩ => some n
  | _ => none
def sliceC (lo hi : Option Int) : C → Option (Option Prop × C)
  | .val (.sl t) l => some (some (0 ≤ lo.getD 0 ∧ lo.getD 0 ≤ hi.getD (l.length : Int) ∧ hi.getD (l.length : Int) ≤ (l.length : Int)), .val (.sl t) ((l.take (hi.getD (l.length : Int)).toNat).drop (lo.getD 0).toNat))
  | _ => none

/-- Does it read memory? -/
def memB : Op → Bool
  | .load _ _ => true
  | .lookup _ _ _ _ => true
  | _ => false
section
variable {za : Zn} {w0 w : World} {Z : Nat → Prop} {B : Nat → Value} {st : St} {E : Env} {P : Program}
/-- The operation yields a value that d tells, in every world that has the blocks of this one. -/
def POk (P : Program) (st : St) (E : Env) (w : World) (Z : Nat → Prop) (B : Nat → Value) (ty : TypeId) (op : Op) (d : DV) : Prop :=
  ∃ v, (∀ w', (memB op = true → Ext w w') → Gw.Yields P E ty op w' v w') ∧ (∀ E', RD w Z B E' d v) ∧ refD st.nx d
theorem pok1 {ty : TypeId} {op : Op} {c : C} {v : Value} (hy : ∀ w', (memB op = true → Ext w w') → Gw.Yields P E ty op w' v w') (hc : RC w Z B c v) (hr : refC st.nx c) : POk P st E w Z B ty op (.one ⟨false, [c]⟩) :=
  ⟨v, hy, fun _ => ⟨v, [], rfl, hc, rfl⟩, fun c' hc' => by simp at hc'; subst hc'; exact hr⟩
theorem c1_ok {s : SV} {c : C} {v : Value} (h : RS w Z B s v) (hr : refS st.nx s) (hc : c1 s = some c) : RC w Z B c v ∧ refC st.nx c := by
  unfold c1 at hc
  split at hc
  · cases hc
    obtain ⟨_, _, e, h1, _⟩ := h
    cases e
    exact ⟨h1, hr _ (by simp)⟩
  · cases hc
theorem intC_ok {s : SV} {n : Int} {v : Value} (h : RS w Z B s v) (hc : intC s = some n) : ∃ k, v = .int k n ∧ inR k n := by
  unfold intC at hc
  split at hc
  · cases hc
    obtain ⟨_, _, e, h1, _⟩ := h
    cases e
    obtain ⟨h1, h2⟩ := h1
    simp only [List.cons.injEq, and_true] at h1
    exact ⟨_, h1, h2⟩
  · cases hc
theorem fa_ok {T ty : TypeId} {x : Operand} {c c' : C} {f off : Nat} (hf : fieldT P T f off = true) (hx : RC w Z B c (Gw.ev E x)) (hr : refC st.nx c) (h : faC off c = some c') : POk P st E w Z B ty (.fieldAddr T x f) (.one ⟨false, [c']⟩) := by
  unfold faC at h
  split at h <;> cases h
  · obtain ⟨b, e, hv⟩ := hx
    exact pok1 (fun w' _ => y_fieldAddr hv hf) ⟨b, e, rfl⟩ hr
  · obtain ⟨b, m, cap, e, hi, hv⟩ := hx
    exact pok1 (fun w' _ => y_fieldAddr hv hf) ⟨b, m, cap, e, hi, by rw [Nat.add_assoc]⟩ hr
  · obtain ⟨b, o, ec, e, hz, hc, hx⟩ := hx
    exact pok1 (fun w' _ => y_fieldAddr e hf) ⟨b, o, ec, by rw [Nat.add_assoc], hz, hc, hx⟩ hr
theorem cut_ok {cs cs' : List C} {vs : List Value} {off n : Nat} (h : RCs w Z B cs vs) (hc : cut off n cs = some cs') : RCs w Z B cs' ((vs.drop off).take n) ∧ ((vs.drop off).take n).length = n ∧ ∀ c ∈ cs', c ∈ cs := by
  unfold cut at hc
  have h1 := (h.drop off).take n
  cases hb : Nat.beq ((cs.drop off).take n).length n with
  | false => simp only [hb, cond_false] at hc; cases hc
  | true =>
    simp only [hb, cond_true, Option.some.injEq] at hc
    subst hc
    exact ⟨h1, by rw [← h1.len]; exact Nat.eq_of_beq_eq_true hb, fun c hc => List.mem_of_mem_drop (List.mem_of_mem_take hc)⟩
theorem load_val {T ty : TypeId} {x : Operand} {b o : Nat} {cs : List C} {vs : List Value} {agg : Bool} (hv : Gw.ev E x = .pointer (some ⟨b, o, none⟩)) (hb : b < w.heap.size) (hc : CellsAt w ⟨b, o, none⟩ vs) (hr : RCs w Z B cs vs) (hn : ∀ c ∈ cs, refC st.nx c)
    (ht : (agg = true ∧ aggT P T vs.length = true) ∨ (agg = false ∧ scalarT P T = true ∧ vs.length = 1)) : POk P st E w Z B ty (.load T x) (.one ⟨agg, cs⟩) := by
  have hc' : ∀ w', Ext w w' → CellsAt w' ⟨b, o, none⟩ vs := fun w' hx j v hj => by
    have := hc j v hj
    rw [add_lit] at this ⊢
    rw [← this]
    exact World.cell?_of_block (hx.block b hb)
  rcases ht with ⟨rfl, ht⟩ | ⟨rfl, ht, hl⟩
  · exact ⟨.agg vs.toArray, fun w' hx => y_load_agg hv ht rfl (hc' w' (hx rfl)), fun _ => ⟨vs, rfl, hr⟩, hn⟩
  · match vs, hl with
    | [v], _ =>
      refine ⟨v, fun w' hx => y_load hv ht ?_, fun _ => hr, hn⟩
      have := hc' w' (hx rfl) 0 v rfl
      rwa [add_lit] at this
theorem load_ok (h : Rel za w0 st E w Z B) {T ty : TypeId} {x : Operand} {c : C} {cs : List C} {n : Nat} {agg : Bool} (hx : RC w Z B c (Gw.ev E x)) (hl : loadC st n c = some cs)
    (ht : (agg = true ∧ aggT P T n = true) ∨ (agg = false ∧ scalarT P T = true ∧ n = 1)) : POk P st E w Z B ty (.load T x) (.one ⟨agg, cs⟩) := by
  unfold loadC at hl
  split at hl
  · rename_i k off
    split at hl
    · rename_i ty' cs0 hk
      have hL := h.locs k
      have hR := h.refl k
      rw [hk] at hL hR
      obtain ⟨b, vs, e, _, _, hblk, hcs⟩ := hL
      obtain ⟨b', e', hv⟩ := hx
      rw [e] at e'; cases e'
      obtain ⟨h1, h2, h3⟩ := cut_ok hcs hl
      have := cells_sub hblk.cellsAt off n
      rw [Nat.zero_add] at this
      exact load_val hv hblk.lt this h1 (fun c hc => hR c (h3 c hc)) (by rw [h2]; exact ht)
    · cases hl
  · rename_i t y off
    obtain ⟨b, o, ec, hv, hz, hc, hrep⟩ := hx
    obtain ⟨h1, h2, h3⟩ := cut_ok (explode_ok (B := B) hrep) hl
    exact load_val hv (h.zlt b hz) (cells_sub hc off n) h1 (fun c hc => explode_ref c (h3 c hc)) (by rw [h2]; exact ht)
  · rename_i k sz i off
    split at hl
    · rename_i t e l hk
      cases hsz : Nat.beq sz t.size with
      | false => simp [hsz] at hl
      | true =>
        simp only [hsz, cond_true] at hl
        have hs := Nat.eq_of_beq_eq_true hsz
        subst hs
        have hL := h.locs k
        rw [hk] at hL
        obtain ⟨xs, hown, heach, _⟩ := hL
        obtain ⟨b, m, cap, hB, hi, hv⟩ := hx
        rw [hB] at hown
        have hm : m = l.length := by
          rcases hown.2 with ⟨hh, _⟩ | ⟨_, _, _, hh, _⟩ <;> cases hh
          rfl
        subst hm
        have hget := Each.get (fun _ _ h => Rep.length h) heach (List.getElem?_eq_getElem hi)
        have hgd : l.getD i t.dflt = l[i] := by rw [List.getD_eq_getElem?_getD, List.getElem?_eq_getElem hi]; rfl
        rw [hgd] at hl
        obtain ⟨h1, h2, h3⟩ := cut_ok (explode_ok (B := B) hget) hl
        have hblt := (World.ownsRow.lt hown b rfl).2
        have hcells : CellsAt w ⟨b, 0, none⟩ xs := fun j v hj => by
          rcases hown.2 with ⟨hh, _⟩ | ⟨g, cap', cur, hh, _, hg, _, _, _, htk⟩
          · cases hh
          · cases hh
            rw [add_lit, Nat.zero_add]
            simp only [World.cell?, hg]
            rw [← htk, List.getElem?_take] at hj
            split at hj
            · simpa using hj
            · cases hj
        have hsub := cells_sub (cells_sub hcells (i * t.size) t.size) off n
        rw [Nat.zero_add] at hsub
        exact load_val hv hblt hsub h1 (fun c hc => explode_ref c (h3 c hc)) (by rw [h2]; exact ht)
    · cases hl
  · cases hl
theorem gx_get {α : Type} {d : α} {l : List α} {i : Int} (h0 : 0 ≤ i) (h1 : i < (l.length : Int)) : l[i.toNat]? = some (gx d l i) := by
  have hlt : i.toNat < l.length := by omega
  rw [gx, List.getD_eq_getElem?_getD, List.getElem?_eq_getElem hlt]; rfl
theorem idx_ok (h : Rel za w0 st E w Z B) {T ty e : TypeId} {x ix : Operand} {c c' : C} {i : Int} {φ : Option Prop} {kd : IntKind} (hx : RC w Z B c (Gw.ev E x)) (hi : Gw.ev E ix = .int kd i) (hc : idxC st i c = some (φ, c')) (hφ : okP φ)
    (hT : ∀ s, (∃ t y, c' = .pf t y 0 ∧ s = t.size) ∨ (∃ k j, c' = .elp k s j 0) → sliceT P T e s = true) (hr : refC st.nx c) : POk P st E w Z B ty (.indexAddr T x ix) (.one ⟨false, [c']⟩) := by
  unfold idxC at hc
  split at hc
  · rename_i t l
    cases hc
    obtain ⟨h0, h1⟩ := hφ
    have hsl := hT t.size (.inl ⟨t, _, rfl, rfl⟩)
    obtain ⟨a, cap, he, hcap, hmx, hnn, hh⟩ := hx
    simp only [List.cons.injEq, and_true] at he
    have hg := gx_get (d := t.dflt) h0 h1
    rcases hh with hh | ⟨b, o, ec, ha, hz, hcells, heach⟩
    · subst hh; simp at h1; omega
    · subst ha
      have hget := Each.get (fun _ _ h => Rep.length h) heach hg
      refine pok1 (v := .pointer (some ⟨b, o + i.toNat * t.size + 0, none⟩)) (fun w' _ => ?_) ⟨b, o + i.toNat * t.size, _, rfl, hz, cells_sub hcells _ t.size, hget⟩ trivial
      have := y_idx (P := P) (w := w') (ty := ty) (sz := t.size) he hi hsl h0 h1
      rwa [add_lit] at this
  · rename_i k
    split at hc
    · rename_i t e' l hk
      cases hc
      obtain ⟨h0, h1⟩ := hφ
      have hsl := hT t.size (.inr ⟨_, _, rfl⟩)
      have hL := h.locs k
      rw [hk] at hL
      obtain ⟨xs, hown, _, _⟩ := hL
      rcases hown.2 with ⟨_, hn⟩ | ⟨g, cap, cur, hB, _⟩
      · rw [hn] at h1; omega
      · have hxv : Gw.ev E x = .slice (some ⟨g, 0, none⟩) l.length cap := (show Gw.ev E x = B k from hx).trans hB
        refine pok1 (v := .pointer (some ⟨g, i.toNat * t.size + 0, none⟩)) (fun w' _ => ?_) ⟨g, l.length, cap, hB, by omega, rfl⟩ hr
        have := y_idx (P := P) (w := w') (ty := ty) (sz := t.size) hxv hi hsl h0 h1
        rwa [add_lit, Nat.zero_add] at this
    · cases hc
  · cases hc
theorem len_ok (h : Rel za w0 st E w Z B) {T ty e : TypeId} {s : Nat} {x : Operand} {c : C} {n : Int} (hx : RC w Z B c (Gw.ev E x)) (hn : lenC st c = some n) (ht : sliceT P T e s = true) (hnm : ∀ k, c ≠ .mp k) :
    POk P st E w Z B ty (.call ⟨.builtin .len, #[x], #[T]⟩) (.one ⟨false, [.val (.int .i64) n]⟩) := by
  have mk : ∀ (a : Option Addr) (m cap : Nat), Gw.ev E x = .slice a m cap → m ≤ maxLen → POk P st E w Z B ty (.call ⟨.builtin .len, #[x], #[T]⟩) (.one ⟨false, [.val (.int .i64) (m : Int)]⟩) := fun a m cap hv hm =>
    pok1 (fun w' _ => y_len hv ht) ⟨rfl, by
      unfold inR
      have h1 : IntKind.i64.min = -9223372036854775808 := by decide
      have h2 : IntKind.i64.max = 9223372036854775807 := by decide
      simp only [maxLen] at hm
      omega⟩ trivial
  unfold lenC at hn
  split at hn
  · cases hn
    obtain ⟨a, cap, he, hcap, hmx, _⟩ := hx
    simp only [List.cons.injEq, and_true] at he
    exact mk a _ cap he (Nat.le_trans hcap hmx)
  · rename_i k
    split at hn
    · rename_i t e' l hk
      cases hn
      have hL := h.locs k
      rw [hk] at hL
      obtain ⟨xs, hown, _, _⟩ := hL
      have hx : Gw.ev E x = B k := hx
      rcases hown.2 with ⟨hv, hn⟩ | ⟨g, cap, cur, hB, _, _, h3, h4, _⟩
      · rw [hn]; exact mk none 0 0 (hx.trans hv) (Nat.zero_le _)
      · exact mk _ _ cap (hx.trans hB) (Nat.le_trans h3 h4)
    · cases hn
  · exact absurd rfl (hnm _)
  · cases hn; exact mk none 0 0 (show _ = _ from hx.1) (Nat.zero_le _)
  · cases hn
end
end Go.Vc
