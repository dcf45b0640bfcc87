/- A verifier for this model: types of pure values, and when cells of memory hold one. -/
import Derived.Test.YtedfiemhfpcggaaGwTwo
namespace Go.Vc
open Go Go.RowKit Go.Gw

inductive Ty where
  | int (k : IntKind)
  | bool
  | str
  | unit
  | pair (a b : Ty)
  | sl (t : Ty)
  | ptr (t : Ty)
  | mp (ka : Bool) (kt : Ty) (va : Bool) (vt : Ty)
  deriving DecidableEq

@[reducible] def Ty.den : Ty → Type
  | .int _ => Int
  | .bool => Bool
  | .str => ByteArray
  | .unit => Unit
  | .pair a b => a.den × b.den
  | .sl t => List t.den
  | .ptr t => t.den
  | .mp _ kt _ vt => List (kt.den × vt.den)
def Ty.size : Ty → Nat
  | .unit => 0
  | .pair a b => a.size + b.size
  | _ => 1
def Ty.dflt : (t : Ty) → t.den
  | .int _ => (0 : Int)
  | .bool => false
  | .str => ⟨#[]⟩
  | .unit => ()
  | .pair a b => (a.dflt, b.dflt)
  | .sl _ => []
  | .ptr t => t.dflt
  | .mp _ _ _ _ => []

def inR (k : IntKind) (n : Int) : Prop := k.min ≤ n ∧ n ≤ k.max
/-- What is known of every value of a type. -/
def Ty.wf : (t : Ty) → t.den → Prop
  | .int k, n => inR k n
  | .bool, _ => True
  | .str, _ => True
  | .unit, _ => True
  | .pair a b, x => a.wf x.1 ∧ b.wf x.2
  | .sl t, l => l.length ≤ 9223372036854775807 ∧ ∀ x ∈ l, t.wf x
  | .ptr t, x => t.wf x
  | .mp _ kt _ vt, l => ∀ x ∈ l, kt.wf x.1 ∧ vt.wf x.2

/-- Cells, one piece after the other. -/
def Each {α : Type} (R : List Value → α → Prop) : List Value → List α → Prop
  | cs, [] => cs = []
  | cs, x :: l => ∃ c1 c2, cs = c1 ++ c2 ∧ R c1 x ∧ Each R c2 l

/-- A value that is a struct or not. -/
def RepA {α : Type} (R : List Value → α → Prop) : Bool → Value → α → Prop
  | true, v, x => ∃ cs : List Value, v = .agg cs.toArray ∧ R cs x
  | false, v, x => R [v] x
/-- The entries of a map. -/
def EntsR {κ ν : Type} (Rk : Value → κ → Prop) (Rv : Value → ν → Prop) : List MapEntry → List (κ × ν) → Prop
  | es, [] => es = []
  | es, x :: l => ∃ e es', es = e :: es' ∧ Rk e.key x.1 ∧ Rv e.val x.2 ∧ EntsR Rk Rv es' l
/-- The cells cs hold x; the blocks that they lead to are in Z. -/
def Rep : (t : Ty) → World → (Nat → Prop) → List Value → t.den → Prop
  | .int k, _, _, cs, n => cs = [.int k n] ∧ inR k n
  | .bool, _, _, cs, b => cs = [.bool b]
  | .str, _, _, cs, s => cs = [.string s]
  | .unit, _, _, cs, _ => cs = []
  | .pair a b, w, Z, cs, x => ∃ c1 c2, cs = c1 ++ c2 ∧ Rep a w Z c1 x.1 ∧ Rep b w Z c2 x.2
  | .sl t, w, Z, cs, l => ∃ a cap, cs = [.slice a l.length cap] ∧ l.length ≤ cap ∧ cap ≤ maxLen ∧ (a = none → cap = 0) ∧ (l = [] ∨ ∃ b o ec, a = some ⟨b, o, none⟩ ∧ Z b ∧ CellsAt w ⟨b, o, none⟩ ec ∧ Each (Rep t w Z) ec l)
  | .ptr t, w, Z, cs, x => ∃ b o ec, cs = [.pointer (some ⟨b, o, none⟩)] ∧ Z b ∧ CellsAt w ⟨b, o, none⟩ ec ∧ Rep t w Z ec x
  | .mp ka kt va vt, w, Z, cs, l => (cs = [.map none] ∧ l = []) ∨ ∃ b ents clock, cs = [.map (some b)] ∧ Z b ∧ w.heap[b]? = some (.map ents clock) ∧ EntsR (RepA (Rep kt w Z) ka) (RepA (Rep vt w Z) va) ents.toList l

theorem RepA.mono {α : Type} {R R' : List Value → α → Prop} (h : ∀ c x, R c x → R' c x) : ∀ {a : Bool} {v : Value} {x : α}, RepA R a v x → RepA R' a v x
  | true, _, _, ⟨cs, e, hh⟩ => ⟨cs, e, h _ _ hh⟩
  | false, _, _, hh => h _ _ hh
theorem EntsR.mono {κ ν : Type} {Rk Rk' : Value → κ → Prop} {Rv Rv' : Value → ν → Prop} (h : ∀ c x, Rk c x → Rk' c x) (h' : ∀ c x, Rv c x → Rv' c x) : ∀ {l : List (κ × ν)} {es : List MapEntry}, EntsR Rk Rv es l → EntsR Rk' Rv' es l
  | [], _, hh => hh
  | _ :: _, _, ⟨e, es', he, h1, h2, h3⟩ => ⟨e, es', he, h _ _ h1, h' _ _ h2, EntsR.mono h h' h3⟩
theorem EntsR.mem {κ ν : Type} {Rk : Value → κ → Prop} {Rv : Value → ν → Prop} : ∀ {l : List (κ × ν)} {es : List MapEntry} {x : κ × ν}, EntsR Rk Rv es l → x ∈ l → ∃ e ∈ es, Rk e.key x.1 ∧ Rv e.val x.2
  | y :: l, _, x, ⟨e, es', he, h1, h2, h3⟩, hx => by
    rw [he]
    rcases List.mem_cons.1 hx with rfl | hx
    · exact ⟨e, by simp, h1, h2⟩
    · obtain ⟨e', hm, h⟩ := EntsR.mem h3 hx
      exact ⟨e', by simp [hm], h⟩

section each
variable {α : Type} {R R' : List Value → α → Prop}
theorem Each.mono (h : ∀ c x, R c x → R' c x) : ∀ {l : List α} {cs : List Value}, Each R cs l → Each R' cs l
  | [], _, hh => hh
  | _ :: _, _, ⟨c1, c2, e, h1, h2⟩ => ⟨c1, c2, e, h _ _ h1, Each.mono h h2⟩
theorem Each.append : ∀ {l l' : List α} {cs cs' : List Value}, Each R cs l → Each R cs' l' → Each R (cs ++ cs') (l ++ l')
  | [], _, cs, cs', h, h' => by cases h; simpa using h'
  | _ :: _, _, _, cs', ⟨c1, c2, e, h1, h2⟩, h' => ⟨c1, c2 ++ cs', by simp [e], h1, Each.append h2 h'⟩
theorem Each.length {s : Nat} (hs : ∀ c x, R c x → c.length = s) : ∀ {l : List α} {cs : List Value}, Each R cs l → cs.length = l.length * s
  | [], _, h => by cases h; simp
  | _ :: l, _, ⟨c1, c2, e, h1, h2⟩ => by
    have := Each.length hs h2
    rw [e, List.length_append, hs _ _ h1, this, List.length_cons, Nat.succ_mul]; omega
theorem Each.get {s : Nat} (hs : ∀ c x, R c x → c.length = s) : ∀ {l : List α} {cs : List Value} {i : Nat} {x : α}, Each R cs l → l[i]? = some x → R ((cs.drop (i * s)).take s) x
  | [], _, _, _, _, hi => by simp at hi
  | y :: l, _, i, x, ⟨c1, c2, e, h1, h2⟩, hi => by
    have hl := hs _ _ h1
    cases i with
    | zero =>
      simp at hi; subst hi
      rw [e, Nat.zero_mul, List.drop_zero, List.take_left' hl]; exact h1
    | succ i =>
      simp at hi
      have := Each.get hs h2 hi
      rw [e, Nat.succ_mul, Nat.add_comm, ← List.drop_drop, List.drop_left' hl]; exact this
theorem Each.set {s : Nat} (hs : ∀ c x, R c x → c.length = s) : ∀ {l : List α} {cs : List Value} {i : Nat} {x : α} {c : List Value}, Each R cs l → R c x → i < l.length → Each R (cs.take (i * s) ++ c ++ cs.drop (i * s + s)) (l.set i x)
  | [], _, _, _, _, _, _, hi => by simp at hi
  | y :: l, _, i, x, c, ⟨c1, c2, e, h1, h2⟩, hc, hi => by
    have hl := hs _ _ h1
    cases i with
    | zero =>
      refine ⟨c, c2, ?_, hc, h2⟩
      rw [e, Nat.zero_mul, Nat.zero_add, List.take_zero, List.nil_append, List.drop_left' hl]
    | succ i =>
      have hi' : i < l.length := by simpa using hi
      refine ⟨c1, _, ?_, h1, Each.set hs h2 hc hi'⟩
      have e1 : (i + 1) * s = s + i * s := by rw [Nat.succ_mul, Nat.add_comm]
      rw [e, e1, List.take_append, List.take_of_length_le (by omega), hl, Nat.add_sub_cancel_left, List.drop_append, List.drop_of_length_le (by omega), hl]
      simp [show s + i * s + s - s = i * s + s from by omega]
theorem Each.repl {c : List Value} {x : α} (h : R c x) : ∀ n : Nat, Each R (List.replicate n c).flatten (List.replicate n x)
  | 0 => rfl
  | n + 1 => ⟨c, _, by rw [List.replicate_succ, List.flatten_cons], h, Each.repl h n⟩
theorem Each.take {s : Nat} (hs : ∀ c x, R c x → c.length = s) : ∀ {l : List α} {cs : List Value} (n : Nat), Each R cs l → Each R (cs.take (n * s)) (l.take n)
  | [], _, n, h => by cases h; simp; rfl
  | _ :: l, _, n, ⟨c1, c2, e, h1, h2⟩ => by
    have hl := hs _ _ h1
    cases n with
    | zero => simp; rfl
    | succ n =>
      refine ⟨c1, _, ?_, h1, Each.take hs n h2⟩
      rw [e, show (n + 1) * s = s + n * s from by rw [Nat.succ_mul, Nat.add_comm], List.take_append, List.take_of_length_le (by omega), hl, Nat.add_sub_cancel_left]
theorem Each.drop {s : Nat} (hs : ∀ c x, R c x → c.length = s) : ∀ {l : List α} {cs : List Value} (n : Nat), Each R cs l → Each R (cs.drop (n * s)) (l.drop n)
  | [], _, n, h => by cases h; simp; rfl
  | _ :: l, _, n, ⟨c1, c2, e, h1, h2⟩ => by
    have hl := hs _ _ h1
    cases n with
    | zero => simp; exact ⟨c1, c2, e, h1, h2⟩
    | succ n =>
      have := Each.drop hs n h2
      rw [e, show (n + 1) * s = s + n * s from by rw [Nat.succ_mul, Nat.add_comm], ← List.drop_drop, List.drop_left' hl]
      exact this
end each

theorem Rep.length : ∀ {t : Ty} {w : World} {Z : Nat → Prop} {cs : List Value} {x : t.den}, Rep t w Z cs x → cs.length = t.size
  | .int _, _, _, _, _, h => by rw [h.1]; rfl
  | .bool, _, _, _, _, h => by rw [show _ = _ from h]; rfl
  | .str, _, _, _, _, h => by rw [show _ = _ from h]; rfl
  | .unit, _, _, _, _, h => by rw [show _ = _ from h]; rfl
  | .pair a b, _, _, _, _, ⟨c1, c2, e, h1, h2⟩ => by rw [e, List.length_append, Rep.length h1, Rep.length h2]; rfl
  | .sl _, _, _, _, _, ⟨_, _, e, _⟩ => by rw [e]; rfl
  | .ptr _, _, _, _, _, ⟨_, _, _, e, _⟩ => by rw [e]; rfl
  | .mp _ _ _ _, _, _, _, _, h => by
    rcases h with ⟨e, _⟩ | ⟨_, _, _, e, _⟩ <;> rw [e] <;> rfl

/-- The blocks of Z are the same. -/
def SameZ (Z : Nat → Prop) (w w' : World) : Prop := ∀ b, Z b → w'.heap[b]? = w.heap[b]?
theorem cells_sameZ {Z : Nat → Prop} {w w' : World} {b o : Nat} {ec : List Value} (h : CellsAt w ⟨b, o, none⟩ ec) (hb : Z b) (hs : SameZ Z w w') : CellsAt w' ⟨b, o, none⟩ ec := fun j v hv => by
  have := h j v hv
  rw [add_lit] at this ⊢
  rw [← this]
  exact World.cell?_of_block (hs b hb)
theorem Rep.mono : ∀ {t : Ty} {w w' : World} {Z Z' : Nat → Prop} {cs : List Value} {x : t.den}, (∀ b, Z b → Z' b) → SameZ Z w w' → Rep t w Z cs x → Rep t w' Z' cs x
  | .int _, _, _, _, _, _, _, _, _, h => h
  | .bool, _, _, _, _, _, _, _, _, h => h
  | .str, _, _, _, _, _, _, _, _, h => h
  | .unit, _, _, _, _, _, _, _, _, h => h
  | .pair a b, _, _, _, _, _, _, hz, hs, ⟨c1, c2, e, h1, h2⟩ => ⟨c1, c2, e, Rep.mono hz hs h1, Rep.mono hz hs h2⟩
  | .sl t, _, _, _, _, _, _, hz, hs, ⟨a, cap, e, hc, hm, hn, h⟩ => ⟨a, cap, e, hc, hm, hn, h.imp id fun ⟨b, o, ec, ha, hb, hcs, he⟩ => ⟨b, o, ec, ha, hz b hb, cells_sameZ hcs hb hs, he.mono fun _ _ => Rep.mono hz hs⟩⟩
  | .ptr t, _, _, _, _, _, _, hz, hs, ⟨b, o, ec, e, hb, hcs, he⟩ => ⟨b, o, ec, e, hz b hb, cells_sameZ hcs hb hs, Rep.mono hz hs he⟩
  | .mp ka kt va vt, _, _, _, _, _, _, hz, hs, h => h.imp id fun ⟨b, es, cl, e, hb, hh, he⟩ => ⟨b, es, cl, e, hz b hb, by rw [hs b hb]; exact hh, he.mono (fun _ _ h => h.mono fun _ _ => Rep.mono hz hs) (fun _ _ h => h.mono fun _ _ => Rep.mono hz hs)⟩
theorem RepA.wf' {t : Ty} {R : List Value → t.den → Prop} (hR : ∀ cs x, R cs x → t.wf x) : ∀ {a : Bool} {v : Value} {x : t.den}, RepA R a v x → t.wf x
  | true, _, _, ⟨_, _, h⟩ => hR _ _ h
  | false, _, _, h => hR _ _ h
theorem Rep.wf : ∀ {t : Ty} {w : World} {Z : Nat → Prop} {cs : List Value} {x : t.den}, Rep t w Z cs x → t.wf x
  | .int _, _, _, _, _, h => h.2
  | .bool, _, _, _, _, _ => trivial
  | .str, _, _, _, _, _ => trivial
  | .unit, _, _, _, _, _ => trivial
  | .pair a b, _, _, _, _, ⟨c1, c2, e, h1, h2⟩ => ⟨Rep.wf h1, Rep.wf h2⟩
  | .sl t, _, _, _, l, ⟨a, cap, e, hc, hm, _, h⟩ => ⟨by simp only [maxLen] at hm; omega, by
      rcases h with h | ⟨b, o, ec, _, _, _, he⟩
      · intro x hx; rw [h] at hx; cases hx
      · intro x hx
        obtain ⟨i, hi, hx'⟩ := List.getElem_of_mem hx
        exact Rep.wf (t := t) (Each.get (R := Rep t _ _) (s := t.size) (fun _ _ h => Rep.length h) he (i := i) (by rw [List.getElem?_eq_getElem hi, hx']))⟩
  | .ptr t, _, _, _, _, ⟨b, o, ec, e, hb, hcs, he⟩ => Rep.wf (t := t) he
  | .mp ka kt va vt, _, _, _, l, h => by
    rcases h with ⟨_, e⟩ | ⟨b, es, cl, e, hb, hh, he⟩
    · intro x hx; rw [e] at hx; cases hx
    · intro x hx
      obtain ⟨m, _, h1, h2⟩ := he.mem hx
      exact ⟨RepA.wf' (fun _ _ => Rep.wf) h1, RepA.wf' (fun _ _ => Rep.wf) h2⟩

/-- No cell of a value is more than one cell. -/
theorem Rep.oneCell : ∀ {t : Ty} {w : World} {Z : Nat → Prop} {cs : List Value} {x : t.den}, Rep t w Z cs x → ∀ u ∈ cs, u.oneCell' = true
  | .int _, _, _, _, _, h => by rw [h.1]; exact one_cons rfl one_nil
  | .bool, _, _, _, _, h => by rw [show _ = _ from h]; exact one_cons rfl one_nil
  | .str, _, _, _, _, h => by rw [show _ = _ from h]; exact one_cons rfl one_nil
  | .unit, _, _, _, _, h => by rw [show _ = _ from h]; exact one_nil
  | .pair a b, _, _, _, _, ⟨c1, c2, e, h1, h2⟩ => by
    rw [e]; intro u hu
    rcases List.mem_append.1 hu with hu | hu
    · exact Rep.oneCell h1 u hu
    · exact Rep.oneCell h2 u hu
  | .sl _, _, _, _, _, ⟨_, _, e, _⟩ => by rw [e]; exact one_cons rfl one_nil
  | .ptr _, _, _, _, _, ⟨_, _, _, e, _⟩ => by rw [e]; exact one_cons rfl one_nil
  | .mp _ _ _ _, _, _, _, _, h => by
    rcases h with ⟨e, _⟩ | ⟨_, _, _, e, _⟩ <;> rw [e] <;> exact one_cons rfl one_nil
theorem Each.oneCell {t : Ty} {w : World} {Z : Nat → Prop} : ∀ {l : List t.den} {cs : List Value}, Each (Rep t w Z) cs l → ∀ u ∈ cs, u.oneCell' = true
  | [], _, h => by rw [show _ = _ from h]; exact one_nil
  | _ :: _, _, ⟨c1, c2, e, h1, h2⟩ => by
    rw [e]; intro u hu
    rcases List.mem_append.1 hu with hu | hu
    · exact Rep.oneCell h1 u hu
    · exact Each.oneCell h2 u hu
/-- Cells that are there. -/
theorem cells_sub {w : World} {b o : Nat} {ec : List Value} (h : CellsAt w ⟨b, o, none⟩ ec) (i n : Nat) : CellsAt w ⟨b, o + i, none⟩ ((ec.drop i).take n) := fun j v hv => by
  rw [add_lit]
  rw [List.getElem?_take] at hv
  split at hv
  · rw [List.getElem?_drop] at hv
    have := h (i + j) v hv
    rw [add_lit] at this
    rw [Nat.add_assoc]; exact this
  · cases hv
end Go.Vc
