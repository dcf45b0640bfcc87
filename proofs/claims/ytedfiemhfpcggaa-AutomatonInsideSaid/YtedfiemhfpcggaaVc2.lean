/- The symbolic state of a function, and when a frame and a world are as it says. -/
import Derived.Test.YtedfiemhfpcggaaVc1
namespace Go.Vc
open Go Go.RowKit Go.Gw

@[reducible] def densB : List (Bool × Ty) → Type
  | [] => Unit
  | (_, t) :: r => t.den × densB r
/-- One cell. fv: a function of which only this is known: where ok, it returns φ. val: a pure value; row, box, mp: the slice, pointer, map of the call's own thing number k; elp: the address of element i of row k; pf: an address in memory that stays as it is, where x lies. -/
inductive C where
  | val (t : Ty) (x : t.den)
  | row (k : Nat)
  | box (k off : Nat)
  | elp (k sz i off : Nat)
  | pf (t : Ty) (x : t.den) (off : Nat)
  | mp (k : Nat)
  | fn (f : FuncId) (caps : List Nat)
  | fv (P : Program) (as : List (Bool × Ty)) (r : Ty) (ok : densB as → Prop) (φ : densB as → r.den)
  | raw (v : Value)
  | dead
structure SV where
  agg : Bool
  cs : List C
inductive DV where
  | one (v : SV)
  | tup (vs : List SV)
  | cnd (t : Tmp) (b : Bool) (v : SV)
  | dead
inductive LC where
  | none
  | box (ty : TypeId) (cs : List C)
  | row (t : Ty) (e : TypeId) (l : List t.den)
  | map (ka : Bool) (kt : Ty) (va : Bool) (vt : Ty) (es : List (kt.den × vt.den))
/-- Every entry bears the time at which it was written. -/
structure St where
  sl : List (Nat × Nat × DV)
  lc : List (Nat × Nat × LC)
  nx : Nat
  ct : Nat
  nm : Nat := 0

/-- A condition, or none. -/
def okP : Option Prop → Prop
  | none => True
  | some φ => φ
def andP (φ : Option Prop) (p : Prop) : Prop := match φ with
  | none => p
  | some φ => φ ∧ p
theorem andP_iff {φ : Option Prop} {p : Prop} : andP φ p ↔ okP φ ∧ p := by cases φ <;> simp [andP, okP]
def impP (c : Prop) (φ : Option Prop) : Option Prop := match φ with
  | none => none
  | some φ => some (c → φ)
theorem impP_iff {c : Prop} {φ : Option Prop} : okP (impP c φ) ↔ (c → okP φ) := by cases φ <;> simp [impP, okP]
def sel {α : Type} (e : Bool) (x y : α) : α := bif e then x else y
def find {α : Type} (d : α) (s : Nat) : List (Nat × α) → α
  | [] => d
  | (t, x) :: l => bif Nat.beq t s then x else find d s l
def St.eS (st : St) (s : Nat) : Nat × DV := find (0, .dead) s st.sl
def St.eL (st : St) (k : Nat) : Nat × LC := find (0, .none) k st.lc
def St.S (st : St) (s : Nat) : DV := (st.eS s).2
def St.L (st : St) (k : Nat) : LC := (st.eL k).2
def put {α : Type} (s : Nat) (x : α) : List (Nat × α) → List (Nat × α)
  | [] => [(s, x)]
  | (t, y) :: l => bif Nat.beq t s then (t, x) :: l else (t, y) :: put s x l
theorem find_put {α : Type} (d : α) (s : Nat) (x : α) (q : Nat) : ∀ l : List (Nat × α), find d q (put s x l) = if q = s then x else find d q l
  | [] => by
    simp only [put, find]
    by_cases h : q = s
    · simp [h]
    · simp [h, beq_false_of (Ne.symm h)]
  | (t, y) :: l => by
    have ih := find_put d s x q l
    simp only [put]
    cases hts : Nat.beq t s with
    | true =>
      have ets := Nat.eq_of_beq_eq_true hts
      subst ets
      simp only [cond_true, find]
      by_cases h : q = t
      · simp [h]
      · simp [h, beq_false_of (Ne.symm h)]
    | false =>
      have nts : t ≠ s := Nat.ne_of_beq_eq_false hts
      simp only [cond_false, find, ih]
      cases htq : Nat.beq t q with
      | true =>
        have etq := Nat.eq_of_beq_eq_true htq
        subst etq
        simp [nts]
      | false => simp

def isCnd (t : Nat) : DV → Bool
  | .cnd t' _ _ => Nat.beq t' t
  | _ => false
/-- Every slot whose being there hangs on slot t is forgotten. -/
def unc (t g : Nat) : Nat × DV → Nat × DV
  | (n, .cnd t' b v) => bif Nat.beq t' t then (g, .dead) else (n, .cnd t' b v)
  | (n, .one v) => (n, .one v)
  | (n, .tup v) => (n, .tup v)
  | (n, .dead) => (n, .dead)
theorem unc_eq (t g : Nat) (d : Nat × DV) : unc t g d = bif isCnd t d.2 then (g, .dead) else d := by
  obtain ⟨n, d⟩ := d
  cases d <;> rfl
def uncnd (t g : Nat) : List (Nat × Nat × DV) → List (Nat × Nat × DV)
  | [] => []
  | (s, d) :: l => (s, unc t g d) :: uncnd t g l
theorem find_uncnd (t g q : Nat) : ∀ l : List (Nat × Nat × DV), find (0, .dead) q (uncnd t g l) = bif isCnd t (find (0, .dead) q l).2 then (g, .dead) else find (0, .dead) q l
  | [] => by simp [uncnd, find, isCnd]
  | (s, d) :: l => by
    have ih := find_uncnd t g q l
    simp only [uncnd, find, unc_eq]
    cases Nat.beq s q <;> simp [ih]
def St.setS (st : St) (d : Nat) (x : DV) : St := ⟨put d (st.ct + 1, x) (uncnd d (st.ct + 1) st.sl), st.lc, st.nx, st.ct + 1, st.nm⟩
def St.setL (st : St) (k : Nat) (x : LC) : St := ⟨st.sl, put k (st.ct + 1, x) st.lc, st.nx, st.ct + 1, st.nm⟩
def St.newL (st : St) (x : LC) : St := ⟨st.sl, put st.nx (st.ct + 1, x) st.lc, st.nx + 1, st.ct + 1, st.nm⟩
theorem St.eS_setS (st : St) (d s : Nat) (x : DV) : (st.setS d x).eS s = if s = d then (st.ct + 1, x) else bif isCnd d (st.S s) then (st.ct + 1, .dead) else st.eS s := by
  unfold St.eS St.setS
  simp only
  rw [find_put, find_uncnd]; rfl
theorem St.S_setS (st : St) (d s : Nat) (x : DV) : (st.setS d x).S s = if s = d then x else bif isCnd d (st.S s) then .dead else st.S s := by
  show ((st.setS d x).eS s).2 = _
  rw [St.eS_setS]
  split
  · rfl
  · cases isCnd d (st.S s) <;> rfl
theorem St.L_setS (st : St) (d k : Nat) (x : DV) : (st.setS d x).L k = st.L k := rfl
theorem St.eL_setL (st : St) (k q : Nat) (x : LC) : (st.setL k x).eL q = if q = k then (st.ct + 1, x) else st.eL q := find_put ..
theorem St.L_setL (st : St) (k q : Nat) (x : LC) : (st.setL k x).L q = if q = k then x else st.L q := by
  show ((st.setL k x).eL q).2 = _
  rw [St.eL_setL]; split <;> rfl
theorem St.S_setL (st : St) (k q : Nat) (x : LC) : (st.setL k x).S q = st.S q := rfl
theorem St.eL_newL (st : St) (q : Nat) (x : LC) : (st.newL x).eL q = if q = st.nx then (st.ct + 1, x) else st.eL q := find_put ..
theorem St.L_newL (st : St) (q : Nat) (x : LC) : (st.newL x).L q = if q = st.nx then x else st.L q := by
  show ((st.newL x).eL q).2 = _
  rw [St.eL_newL]; split <;> rfl
theorem St.S_newL (st : St) (q : Nat) (x : LC) : (st.newL x).S q = st.S q := rfl
/-- st' came out of st: what bears an old time is as it was. -/
structure Evo (st st' : St) : Prop where
  ct : st.ct ≤ st'.ct
  s : ∀ s, (st'.eS s).1 ≠ 0 → (st'.eS s).1 ≤ st.ct → st'.eS s = st.eS s
  l : ∀ k, (st'.eL k).1 ≠ 0 → (st'.eL k).1 ≤ st.ct → st'.eL k = st.eL k
theorem Evo.refl (st : St) : Evo st st := ⟨Nat.le_refl _, fun _ _ _ => rfl, fun _ _ _ => rfl⟩

/-! ### What it says -/
/-- The value v, a struct or not, holds x. -/
def RepV (a : Bool) (t : Ty) (w : World) (Z : Nat → Prop) (v : Value) (x : t.den) : Prop := RepA (Rep t w Z) a v x
def RepB (w : World) (Z : Nat → Prop) : (as : List (Bool × Ty)) → List Value → densB as → Prop
  | [], vs, _ => vs = []
  | (a, t) :: r, vs, x => ∃ v vs', vs = v :: vs' ∧ RepV a t w Z v x.1 ∧ RepB w Z r vs' x.2
/-- v is a function that returns φ, in every world that has the blocks of Z. -/
def FnOk (P : Program) (w : World) (Z : Nat → Prop) (v : Value) (as : List (Bool × Ty)) (r : Ty) (ok : densB as → Prop) (φ : densB as → r.den) : Prop :=
  ∃ g, ∃ caps : List Value, v = .func (.func g) #[] caps.toArray ∧ enters P g = true ∧ ∀ (w' : World) (Z' : Nat → Prop) (vs : List Value) (x : densB as), SameZ Z w w' → (∀ b, Z b → b < w'.heap.size) → (∀ b, Z' b → b < w'.heap.size) → RepB w' Z' as vs x → ok x →
    Gw.Ret P g (vs ++ caps) w' fun u w'' => Ext w' w'' ∧ Rep r w'' (fun _ => False) [u] (φ x)
def RC (w : World) (Z : Nat → Prop) (B : Nat → Value) : C → Value → Prop
  | .val t x, v => Rep t w Z [v] x
  | .row k, v => v = B k
  | .box k off, v => ∃ b, B k = .pointer (some ⟨b, 0, none⟩) ∧ v = .pointer (some ⟨b, off, none⟩)
  | .elp k sz i off, v => ∃ b n cap, B k = .slice (some ⟨b, 0, none⟩) n cap ∧ i < n ∧ v = .pointer (some ⟨b, i * sz + off, none⟩)
  | .pf t x off, v => ∃ b o ec, v = .pointer (some ⟨b, o + off, none⟩) ∧ Z b ∧ CellsAt w ⟨b, o, none⟩ ec ∧ Rep t w Z ec x
  | .mp k, v => v = B k
  | .fn f caps, v => v = .func (.func f) #[] (caps.map B).toArray
  | .fv P as r ok φ, v => FnOk P w Z v as r ok φ
  | .raw v0, v => v = v0 ∧ v0.oneCell' = true
  | .dead, _ => True
def RCs (w : World) (Z : Nat → Prop) (B : Nat → Value) : List C → List Value → Prop
  | [], vs => vs = []
  | c :: cs, vs => ∃ v vs', vs = v :: vs' ∧ RC w Z B c v ∧ RCs w Z B cs vs'
def RS (w : World) (Z : Nat → Prop) (B : Nat → Value) : SV → Value → Prop
  | ⟨true, cs⟩, v => ∃ vs : List Value, v = .agg vs.toArray ∧ RCs w Z B cs vs
  | ⟨false, cs⟩, v => RCs w Z B cs [v]
def RSs (w : World) (Z : Nat → Prop) (B : Nat → Value) : List SV → List Value → Prop
  | [], vs => vs = []
  | c :: cs, vs => ∃ v vs', vs = v :: vs' ∧ RS w Z B c v ∧ RSs w Z B cs vs'
def RD (w : World) (Z : Nat → Prop) (B : Nat → Value) (E : Env) : DV → Value → Prop
  | .one s, v => RS w Z B s v
  | .tup ss, v => ∃ vs : List Value, v = .tuple vs.toArray ∧ RSs w Z B ss vs
  | .cnd t b s, v => (E t = .bool b ∧ RS w Z B s v) ∨ (E t ≠ .bool b ∧ v = undef)
  | .dead, _ => True
def Ents (w : World) (Z : Nat → Prop) (ka : Bool) (kt : Ty) (va : Bool) (vt : Ty) (es : List MapEntry) (l : List (kt.den × vt.den)) : Prop := EntsR (RepA (Rep kt w Z) ka) (RepA (Rep vt w Z) va) es l
/-- U: the blocks that the thing may be in. -/
def RL (U : Nat → Prop) (w : World) (Z : Nat → Prop) (B : Nat → Value) (k : Nat) : LC → Prop
  | .none => True
  | .box ty cs => ∃ b vs, B k = .pointer (some ⟨b, 0, none⟩) ∧ U b ∧ ¬ Z b ∧ Blk w b vs ty ∧ RCs w Z B cs vs.toList
  | .row t e l => ∃ xs, w.ownsRow 0 e t.size (B k) l.length xs ∧ Each (Rep t w Z) xs l ∧ ∀ b, (B k).ownBlock = some b → U b ∧ ¬ Z b
  | .map ka kt va vt es => ∃ b ents clock, B k = .map (some b) ∧ U b ∧ ¬ Z b ∧ w.heap[b]? = some (.map ents clock) ∧ Ents w Z ka kt va vt ents.toList es
def root : Value → Option Nat
  | .pointer (some a) => some a.block
  | .slice (some a) _ _ => some a.block
  | .map r => r
  | _ => none
def live : LC → Prop
  | .none => False
  | _ => True
def refC (n : Nat) : C → Prop
  | .row k => k < n
  | .box k _ => k < n
  | .elp k _ _ _ => k < n
  | .mp k => k < n
  | .fn _ caps => ∀ k ∈ caps, k < n
  | _ => True
def refS (n : Nat) (s : SV) : Prop := ∀ c ∈ s.cs, refC n c
def refD (n : Nat) : DV → Prop
  | .one s => refS n s
  | .tup ss => ∀ s ∈ ss, refS n s
  | .cnd _ _ s => refS n s
  | .dead => True
def refL (n : Nat) : LC → Prop
  | .box _ cs => ∀ c ∈ cs, refC n c
  | _ => True

/-- The memory of the caller: z: what stays as it is; m: what may be written, the things 0 .. n - 1, which are the values v. -/
structure Zn where
  z : Nat → Prop
  m : Nat → Prop
  n : Nat
  v : Nat → Value
  k0 : Nat := 0
  b0 : Nat := 0
/-- w' has all of w's blocks as they were, but for those of m. -/
structure ExtM (m : Nat → Prop) (w w' : World) : Prop where
  os : w'.os = w.os
  tape : w'.tape = w.tape
  output : w'.output = w.output
  size : w.heap.size ≤ w'.heap.size
  block : ∀ k, k < w.heap.size → ¬ m k → w'.heap[k]? = w.heap[k]?
theorem ExtM.of {m : Nat → Prop} {w w' : World} (h : Ext w w') : ExtM m w w' := ⟨h.os, h.tape, h.output, h.size, fun k hk _ => h.block k hk⟩
theorem ExtM.ext {m : Nat → Prop} {w w' : World} (h : ExtM m w w') (hm : ∀ b, ¬ m b) : Ext w w' := ⟨h.os, h.tape, h.output, h.size, fun k hk => h.block k hk (hm k)⟩
theorem ExtM.trans {m : Nat → Prop} {a b c : World} (h : ExtM m a b) (k : Ext b c) : ExtM m a c := ⟨k.os.trans h.os, k.tape.trans h.tape, k.output.trans h.output, Nat.le_trans h.size k.size, fun i hi hm => (k.block i (Nat.lt_of_lt_of_le hi h.size)).trans (h.block i hi hm)⟩
theorem ExtM.chg {m : Nat → Prop} {w0 w w' : World} {b : Nat} (h : ExtM m w0 w) (hc : Chg b w w') (hb : w0.heap.size ≤ b ∨ m b) : ExtM m w0 w' :=
  ⟨hc.1.trans h.os, hc.2.1.trans h.tape, hc.2.2.1.trans h.output, by rw [hc.2.2.2.1]; exact h.size, fun k hk hm => (hc.2.2.2.2 k (fun e => by subst e; rcases hb with hb | hb; exact absurd hk (by omega); exact hm hb)).trans (h.block k hk hm)⟩
theorem ExtM.grown {m : Nat → Prop} {w0 w w' : World} {row : Option Nat} (h : ExtM m w0 w) (hg : w.grownBy w' row) (hb : ∀ b, row = some b → w0.heap.size ≤ b ∨ m b) : ExtM m w0 w' :=
  ⟨hg.os.trans h.os, hg.tape.trans h.tape, hg.output.trans h.output, Nat.le_trans h.size hg.size, fun k hk hm => (hg.block k (Nat.lt_of_lt_of_le hk h.size) (fun e => by rcases hb k e.symm with hb | hb; exact absurd hk (by omega); exact hm hb)).trans (h.block k hk hm)⟩
/-- The blocks that thing k may be in. -/
def up (za : Zn) (w0 : World) (k : Nat) : Nat → Prop := fun b => w0.heap.size ≤ b ∨ (k < za.n ∧ za.m b)
theorem up.m {za : Zn} {w0 : World} {k b : Nat} (h : up za w0 k b) : w0.heap.size ≤ b ∨ za.m b := h.imp id And.right
structure Rel (za : Zn) (w0 : World) (st : St) (E : Env) (w : World) (Z : Nat → Prop) (B : Nat → Value) : Prop where
  ext : ExtM za.m w0 w
  zlt : ∀ b, Z b → b < w.heap.size
  slots : ∀ s, RD w Z B E (st.S s) (E s)
  locs : ∀ k, RL (up za w0 k) w Z B k (st.L k)
  disj : ∀ k k' b, k ≠ k' → live (st.L k) → live (st.L k') → root (B k) = some b → root (B k') ≠ some b
  refs : ∀ s, refD st.nx (st.S s)
  refl : ∀ k, refL st.nx (st.L k)
  fresh : ∀ k, st.nx ≤ k → st.L k = .none
  bone : ∀ k, (B k).oneCell' = true
  zin : ∀ b, Z b → za.z b ∨ w0.heap.size ≤ b
  nms : st.nm = za.n ∧ za.n ≤ st.nx
  bfix : ∀ k, k < za.n → B k = za.v k
  mrk : za.b0 ≤ w.heap.size ∧ ∀ k b, za.k0 ≤ k → live (st.L k) → root (B k) = some b → za.b0 ≤ b

/-! ### Frames -/
section mono
variable {w w' : World} {Z Z' : Nat → Prop} {B B' : Nat → Value} {n : Nat}
theorem RC.mono (hz : ∀ b, Z b → Z' b) (hs : SameZ Z w w') (hB : ∀ k, k < n → B' k = B k) : ∀ {c : C} {v : Value}, refC n c → RC w Z B c v → RC w' Z' B' c v
  | .val _ _, _, _, h => Rep.mono hz hs h
  | .row k, _, hr, h => h.trans (hB k hr).symm
  | .box k off, _, hr, ⟨b, e, h⟩ => ⟨b, (hB k hr).trans e, h⟩
  | .elp k sz i off, _, hr, ⟨b, m, cap, e, h⟩ => ⟨b, m, cap, (hB k hr).trans e, h⟩
  | .pf t x off, _, _, ⟨b, o, ec, e, hb, hc, h⟩ => ⟨b, o, ec, e, hz b hb, cells_sameZ hc hb hs, Rep.mono hz hs h⟩
  | .mp k, _, hr, h => h.trans (hB k hr).symm
  | .fn f caps, _, hr, h => by
    show _ = _
    rw [show _ = _ from h]
    congr 2
    exact List.map_congr_left fun k hk => (hB k (hr k hk)).symm
  | .fv P as r ok φ, _, _, ⟨g, caps, e, he, h⟩ => ⟨g, caps, e, he, fun w2 Z2 vs x h1 h2 h3 h4 h5 => h w2 Z2 vs x (fun b hb => (h1 b (hz b hb)).trans (hs b hb)) (fun b hb => h2 b (hz b hb)) h3 h4 h5⟩
  | .raw _, _, _, h => h
  | .dead, _, _, _ => trivial
theorem RCs.mono (hz : ∀ b, Z b → Z' b) (hs : SameZ Z w w') (hB : ∀ k, k < n → B' k = B k) : ∀ {cs : List C} {vs : List Value}, (∀ c ∈ cs, refC n c) → RCs w Z B cs vs → RCs w' Z' B' cs vs
  | [], _, _, h => h
  | c :: cs, _, hr, ⟨v, vs', e, h1, h2⟩ => ⟨v, vs', e, RC.mono hz hs hB (hr c (by simp)) h1, RCs.mono hz hs hB (fun c hc => hr c (by simp [hc])) h2⟩
theorem RS.mono (hz : ∀ b, Z b → Z' b) (hs : SameZ Z w w') (hB : ∀ k, k < n → B' k = B k) : ∀ {s : SV} {v : Value}, refS n s → RS w Z B s v → RS w' Z' B' s v
  | ⟨true, cs⟩, _, hr, ⟨vs, e, h⟩ => ⟨vs, e, RCs.mono hz hs hB hr h⟩
  | ⟨false, cs⟩, _, hr, h => RCs.mono (cs := cs) hz hs hB hr h
theorem RSs.mono (hz : ∀ b, Z b → Z' b) (hs : SameZ Z w w') (hB : ∀ k, k < n → B' k = B k) : ∀ {cs : List SV} {vs : List Value}, (∀ c ∈ cs, refS n c) → RSs w Z B cs vs → RSs w' Z' B' cs vs
  | [], _, _, h => h
  | c :: cs, _, hr, ⟨v, vs', e, h1, h2⟩ => ⟨v, vs', e, RS.mono hz hs hB (hr c (by simp)) h1, RSs.mono hz hs hB (fun c hc => hr c (by simp [hc])) h2⟩
theorem RD.mono {E : Env} (hz : ∀ b, Z b → Z' b) (hs : SameZ Z w w') (hB : ∀ k, k < n → B' k = B k) : ∀ {d : DV} {v : Value}, refD n d → RD w Z B E d v → RD w' Z' B' E d v
  | .one _, _, hr, h => RS.mono hz hs hB hr h
  | .tup _, _, hr, ⟨vs, e, h⟩ => ⟨vs, e, RSs.mono hz hs hB hr h⟩
  | .cnd _ _ _, _, hr, h => h.imp (fun ⟨a, b⟩ => ⟨a, RS.mono hz hs hB hr b⟩) id
  | .dead, _, _, _ => trivial
theorem RepV.mono {a : Bool} {t : Ty} {v : Value} {x : t.den} (hz : ∀ b, Z b → Z' b) (hs : SameZ Z w w') (h : RepV a t w Z v x) : RepV a t w' Z' v x := RepA.mono (fun _ _ => Rep.mono hz hs) h
theorem RepB.mono (hz : ∀ b, Z b → Z' b) (hs : SameZ Z w w') : ∀ {as : List (Bool × Ty)} {vs : List Value} {x : densB as}, RepB w Z as vs x → RepB w' Z' as vs x
  | [], _, _, h => h
  | _ :: _, _, _, ⟨v, vs', e, h1, h2⟩ => ⟨v, vs', e, h1.mono hz hs, RepB.mono hz hs h2⟩
theorem Ents.mono {ka va : Bool} {kt vt : Ty} (hz : ∀ b, Z b → Z' b) (hs : SameZ Z w w') {l : List (kt.den × vt.den)} {es : List MapEntry} (h : Ents w Z ka kt va vt es l) : Ents w' Z' ka kt va vt es l :=
  EntsR.mono (fun _ _ h => h.mono fun _ _ => Rep.mono hz hs) (fun _ _ h => h.mono fun _ _ => Rep.mono hz hs) h
theorem RL.root {U : Nat → Prop} {k : Nat} {l : LC} (h : RL U w Z B k l) (hl : live l) {b : Nat} (hb : root (B k) = some b) : U b ∧ b < w.heap.size ∧ ¬ Z b := by
  cases l with
  | none => exact hl.elim
  | box ty cs =>
    obtain ⟨b', vs, e, h1, h2, h3, _⟩ := h
    rw [e] at hb; simp [Vc.root] at hb; subst hb
    exact ⟨h1, h3.lt, h2⟩
  | row t e l =>
    obtain ⟨xs, h1, h2, h3⟩ := h
    have hob : (B k).ownBlock = some b := by
      rcases h1.2 with ⟨hv, _⟩ | ⟨g, cap, cur, hv, _⟩
      · rw [hv] at hb; simp [Vc.root] at hb
      · rw [hv] at hb ⊢; simpa [Vc.root, Value.ownBlock] using hb
    have := World.ownsRow.lt h1 b hob
    exact ⟨(h3 b hob).1, this.2, (h3 b hob).2⟩
  | map ka kt va vt es =>
    obtain ⟨b', ents, cl, e, h1, h2, h3, _⟩ := h
    rw [e] at hb; simp [Vc.root] at hb; subst hb
    exact ⟨h1, (Array.getElem?_eq_some_iff.1 h3).1, h2⟩
theorem own_root {base e sz m : Nat} {v : Value} {xs : List Value} (h : w.ownsRow base e sz v m xs) : root v = v.ownBlock := by
  rcases h.2 with ⟨hv, _⟩ | ⟨g, cap, cur, hv, _⟩ <;> rw [hv] <;> rfl
theorem own_same {base e sz m : Nat} {v : Value} {xs : List Value} (h : w.ownsRow base e sz v m xs) (hb : ∀ b, v.ownBlock = some b → w'.heap[b]? = w.heap[b]?) : w'.ownsRow base e sz v m xs := by
  refine ⟨h.1, ?_⟩
  rcases h.2 with h | ⟨g, cap, cur, hv, h1, h2, h3⟩
  · exact .inl h
  · exact .inr ⟨g, cap, cur, hv, h1, by rw [hb g (by rw [hv]; rfl)]; exact h2, h3⟩
theorem RL.mono {U : Nat → Prop} {k : Nat} {l : LC} (hz : ∀ b, Z b → Z' b) (hs : SameZ Z w w') (hB : ∀ k, k < n → B' k = B k) (hk : live l → B' k = B k) (hblk : ∀ b, live l → Vc.root (B k) = some b → w'.heap[b]? = w.heap[b]?) (hnz : ∀ b, live l → Vc.root (B k) = some b → ¬ Z' b) (hr : refL n l) (h : RL U w Z B k l) : RL U w' Z' B' k l := by
  cases l with
  | none => trivial
  | box ty cs =>
    obtain ⟨b, vs, e, h1, h2, h3, h4⟩ := h
    have hb : Vc.root (B k) = some b := by rw [e]; rfl
    refine ⟨b, vs, (hk trivial).trans e, h1, hnz b trivial hb, ?_, RCs.mono hz hs hB hr h4⟩
    unfold Blk; rw [hblk b trivial hb]; exact h3
  | row t e l =>
    obtain ⟨xs, h1, h2, h3⟩ := h
    have hro := own_root h1
    refine ⟨xs, ?_, h2.mono fun _ _ => Rep.mono hz hs, fun b hb => ?_⟩
    · rw [hk trivial]; exact own_same h1 fun b hb => hblk b trivial (hro.trans hb)
    · rw [hk trivial] at hb; exact ⟨(h3 b hb).1, hnz b trivial (hro.trans hb)⟩
  | map ka kt va vt es =>
    obtain ⟨b, ents, cl, e, h1, h2, h3, h4⟩ := h
    have hb : Vc.root (B k) = some b := by rw [e]; rfl
    exact ⟨b, ents, cl, (hk trivial).trans e, h1, hnz b trivial hb, by rw [hblk b trivial hb]; exact h3, h4.mono hz hs⟩
theorem refC.le {m : Nat} (hm : n ≤ m) : ∀ {c : C}, refC n c → refC m c
  | .val _ _, h => h
  | .row _, h => Nat.lt_of_lt_of_le h hm
  | .box _ _, h => Nat.lt_of_lt_of_le h hm
  | .elp _ _ _ _, h => Nat.lt_of_lt_of_le h hm
  | .pf _ _ _, h => h
  | .mp _, h => Nat.lt_of_lt_of_le h hm
  | .fn _ _, h => fun k hk => Nat.lt_of_lt_of_le (h k hk) hm
  | .fv _ _ _ _ _, h => h
  | .raw _, h => h
  | .dead, h => h
theorem refD.le {m : Nat} (hm : n ≤ m) : ∀ {d : DV}, refD n d → refD m d
  | .one _, h => fun c hc => (h c hc).le hm
  | .tup _, h => fun s hs c hc => (h s hs c hc).le hm
  | .cnd _ _ _, h => fun c hc => (h c hc).le hm
  | .dead, h => h
theorem refL.le {m : Nat} (hm : n ≤ m) : ∀ {d : LC}, refL n d → refL m d
  | .none, h => h
  | .box _ _, h => fun c hc => (h c hc).le hm
  | .row _ _ _, h => h
  | .map _ _ _ _ _, h => h
theorem RD.upd {E : Env} {d : Nat} {u : Value} : ∀ {x : DV} {v : Value}, isCnd d x = false → RD w Z B E x v → RD w Z B (upd E d u) x v
  | .one _, _, _, h => h
  | .tup _, _, _, h => h
  | .cnd t b s, v, hc, h => by
    have ht : t ≠ d := Nat.ne_of_beq_eq_false hc
    show (Gw.upd E d u t = _ ∧ _) ∨ (Gw.upd E d u t ≠ _ ∧ _)
    rw [upd_other _ _ _ _ ht]; exact h
  | .dead, _, _, _ => trivial
end mono

section steps
variable {za : Zn} {w0 w w' : World} {Z Z' : Nat → Prop} {B : Nat → Value} {st : St} {E : Env}
theorem Rel.setS (h : Rel za w0 st E w Z B) (d : Nat) {x : DV} {v : Value} (hx : RD w Z B (upd E d v) x v) (hr : refD st.nx x) : Rel za w0 (st.setS d x) (upd E d v) w Z B := by
  refine ⟨h.ext, h.zlt, fun s => ?_, h.locs, h.disj, fun s => ?_, h.refl, h.fresh, h.bone, h.zin, h.nms, h.bfix, h.mrk⟩
  · rw [St.S_setS]
    by_cases hs : s = d
    · subst hs; simp only [if_true, upd_same]; exact hx
    · rw [if_neg hs, upd_other _ _ _ _ hs]
      cases hc : isCnd d (st.S s) with
      | true => trivial
      | false => exact RD.upd hc (h.slots s)
  · rw [St.S_setS]
    by_cases hs : s = d
    · rw [if_pos hs]; exact hr
    · rw [if_neg hs]
      cases hc : isCnd d (st.S s) with
      | true => trivial
      | false => exact h.refs s
theorem Rel.keep (h : Rel za w0 st E w Z B) (he : ExtM za.m w0 w') (hsz : w.heap.size ≤ w'.heap.size) (hb : ∀ b, (Z b ∨ ∃ k, live (st.L k) ∧ root (B k) = some b) → w'.heap[b]? = w.heap[b]?)
    (hz : ∀ b, Z b → Z' b) (hz' : ∀ b, Z' b → Z b ∨ (b < w'.heap.size ∧ w0.heap.size ≤ b ∧ ∀ k, live (st.L k) → root (B k) ≠ some b)) : Rel za w0 st E w' Z' B := by
  have hs : SameZ Z w w' := fun b hzb => hb b (.inl hzb)
  refine ⟨he, fun b hzb => ?_, fun s => (h.slots s).mono hz hs (fun _ _ => rfl) (h.refs s), fun k => ?_, h.disj, h.refs, h.refl, h.fresh, h.bone, fun b hzb => ?_, h.nms, h.bfix, ⟨Nat.le_trans h.mrk.1 hsz, h.mrk.2⟩⟩
  · rcases hz' b hzb with h1 | h1
    · exact Nat.lt_of_lt_of_le (h.zlt b h1) hsz
    · exact h1.1
  · refine (h.locs k).mono hz hs (fun _ _ => rfl) (fun _ => rfl) (fun b hl hr => hb b (.inr ⟨k, hl, hr⟩)) (fun b hl hr hzb => ?_) (h.refl k)
    rcases hz' b hzb with h1 | h1
    · exact ((h.locs k).root hl hr).2.2 h1
    · exact h1.2.2 k hl hr
  · rcases hz' b hzb with h1 | h1
    · exact h.zin b h1
    · exact .inr h1.2.1
/-- The world has more blocks; of the new ones any may be still. -/
theorem Rel.more (h : Rel za w0 st E w Z B) (hx : Ext w w') (hz : ∀ b, Z b → Z' b) (hz' : ∀ b, Z' b → Z b ∨ (w.heap.size ≤ b ∧ b < w'.heap.size)) : Rel za w0 st E w' Z' B := by
  refine h.keep (h.ext.trans hx) hx.size (fun b hb => hx.block b ?_) hz (fun b hb => ?_)
  · rcases hb with hb | ⟨k, hl, hr⟩
    · exact h.zlt b hb
    · exact ((h.locs k).root hl hr).2.1
  · rcases hz' b hb with h1 | h1
    · exact .inl h1
    · exact .inr ⟨h1.2, Nat.le_trans h.ext.size h1.1, fun k hl hr => by have := ((h.locs k).root hl hr).2.1; omega⟩
theorem Rel.new (h : Rel za w0 st E w Z B) {v : Value} {lc : LC} (hl : RL (up za w0 st.nx) w Z (upd B st.nx v) st.nx lc) (hd : ∀ k b, live (st.L k) → root v = some b → root (B k) ≠ some b) (hr : refL (st.nx + 1) lc) (hv1 : v.oneCell' = true) (hmk : ∀ b, za.k0 ≤ st.nx → root v = some b → za.b0 ≤ b) :
    Rel za w0 (st.newL lc) E w Z (upd B st.nx v) := by
  have hB : ∀ k, k < st.nx → (upd B st.nx v) k = B k := fun k hk => upd_other _ _ _ _ (Nat.ne_of_lt hk)
  have hBn : (upd B st.nx v) st.nx = v := upd_same _ _ _
  have hlv : ∀ k, live (st.L k) → k < st.nx := fun k hk => by
    by_cases hlt : k < st.nx
    · exact hlt
    · rw [h.fresh k (by omega)] at hk; exact hk.elim
  have hs : SameZ Z w w := fun _ _ => rfl
  refine ⟨h.ext, h.zlt, fun s => (h.slots s).mono (fun _ => id) hs hB (h.refs s), fun k => ?_, ?_, fun s => (h.refs s).le (Nat.le_succ _), fun k => ?_, fun k hk => ?_, fun k => ?_, h.zin, ⟨h.nms.1, Nat.le_succ_of_le h.nms.2⟩, fun k hk => (hB k (Nat.lt_of_lt_of_le hk h.nms.2)).trans (h.bfix k hk), h.mrk.1, fun k b hk hl hb => ?_⟩
  · rw [St.L_newL]
    by_cases hk : k = st.nx
    · subst hk; rw [if_pos rfl]; exact hl
    · rw [if_neg hk]
      by_cases hlv' : live (st.L k)
      · exact (h.locs k).mono (fun _ => id) hs hB (fun _ => hB k (hlv k hlv')) (fun _ _ _ => rfl) (fun b hl hb hz => ((h.locs k).root hl hb).2.2 hz) (h.refl k)
      · cases hq : st.L k <;> simp [hq, live] at hlv' <;> trivial
  · intro k k' b hne h1 h2 hb hb'
    rw [St.L_newL] at h1 h2
    by_cases hk : k = st.nx
    · subst hk
      rw [if_neg (Ne.symm hne)] at h2
      rw [hBn] at hb
      rw [hB k' (hlv k' h2)] at hb'
      exact hd k' b h2 hb hb'
    · rw [if_neg hk] at h1
      rw [hB k (hlv k h1)] at hb
      by_cases hk' : k' = st.nx
      · subst hk'
        rw [hBn] at hb'
        exact hd k b h1 hb' hb
      · rw [if_neg hk'] at h2
        rw [hB k' (hlv k' h2)] at hb'
        exact h.disj k k' b hne h1 h2 hb hb'
  · rw [St.L_newL]
    by_cases hk : k = st.nx
    · rw [if_pos hk]; exact hr
    · rw [if_neg hk]; exact (h.refl k).le (Nat.le_succ _)
  · rw [St.L_newL]
    have hk' : st.nx + 1 ≤ k := hk
    rw [if_neg (by omega)]
    exact h.fresh k (by omega)
  · by_cases hk : k = st.nx
    · rw [hk, hBn]; exact hv1
    · rw [upd_other _ _ _ _ hk]; exact h.bone k
  · rw [St.L_newL] at hl
    by_cases hkn : k = st.nx
    · subst hkn; rw [hBn] at hb; exact hmk b hk hb
    · rw [if_neg hkn] at hl
      rw [hB k (hlv k hl)] at hb
      exact h.mrk.2 k b hk hl hb
theorem Rel.drop (h : Rel za w0 st E w Z B) (k : Nat) : Rel za w0 (st.setL k .none) E w Z B := by
  refine ⟨h.ext, h.zlt, h.slots, fun q => ?_, fun q q' b hne h1 h2 => ?_, h.refs, fun q => ?_, fun q hq => ?_, h.bone, h.zin, h.nms, h.bfix, h.mrk.1, fun q b hk hl hb => (by rw [St.L_setL] at hl; split at hl; exact hl.elim; exact h.mrk.2 q b hk hl hb)⟩
  · rw [St.L_setL]; split
    · trivial
    · exact h.locs q
  · rw [St.L_setL] at h1 h2
    split at h1
    · exact h1.elim
    · split at h2
      · exact h2.elim
      · exact h.disj q q' b hne h1 h2
  · rw [St.L_setL]; split
    · trivial
    · exact h.refl q
  · rw [St.L_setL]; split
    · rfl
    · exact h.fresh q hq
/-- Number k's own block is written. -/
theorem Rel.chg (h : Rel za w0 st E w Z B) {k b : Nat} {lc : LC} (hk : live (st.L k)) (hb : root (B k) = some b) (hc : Chg b w w') (hl : RL (up za w0 k) w' Z B k lc) (hr : refL st.nx lc) : Rel za w0 (st.setL k lc) E w' Z B := by
  have h1 := (h.locs k).root hk hb
  have h2 : Rel za w0 (st.setL k .none) E w' Z B := by
    refine (h.drop k).keep (h.ext.chg hc h1.1.m) (by rw [hc.2.2.2.1]; exact Nat.le_refl _) (fun q hq => hc.2.2.2.2 q ?_) (fun _ => id) (fun _ => .inl)
    rintro rfl
    rcases hq with hq | ⟨k', hl', hr'⟩
    · exact h1.2.2 hq
    · rw [St.L_setL] at hl'
      by_cases hkk : k' = k
      · rw [if_pos hkk] at hl'; exact hl'.elim
      · rw [if_neg hkk] at hl'
        exact h.disj k' k q hkk hl' hk hr' hb
  have hkn : k < st.nx := by
    by_cases hlt : k < st.nx
    · exact hlt
    · rw [h.fresh k (by omega)] at hk; exact hk.elim
  have hL : ∀ q, (st.setL k lc).L q = if q = k then lc else (st.setL k .none).L q := fun q => by
    rw [St.L_setL, St.L_setL]; split <;> simp_all
  refine ⟨h2.ext, h2.zlt, h2.slots, fun q => ?_, fun q q' b' hne l1 l2 => ?_, h2.refs, fun q => ?_, fun q hq => ?_, h.bone, h.zin, h.nms, h.bfix, h2.mrk.1, fun q b hk' hl' hb' => (by
    rw [St.L_setL] at hl'
    by_cases hqk : q = k
    · exact h.mrk.2 q b hk' (by rw [hqk]; exact hk) hb'
    · rw [if_neg hqk] at hl'; exact h.mrk.2 q b hk' hl' hb')⟩
  · rw [hL]; split
    · rename_i hq; rw [hq]; exact hl
    · exact h2.locs q
  · have lv : ∀ q, live ((st.setL k lc).L q) → live (st.L q) := fun q hq => by
      rw [St.L_setL] at hq; split at hq
      · rename_i e; rw [e]; exact hk
      · exact hq
    exact h.disj q q' b' hne (lv q l1) (lv q' l2)
  · rw [hL]; split
    · exact hr
    · exact h2.refl q
  · rw [hL, if_neg (by have : st.nx ≤ q := hq; omega)]
    exact h2.fresh q hq
/-- The same content, said otherwise. -/
theorem Rel.relc (h : Rel za w0 st E w Z B) {k : Nat} {lc : LC} (hk : live (st.L k)) (hl : RL (up za w0 k) w Z B k lc) (hr : refL st.nx lc) : Rel za w0 (st.setL k lc) E w Z B := by
  have hkn : k < st.nx := by
    by_cases hlt : k < st.nx
    · exact hlt
    · rw [h.fresh k (by omega)] at hk; exact hk.elim
  refine ⟨h.ext, h.zlt, h.slots, fun q => ?_, fun q q' b' hne l1 l2 => ?_, h.refs, fun q => ?_, fun q hq => ?_, h.bone, h.zin, h.nms, h.bfix, h.mrk.1, fun q b hk' hl' hb' => (by
    rw [St.L_setL] at hl'
    by_cases hqk : q = k
    · exact h.mrk.2 q b hk' (by rw [hqk]; exact hk) hb'
    · rw [if_neg hqk] at hl'; exact h.mrk.2 q b hk' hl' hb')⟩
  · rw [St.L_setL]; split
    · rename_i hq; rw [hq]; exact hl
    · exact h.locs q
  · have lv : ∀ q, live ((st.setL k lc).L q) → live (st.L q) := fun q hq => by
      rw [St.L_setL] at hq; split at hq
      · rename_i e; rw [e]; exact hk
      · exact hq
    exact h.disj q q' b' hne (lv q l1) (lv q' l2)
  · rw [St.L_setL]; split
    · exact hr
    · exact h.refl q
  · rw [St.L_setL, if_neg (by have : st.nx ≤ q := hq; omega)]
    exact h.fresh q hq
end steps
end Go.Vc
