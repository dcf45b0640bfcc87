/- Operands, types and the operations that only compute. -/
import Derived.Test.YtedfiemhfpcggaaVcE
namespace Go.Vc
open Go Go.RowKit Go.Gw

/-! ### Ranges -/
theorem wrap_inR (k : IntKind) (n : Int) : inR k (k.wrap n) := by
  unfold inR
  cases k <;> simp only [IntKind.wrap, IntKind.min, IntKind.max, IntKind.signed, IntKind.bits] <;> simp <;> (try split) <;> omega
theorem inR_zero (k : IntKind) : inR k 0 := by unfold inR; cases k <;> decide
theorem min_le (k : IntKind) : k.min ≤ 0 ∧ 0 ≤ k.max := inR_zero k
theorem tmod_inR {k : IntKind} {a b : Int} (ha : inR k a) : inR k (a.tmod b) := by
  have h0 := min_le k
  unfold inR at *
  rcases Int.le_total 0 a with h | h
  · have h1 := Int.tmod_nonneg b h
    have h2 : a.tmod b ≤ a := by
      rw [Int.tmod_eq_emod_of_nonneg h]
      by_cases hb : b = 0
      · subst hb; simp
      · have e1 := Int.mul_ediv_add_emod a b
        rcases Int.le_total 0 b with hb' | hb'
        · have := Int.mul_nonneg hb' (Int.ediv_nonneg h hb'); omega
        · have := Int.mul_nonneg_of_nonpos_of_nonpos hb' (Int.ediv_nonpos_of_nonneg_of_nonpos h hb'); omega
    omega
  · have h1 : 0 ≤ (-a).tmod b := Int.tmod_nonneg b (by omega)
    have h2 : (-a).tmod b ≤ -a := by
      rw [Int.tmod_eq_emod_of_nonneg (by omega)]
      by_cases hb : b = 0
      · subst hb; simp
      · have e1 := Int.mul_ediv_add_emod (-a) b
        rcases Int.le_total 0 b with hb' | hb'
        · have := Int.mul_nonneg hb' (Int.ediv_nonneg (show 0 ≤ -a by omega) hb'); omega
        · have := Int.mul_nonneg_of_nonpos_of_nonpos hb' (Int.ediv_nonpos_of_nonneg_of_nonpos (show 0 ≤ -a by omega) hb'); omega
    rw [Int.neg_tmod] at h1 h2
    omega
theorem fdiv_inR {k : IntKind} {a : Int} (n : Nat) (ha : inR k a) : inR k (a.fdiv (2 ^ n)) := by
  have h0 := min_le k
  have hp : (0 : Int) < 2 ^ n := Int.pow_pos (by decide)
  have h1 : (1 : Int) ≤ 2 ^ n := hp
  unfold inR at *
  rw [Int.fdiv_eq_ediv_of_nonneg _ (by omega)]
  constructor
  · rw [Int.le_ediv_iff_mul_le hp]
    have : k.min * 2 ^ n ≤ k.min * 1 := Int.mul_le_mul_of_nonpos_left h0.1 h1
    omega
  · have : a / 2 ^ n < k.max + 1 := by
      rw [Int.ediv_lt_iff_lt_mul hp]
      have : (k.max + 1) * 1 ≤ (k.max + 1) * 2 ^ n := Int.mul_le_mul_of_nonneg_left h1 (by omega)
      omega
    omega

/-! ### Types -/
structure TI where
  ty : Ty
  agg : Bool
  elem : TypeId := 0
  fields : List (Nat × Nat × Bool) := []
  arr : Nat := 0
  bytes : Nat := 0
  eq : Bool := false
  key : TypeId := 0
/-- The cells of the zero value. -/
def zc (t : Ty) (vs : List Value) : Option (List Value) :=
  match t with
  | .int k => (match vs with | .int k' n :: r => bif decide (k = k') && decide (n = 0) then some r else none | _ => none)
  | .bool => (match vs with | .bool b :: r => bif b then none else some r | _ => none)
  | .str => (match vs with | .string s :: r => bif s.data.isEmpty then some r else none | _ => none)
  | .unit => some vs
  | .pair a b => (zc a vs).bind (zc b)
  | .sl _ => (match vs with | .slice none 0 0 :: r => some r | _ => none)
  | .ptr _ => (match vs with | .pointer none :: r => some r | _ => none)
  | .mp _ _ _ _ => (match vs with | .map none :: r => some r | _ => none)
def zeroV : Ty → List Value
  | .int k => [.int k 0]
  | .bool => [.bool false]
  | .str => [.string ⟨#[]⟩]
  | .unit => []
  | .pair a b => zeroV a ++ zeroV b
  | .sl _ => [.slice none 0 0]
  | .ptr _ => [.pointer none]
  | .mp _ _ _ _ => [.map none]
theorem zc_spec : ∀ {t : Ty} {vs r : List Value}, zc t vs = some r → vs = zeroV t ++ r
  | .int k, vs, r, h => by
    simp only [zc] at h
    split at h
    · rename_i k' n r'
      cases hk : decide (k = k') <;> simp [hk] at h
      cases hn : decide (n = 0) <;> simp at hn hk <;> simp [hn] at h
      subst hn hk h; rfl
    · cases h
  | .bool, vs, r, h => by
    simp only [zc] at h
    split at h
    · rename_i b r'
      cases b <;> simp at h
      subst h; rfl
    · cases h
  | .str, vs, r, h => by
    simp only [zc] at h
    split at h
    · rename_i s r'
      cases hs : s.data.isEmpty <;> simp [hs] at h
      subst h
      have : s = ⟨#[]⟩ := by cases s; simp at hs; simp [hs]
      rw [this]; rfl
    · cases h
  | .unit, vs, r, h => by simp [zc] at h; subst h; rfl
  | .pair a b, vs, r, h => by
    simp only [zc] at h
    cases h1 : zc a vs with
    | none => simp [h1] at h
    | some r1 =>
      simp [h1] at h
      rw [zc_spec h1, zc_spec h]; simp [zeroV]
  | .sl t, vs, r, h => by
    simp only [zc] at h
    split at h
    · cases h; rfl
    · cases h
  | .ptr t, vs, r, h => by
    simp only [zc] at h
    split at h
    · cases h; rfl
    · cases h
  | .mp _ _ _ _, vs, r, h => by
    simp only [zc] at h
    split at h
    · cases h; rfl
    · cases h
def isB (P : Program) (T : TypeId) : Bool := match P.underlying T with | some .bool => true | _ => false
def fieldA (P : Program) (T : TypeId) (f sz : Nat) (agg : Bool) : Bool :=
  match P.underlying T with
  | some (.struct fs) => (match fs[f]? with | some x => bif agg then aggT P x.type sz else (scalarT P x.type && Nat.beq sz 1) | none => false)
  | _ => false
def fieldsOk (P : Program) (T : TypeId) : Nat → List (Nat × Nat × Bool) → Bool
  | _, [] => true
  | f, (off, sz, agg) :: r => fieldT P T f off && fieldA P T f sz agg && fieldsOk P T (f + 1) r
def zeroOk (P : Program) (T : TypeId) (t : Ty) : Bool := match zeroT P T with | some z => (match zc t z.cells.toList with | some [] => true | _ => false) | none => false
def zeroForm (P : Program) (T : TypeId) (va : Bool) : Bool := match zeroT P T with | some (.agg _) => va | some (.tuple _) => false | some _ => !va | none => false
def tyOk (P : Program) (T : TypeId) (ti : TI) : Bool :=
  sizeT P T ti.ty.size && (bif ti.agg then aggT P T ti.ty.size else (scalarT P T && Nat.beq ti.ty.size 1)) && zeroOk P T ti.ty &&
  (match ti.ty with
   | .bool => isB P T
   | .sl t => sliceT P T ti.elem t.size && zeroOk P ti.elem t && (match P.info? ti.elem with | some i => Nat.beq i.bytes ti.bytes | none => false)
   | .int k => (match P.underlying T with | some (.int k') => decide (k = k') | _ => false)
   | .mp ka kt va vt => (match P.underlying T with | some (.map k e) => Nat.beq k ti.key && Nat.beq e ti.elem | _ => false) && keyT P ti.key ka kt && zeroOk P ti.elem vt && zeroForm P ti.elem va
   | _ => true) &&
  (bif ti.fields.isEmpty then true else (fieldsOk P T 0 ti.fields && (match placesT P T with | some pl => decide (pl = ti.fields.map fun x => (x.1, x.2.1)) | none => false))) &&
  (bif Nat.beq ti.arr 0 then true else (match P.underlying T with | some (.array n e) => Nat.beq n ti.arr && Nat.beq e ti.elem | _ => false)) &&
  (bif ti.eq then keyT P T ti.agg ti.ty else true)

/-! ### Operands -/
def constC : Value → C
  | .int k n => bif decide (k.min ≤ n) && decide (n ≤ k.max) then .val (.int k) n else .raw (.int k n)
  | .bool b => .val .bool b
  | .string s => .val .str s
  | v => bif v.oneCell' then .raw v else .dead
def constSV : Value → SV
  | .agg cs => ⟨true, cs.toList.map constC⟩
  | v => ⟨false, [constC v]⟩
theorem constC_ok {w : World} {Z : Nat → Prop} {B : Nat → Value} {n : Nat} (v : Value) : RC w Z B (constC v) v ∧ refC n (constC v) := by
  cases v with
  | int k m =>
    simp only [constC]
    cases h : decide (k.min ≤ m) && decide (m ≤ k.max) with
    | true => simp at h; simp only [cond_true]; exact ⟨⟨rfl, h⟩, trivial⟩
    | false => simp only [cond_false]; exact ⟨⟨rfl, rfl⟩, trivial⟩
  | _ => exact ⟨by first | rfl | exact ⟨rfl, rfl⟩ | trivial, by first | trivial | rfl⟩
theorem constCs_ok {w : World} {Z : Nat → Prop} {B : Nat → Value} {n : Nat} : ∀ vs : List Value, RCs w Z B (vs.map constC) vs ∧ ∀ c ∈ vs.map constC, refC n c
  | [] => ⟨rfl, by simp⟩
  | v :: vs => ⟨⟨v, vs, rfl, (constC_ok (n := n) v).1, (constCs_ok (n := n) vs).1⟩, fun c hc => by
      simp only [List.map_cons, List.mem_cons] at hc
      rcases hc with rfl | hc
      · exact (constC_ok (w := w) (Z := Z) (B := B) v).2
      · exact (constCs_ok (w := w) (Z := Z) (B := B) vs).2 c hc⟩
theorem constSV_ok {w : World} {Z : Nat → Prop} {B : Nat → Value} {n : Nat} (v : Value) : RS w Z B (constSV v) v ∧ refS n (constSV v) := by
  have base : ∀ v, RS w Z B ⟨false, [constC v]⟩ v ∧ refS n ⟨false, [constC v]⟩ := fun v => ⟨⟨v, [], rfl, (constC_ok (n := n) v).1, rfl⟩, fun c hc => by simp at hc; rw [hc]; exact (constC_ok (w := w) (Z := Z) (B := B) v).2⟩
  cases v with
  | agg cs => exact ⟨⟨cs.toList, by simp, (constCs_ok (n := n) cs.toList).1⟩, (constCs_ok (w := w) (Z := Z) (B := B) cs.toList).2⟩
  | _ => exact base _

abbrev Ctx := List (Tmp × Bool)
def inCtx (t : Tmp) (b : Bool) : Ctx → Bool
  | [] => false
  | (t', b') :: r => (Nat.beq t' t && (b == b')) || inCtx t b r
def St.ev (st : St) (ctx : Ctx) : Operand → Option SV
  | .tmp t => match st.S t with
    | .one v => some v
    | .cnd t' b v => bif inCtx t' b ctx then some v else none
    | _ => none
  | .const v => some (constSV v)
  | .func f => some ⟨false, [.fn f []]⟩
  | .global _ => none
def gctx (st : St) : Nat → Tmp → Bool → Ctx
  | 0, t, b => [(t, b)]
  | n + 1, t, b => (t, b) :: match st.S t with
    | .cnd t' b' _ => gctx st n t' b'
    | _ => []
def boolC : SV → Option Bool
  | ⟨false, [.val .bool e]⟩ => some e
  | _ => none
def gval (st : St) (t : Tmp) : Option Bool := match st.S t with
  | .one v => boolC v
  | .cnd _ _ v => boolC v
  | _ => none
/-- What the tests that an operation waits for say. -/
def ctxP (st : St) : Ctx → Prop
  | [] => True
  | (t, b) :: r => match gval st t with
    | some e => match r with
      | [] => e = b
      | r => e = b ∧ ctxP st r
    | none => ctxP st r
theorem ctxP_cons {st : St} {t : Tmp} {b e : Bool} {r : Ctx} (hg : gval st t = some e) : ctxP st ((t, b) :: r) ↔ e = b ∧ ctxP st r := by
  simp only [ctxP, hg]
  cases r with
  | nil => simp [ctxP]
  | cons _ _ => rfl
def CtxOk (E : Env) (ctx : Ctx) : Prop := ∀ t b, (t, b) ∈ ctx → E t = .bool b
theorem inCtx_mem {t : Tmp} {b : Bool} : ∀ {ctx : Ctx}, inCtx t b ctx = true → (t, b) ∈ ctx
  | (t', b') :: r, h => by
    simp only [inCtx, Bool.or_eq_true, Bool.and_eq_true] at h
    rcases h with ⟨h1, h2⟩ | h
    · have := Nat.eq_of_beq_eq_true h1; simp at h2; subst this h2; simp
    · simp [inCtx_mem h]
theorem undef_ne_bool (b : Bool) : undef ≠ .bool b := by simp [undef]
section
variable {za : Zn} {w0 w : World} {Z : Nat → Prop} {B : Nat → Value} {st : St} {E : Env}
theorem Rel.ev (h : Rel za w0 st E w Z B) {ctx : Ctx} (hc : CtxOk E ctx) {x : Operand} {v : SV} (hv : st.ev ctx x = some v) : RS w Z B v (Gw.ev E x) ∧ refS st.nx v := by
  cases x with
  | tmp t =>
    have hs := h.slots t
    have hr := h.refs t
    simp only [St.ev] at hv
    cases hd : st.S t with
    | one u => rw [hd] at hs hr hv; cases hv; exact ⟨hs, hr⟩
    | tup _ => rw [hd] at hv; cases hv
    | dead => rw [hd] at hv; cases hv
    | cnd t' b u =>
      rw [hd] at hs hr hv
      cases hi : inCtx t' b ctx with
      | false => simp [hi] at hv
      | true =>
        simp [hi] at hv
        subst hv
        rcases hs with ⟨_, hs⟩ | ⟨hs, _⟩
        · exact ⟨hs, hr⟩
        · exact absurd (hc t' b (inCtx_mem hi)) hs
  | const u => cases hv; exact constSV_ok u
  | func f => cases hv; exact ⟨⟨_, [], rfl, by show _ = _; rfl, rfl⟩, fun c hc => by simp at hc; subst hc; exact fun k hk => by cases hk⟩
  | global g => cases hv
theorem Rel.gctx (h : Rel za w0 st E w Z B) : ∀ {n : Nat} {t : Tmp} {b : Bool}, E t = .bool b → CtxOk E (gctx st n t b)
  | 0, t, b, he => fun t' b' hm => by simp [Vc.gctx] at hm; rw [hm.1, hm.2]; exact he
  | n + 1, t, b, he => fun t' b' hm => by
    unfold Vc.gctx at hm
    rcases List.mem_cons.1 hm with hm | hm
    · cases hm; exact he
    · have hs := h.slots t
      cases hd : st.S t with
      | cnd t1 b1 u =>
        rw [hd] at hs hm
        rcases hs with ⟨h1, _⟩ | ⟨_, h1⟩
        · exact h.gctx h1 t' b' hm
        · rw [he] at h1; exact absurd h1.symm (undef_ne_bool b)
      | one _ => rw [hd] at hm; cases hm
      | tup _ => rw [hd] at hm; cases hm
      | dead => rw [hd] at hm; cases hm
theorem boolC_ok {v : SV} {e : Bool} {u : Value} (h : RS w Z B v u) (hb : boolC v = some e) : u = .bool e := by
  unfold boolC at hb
  split at hb
  · cases hb
    obtain ⟨_, _, e1, h1, _⟩ := h
    cases e1
    simpa [RC, Rep] using h1
  · cases hb
theorem Rel.gval (h : Rel za w0 st E w Z B) {t : Tmp} {b e : Bool} (he : E t = .bool b) (hg : gval st t = some e) : e = b := by
  have hs := h.slots t
  unfold Vc.gval at hg
  cases hd : st.S t with
  | one u => rw [hd] at hs hg; have := boolC_ok hs hg; rw [he] at this; cases this; rfl
  | tup _ => rw [hd] at hg; cases hg
  | dead => rw [hd] at hg; cases hg
  | cnd t' b' u =>
    rw [hd] at hs hg
    rcases hs with ⟨_, hs⟩ | ⟨_, hs⟩
    · have := boolC_ok hs hg; rw [he] at this; cases this; rfl
    · rw [he] at hs; exact absurd hs.symm (undef_ne_bool b)
theorem Rel.ctxP (h : Rel za w0 st E w Z B) : ∀ {ctx : Ctx}, CtxOk E ctx → ctxP st ctx
  | [], _ => trivial
  | (t, b) :: r, hc => by
    have ih := h.ctxP (ctx := r) fun t b hm => hc t b (List.mem_cons_of_mem _ hm)
    cases hg : Vc.gval st t with
    | none => simp only [Vc.ctxP, hg]; exact ih
    | some e => exact (ctxP_cons hg).2 ⟨h.gval (hc t b (by simp)) hg, ih⟩
end
end Go.Vc
