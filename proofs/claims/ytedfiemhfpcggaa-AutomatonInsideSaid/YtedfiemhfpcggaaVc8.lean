/- All operations that only compute, together. -/
import Derived.Test.YtedfiemhfpcggaaVc7
namespace Go.Vc
open Go Go.RowKit Go.Gw

def noPtr : Ty → Bool
  | .ptr _ => false
  | .pair a b => noPtr a && noPtr b
  | _ => true
theorem zero_rep {w : World} {Z : Nat → Prop} : ∀ {t : Ty}, noPtr t = true → Rep t w Z (zeroV t) t.dflt
  | .int k, _ => ⟨rfl, inR_zero k⟩
  | .bool, _ => rfl
  | .str, _ => rfl
  | .unit, _ => rfl
  | .pair a b, h => by
    simp only [noPtr, Bool.and_eq_true] at h
    exact ⟨_, _, rfl, zero_rep h.1, zero_rep h.2⟩
  | .sl _, _ => ⟨none, 0, rfl, Nat.le_refl _, Nat.zero_le _, fun _ => rfl, .inl rfl⟩
  | .ptr _, h => by cases h
  | .mp _ _ _ _, _ => .inl ⟨rfl, rfl⟩
/-- The entries of a map. -/
def mapC (st : St) (ka : Bool) (kt : Ty) (va : Bool) (vt : Ty) : C → Option (List (kt.den × vt.den))
  | .mp k => match st.L k with
    | .map ka' kt' va' vt' es => if h : Ty.mp ka' kt' va' vt' = Ty.mp ka kt va vt then some (h ▸ (show (Ty.mp ka' kt' va' vt').den from es) : (Ty.mp ka kt va vt).den) else none
    | _ => none
  | .val t es => if h : t = Ty.mp ka kt va vt then some (h ▸ es : (Ty.mp ka kt va vt).den) else none
  | .raw (.map none) => some []
  | _ => none
def mvOp (st : St) (ctx : Ctx) (x : Operand) : Option (Option Prop × DV) :=
  match st.ev ctx x with
  | some s => some (none, .one s)
  | none => match x with
    | .tmp t => match st.S t with
      | .tup vs => some (none, .tup vs)
      | _ => none
    | _ => none
def pctx (st : St) (b : Bool) : Operand → Ctx
  | .tmp t => gctx st 20 t b
  | _ => []
def one1 (c : C) : DV := .one ⟨false, [c]⟩
def pickOp (st : St) (ctx : Ctx) (c a b : Operand) : Option (Option Prop × DV) := do
  let e ← (st.ev ctx c).bind boolC
  let ca ← (st.ev (pctx st true c ++ ctx) a).bind c1
  let cb ← (st.ev (pctx st false c ++ ctx) b).bind c1
  (pickC e ca cb).map fun c => (none, one1 c)
def unOpS (st : St) (ctx : Ctx) (op : UnOp) (x : Operand) : Option (Option Prop × DV) := do
  let c ← (st.ev ctx x).bind c1
  (unC op c).map fun c => (none, one1 c)
def isBoolC : C → Bool
  | .val .bool _ => true
  | _ => false
def binOpS (cx : Cx) (st : St) (ctx : Ctx) (op : BinOp) (T : TypeId) (x y : Operand) : Option (Option Prop × DV) := do
  let sx ← st.ev ctx x
  let sy ← st.ev ctx y
  match c1 sx, c1 sy with
  | some a, some b => bif isBoolC a && !(isB cx.P T) then none else (binC op a b).map fun r => (r.1, one1 r.2)
  | _, _ => do
    let ti ← cx.ti T
    let a ← packS true ti.ty sx
    let b ← packS true ti.ty sy
    bif ti.eq && ti.agg then (match op with
      | .eql => some (none, one1 (.val .bool (eqB ti.ty a b)))
      | .neq => some (none, one1 (.val .bool (!(eqB ti.ty a b))))
      | _ => none) else none
def extractOp (st : St) (x : Operand) (i : Nat) : Option (Option Prop × DV) :=
  match x with
  | .tmp t => match st.S t with
    | .tup vs => (vs[i]?).map fun s => (none, .one s)
    | _ => none
  | _ => none
def fieldAddrOp (cx : Cx) (st : St) (ctx : Ctx) (T : TypeId) (x : Operand) (f : Nat) : Option (Option Prop × DV) := do
  let ti ← cx.ti T
  let q ← ti.fields[f]?
  let c ← (st.ev ctx x).bind c1
  (faC q.1 c).map fun c => (none, one1 c)
def fieldOp (cx : Cx) (st : St) (ctx : Ctx) (T : TypeId) (x : Operand) (f : Nat) : Option (Option Prop × DV) := do
  let ti ← cx.ti T
  let q ← ti.fields[f]?
  let s ← st.ev ctx x
  bif s.agg then (cut q.1 q.2.1 s.cs).map fun cs => (none, .one ⟨q.2.2, cs⟩) else none
def loadOp (cx : Cx) (st : St) (ctx : Ctx) (T : TypeId) (x : Operand) : Option (Option Prop × DV) := do
  let ti ← cx.ti T
  let c ← (st.ev ctx x).bind c1
  (loadC st ti.ty.size c).map fun cs => (none, .one ⟨ti.agg, cs⟩)
def idxOp (cx : Cx) (st : St) (ctx : Ctx) (T : TypeId) (x ix : Operand) : Option (Option Prop × DV) := do
  let ti ← cx.ti T
  let c ← (st.ev ctx x).bind c1
  let i ← (st.ev ctx ix).bind intC
  let r ← idxC st i c
  match ti.ty, r.2 with
  | .sl t, .pf t' _ _ => bif decide (t = t') then some (r.1, one1 r.2) else none
  | .sl t, .elp _ sz _ _ => bif Nat.beq t.size sz then some (r.1, one1 r.2) else none
  | _, _ => none
def optI (st : St) (ctx : Ctx) : Option Operand → Option (Option Int)
  | none => some none
  | some o => ((st.ev ctx o).bind intC).map some
def sliceOp (cx : Cx) (st : St) (ctx : Ctx) (T : TypeId) (x : Operand) (lo hi : Option Operand) : Option (Option Prop × DV) := do
  let ti ← cx.ti T
  let c ← (st.ev ctx x).bind c1
  let l ← optI st ctx lo
  let h ← optI st ctx hi
  let r ← sliceC l h c
  match ti.ty, r.2 with
  | .sl t, .val (.sl t') _ => bif decide (t = t') then some (r.1, one1 r.2) else none
  | _, _ => none
def convOp (cx : Cx) (st : St) (ctx : Ctx) (T T' : TypeId) (x : Operand) : Option (Option Prop × DV) := do
  let ti ← cx.ti T
  let ti' ← cx.ti T'
  let c ← (st.ev ctx x).bind c1
  match ti.ty, ti'.ty, c with
  | .int _, .int k', .val (.int _) a => some (none, one1 (.val (.int k') (k'.wrap a)))
  | _, _, _ => none
def buildOp (cx : Cx) (st : St) (ctx : Ctx) (T : TypeId) (parts : List (Nat × Operand)) : Option (Option Prop × DV) := do
  let ti ← cx.ti T
  let l ← evParts st ctx parts
  bif ti.fields.isEmpty then (do
    let te ← cx.ti ti.elem
    bif Nat.beq ti.arr 0 then none else (fillC (fun i => some (i * te.ty.size, te.ty.size)) (zeroCs ti.ty) l).map fun cs => (none, .one ⟨true, cs⟩))
  else (fillC (fun i => (ti.fields.map fun x => (x.1, x.2.1))[i]?) (zeroCs ti.ty) l).map fun cs => (none, .one ⟨true, cs⟩)
def valsOf (t : Ty) : List C → Option (List t.den)
  | [] => some []
  | c :: r => (asTy t c).bind fun x => (valsOf t r).map (x :: ·)
def indexOp (cx : Cx) (st : St) (ctx : Ctx) (T : TypeId) (x ix : Operand) : Option (Option Prop × DV) := do
  let ti ← cx.ti T
  let te ← cx.ti ti.elem
  let s ← st.ev ctx x
  let i ← (st.ev ctx ix).bind intC
  let vs ← valsOf te.ty s.cs
  bif s.agg && !te.agg && !(Nat.beq ti.arr 0) && Nat.beq te.ty.size 1 && Nat.beq vs.length ti.arr then
    (match te.ty, vs with
     | .int k, vs => some (some (0 ≤ i ∧ i < (vs.length : Int)), one1 (.val (.int k) (gx 0 vs i)))
     | .bool, vs => some (some (0 ≤ i ∧ i < (vs.length : Int)), one1 (.val .bool (gx false vs i)))
     | _, _ => none) else none
def lookupOp (cx : Cx) (st : St) (ctx : Ctx) (T : TypeId) (x ix : Operand) (ck : Bool) : Option (Option Prop × DV) := do
  let ti ← cx.ti T
  let c ← (st.ev ctx x).bind c1
  let sk ← st.ev ctx ix
  match ti.ty with
  | .mp ka kt va vt => do
    let es ← mapC st ka kt va vt c
    let k ← packS ka kt sk
    bif noPtr vt then some (none, bif ck then .tup [⟨va, explode vt ((mfind kt k es).getD vt.dflt)⟩, ⟨false, [.val .bool (mfind kt k es).isSome]⟩] else .one ⟨va, explode vt ((mfind kt k es).getD vt.dflt)⟩) else none
  | _ => none
def mkfOp (st : St) (ctx : Ctx) (fn : Fn) (first caps : List Operand) : Option (Option Prop × DV) :=
  match fn, first with
  | .func f, [] => do
    let ss ← evL st ctx caps
    let ks ← capL ss
    some (none, one1 (.fn f ks))
  | _, _ => none
def builtinOp (cx : Cx) (st : St) (ctx : Ctx) (b : Builtin) (args : List Operand) (ts : List TypeId) : Option (Option Prop × DV) :=
  match b, args, ts with
  | .len, [x], [T] => do
    let ti ← cx.ti T
    let c ← (st.ev ctx x).bind c1
    let n ← lenC st c
    match ti.ty, c with
    | _, .mp _ => none
    | .sl _, _ => some (none, one1 (.val (.int .i64) n))
    | _, _ => none
  | .max, [x, y], _ => do
    match ← (st.ev ctx x).bind c1, ← (st.ev ctx y).bind c1 with
    | .val (.int k) a, .val (.int k') b => bif decide (k = k') then some (none, one1 (.val (.int k) (max a b))) else none
    | _, _ => none
  | .min, [x, y], _ => do
    match ← (st.ev ctx x).bind c1, ← (st.ev ctx y).bind c1 with
    | .val (.int k) a, .val (.int k') b => bif decide (k = k') then some (none, one1 (.val (.int k) (min a b))) else none
    | _, _ => none
  | .max, [x, y, z], _ => do
    match ← (st.ev ctx x).bind c1, ← (st.ev ctx y).bind c1, ← (st.ev ctx z).bind c1 with
    | .val (.int k) a, .val (.int k') b, .val (.int k'') c => bif decide (k = k') && decide (k = k'') then some (none, one1 (.val (.int k) (max (max a b) c))) else none
    | _, _, _ => none
  | _, _, _ => none
def pureOp (cx : Cx) (st : St) (ctx : Ctx) : Op → Option (Option Prop × DV)
  | .move x => mvOp st ctx x
  | .assign x => mvOp st ctx x
  | .pick c a b => pickOp st ctx c a b
  | .unOp op _ x => unOpS st ctx op x
  | .binOp op T x y _ => binOpS cx st ctx op T x y
  | .extract x i => extractOp st x i
  | .fieldAddr T x f => fieldAddrOp cx st ctx T x f
  | .field T x f => fieldOp cx st ctx T x f
  | .load T x => loadOp cx st ctx T x
  | .indexAddr T x i => idxOp cx st ctx T x i
  | .index T x i => indexOp cx st ctx T x i
  | .lookup T x i ck => lookupOp cx st ctx T x i ck
  | .slice T x lo hi none => sliceOp cx st ctx T x lo hi
  | .convert T T' x => convOp cx st ctx T T' x
  | .build T parts => buildOp cx st ctx T parts.toList
  | .makeFunc fn first caps => mkfOp st ctx fn first.toList caps.toList
  | .call ⟨.builtin b, args, ts⟩ => builtinOp cx st ctx b args.toList ts.toList
  | _ => none

section
variable {za : Zn} {w0 w : World} {Z : Nat → Prop} {B : Nat → Value} {st : St} {E : Env} {cx : Cx}
theorem bind_some {α β : Type} {x : Option α} {f : α → Option β} {b : β} : x.bind f = some b ↔ ∃ a, x = some a ∧ f a = some b := Option.bind_eq_some_iff
theorem Rel.tup (h : Rel za w0 st E w Z B) {t : Tmp} {vs : List SV} (hd : st.S t = .tup vs) : ∃ us : List Value, E t = .tuple us.toArray ∧ RSs w Z B vs us ∧ ∀ s ∈ vs, refS st.nx s := by
  have hs := h.slots t
  have hr := h.refs t
  rw [hd] at hs hr
  obtain ⟨us, e, h1⟩ := hs
  exact ⟨us, e, h1, hr⟩
theorem RSs.get : ∀ {ss : List SV} {vs : List Value} {i : Nat} {s : SV}, RSs w Z B ss vs → ss[i]? = some s → ∃ v, vs[i]? = some v ∧ RS w Z B s v
  | [], _, _, _, _, hi => by simp at hi
  | s' :: ss, _, i, s, ⟨v, vs', e, h1, h2⟩, hi => by
    cases i with
    | zero => simp at hi; subst hi; exact ⟨v, by rw [e]; rfl, h1⟩
    | succ i => simp at hi; obtain ⟨u, h3, h4⟩ := RSs.get h2 hi; exact ⟨u, by rw [e]; simpa using h3, h4⟩
theorem tyOk_parts {P : Program} {T : TypeId} {ti : TI} (h : tyOk P T ti = true) : sizeT P T ti.ty.size = true ∧ (ti.agg = true ∧ aggT P T ti.ty.size = true ∨ ti.agg = false ∧ scalarT P T = true ∧ ti.ty.size = 1) ∧ zeroOk P T ti.ty = true := by
  simp only [tyOk, Bool.and_eq_true] at h
  obtain ⟨⟨⟨⟨⟨⟨h1, h2⟩, h3⟩, _⟩, _⟩, _⟩, _⟩ := h
  refine ⟨h1, ?_, h3⟩
  cases ha : ti.agg with
  | true => rw [ha] at h2; exact .inl ⟨rfl, h2⟩
  | false => simp only [ha, cond_false, Bool.and_eq_true] at h2; exact .inr ⟨rfl, h2.1, Nat.eq_of_beq_eq_true h2.2⟩
theorem tyOk_sl {P : Program} {T : TypeId} {ti : TI} {t : Ty} (h : tyOk P T ti = true) (ht : ti.ty = .sl t) : sliceT P T ti.elem t.size = true ∧ zeroOk P ti.elem t = true ∧ ∃ i, P.info? ti.elem = some i ∧ i.bytes = ti.bytes := by
  simp only [tyOk, Bool.and_eq_true] at h
  obtain ⟨⟨⟨⟨_, h4⟩, _⟩, _⟩, _⟩ := h
  rw [ht] at h4
  simp only [Bool.and_eq_true] at h4
  refine ⟨h4.1.1, h4.1.2, ?_⟩
  cases hi : P.info? ti.elem with
  | none => simp [hi] at h4
  | some i => simp only [hi] at h4; exact ⟨i, rfl, Nat.eq_of_beq_eq_true h4.2⟩
theorem tyOk_int {P : Program} {T : TypeId} {ti : TI} {k : IntKind} (h : tyOk P T ti = true) (ht : ti.ty = .int k) : intT P T k = true := by
  simp only [tyOk, Bool.and_eq_true] at h
  obtain ⟨⟨⟨⟨_, h4⟩, _⟩, _⟩, _⟩ := h
  rw [ht] at h4
  exact h4
theorem tyOk_fields {P : Program} {T : TypeId} {ti : TI} (h : tyOk P T ti = true) (he : ti.fields.isEmpty = false) : fieldsOk P T 0 ti.fields = true ∧ placesT P T = some (ti.fields.map fun x => (x.1, x.2.1)) := by
  simp only [tyOk, Bool.and_eq_true] at h
  obtain ⟨⟨⟨_, h5⟩, _⟩, _⟩ := h
  simp only [he, cond_false, Bool.and_eq_true] at h5
  refine ⟨h5.1, ?_⟩
  cases hp : placesT P T with
  | none => simp [hp] at h5
  | some pl => simp only [hp, decide_eq_true_eq] at h5; rw [h5.2]
theorem tyOk_arr {P : Program} {T : TypeId} {ti : TI} (h : tyOk P T ti = true) (he : Nat.beq ti.arr 0 = false) : P.underlying T = some (.array ti.arr ti.elem) := by
  simp only [tyOk, Bool.and_eq_true] at h
  obtain ⟨⟨_, h6⟩, _⟩ := h
  simp only [he, cond_false] at h6
  split at h6
  · rename_i n e hu
    simp only [Bool.and_eq_true] at h6
    rw [hu, Nat.eq_of_beq_eq_true h6.1, Nat.eq_of_beq_eq_true h6.2]
  · cases h6
theorem tyOk_mp {P : Program} {T : TypeId} {ti : TI} {ka va : Bool} {kt vt : Ty} (h : tyOk P T ti = true) (ht : ti.ty = .mp ka kt va vt) : P.underlying T = some (.map ti.key ti.elem) ∧ keyT P ti.key ka kt = true ∧ zeroOk P ti.elem vt = true ∧ zeroForm P ti.elem va = true := by
  simp only [tyOk, Bool.and_eq_true] at h
  obtain ⟨⟨⟨⟨_, h4⟩, _⟩, _⟩, _⟩ := h
  rw [ht] at h4
  simp only [Bool.and_eq_true] at h4
  obtain ⟨⟨⟨h1, h2⟩, h3⟩, h5⟩ := h4
  refine ⟨?_, h2, h3, h5⟩
  split at h1
  · rename_i k e hu
    simp only [Bool.and_eq_true] at h1
    rw [hu, Nat.eq_of_beq_eq_true h1.1, Nat.eq_of_beq_eq_true h1.2]
  · cases h1
theorem tyOk_eq {P : Program} {T : TypeId} {ti : TI} (h : tyOk P T ti = true) (he : ti.eq = true) : keyT P T ti.agg ti.ty = true := by
  simp only [tyOk, Bool.and_eq_true] at h
  have := h.2
  rw [he] at this
  exact this
theorem fieldsOk_get {P : Program} {T : TypeId} : ∀ {l : List (Nat × Nat × Bool)} {f0 f : Nat} {q : Nat × Nat × Bool}, fieldsOk P T f0 l = true → l[f]? = some q → fieldT P T (f0 + f) q.1 = true ∧ fieldA P T (f0 + f) q.2.1 q.2.2 = true
  | [], _, _, _, _, hi => by simp at hi
  | (off, sz, agg) :: l, f0, f, q, h, hi => by
    simp only [fieldsOk, Bool.and_eq_true] at h
    cases f with
    | zero => simp at hi; subst hi; exact h.1
    | succ f =>
      simp at hi
      have := fieldsOk_get h.2 hi
      rw [show f0 + 1 + f = f0 + (f + 1) from by omega] at this
      exact this
theorem isEmpty_false_of_get {α : Type} {l : List α} {i : Nat} {a : α} (h : l[i]? = some a) : l.isEmpty = false := by
  cases l with
  | nil => simp at h
  | cons _ _ => rfl
end
end Go.Vc
