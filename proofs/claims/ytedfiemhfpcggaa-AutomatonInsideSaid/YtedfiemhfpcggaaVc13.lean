/- What a function is said to do, and calls. -/
import Derived.Test.YtedfiemhfpcggaaVc12
namespace Go.Vc
open Go Go.RowKit Go.Gw

/-- How an argument is passed. row, box: memory that the callee may write; fn: a function of which only this is known. -/
inductive AM where
  | val (agg : Bool) (t : Ty)
  | row (t : Ty) (e : TypeId)
  | box (T : TypeId) (t : Ty)
  | fn (as : List (Bool × Ty)) (r : Ty)
@[reducible] def AM.den : AM → Type
  | .val _ t => t.den
  | .row t _ => List t.den
  | .box _ t => t.den
  | .fn as r => (densB as → Prop) × (densB as → r.den)
@[reducible] def dens : List AM → Type
  | [] => Unit
  | a :: r => a.den × dens r
/-- What is written. -/
@[reducible] def outs : List AM → Type
  | [] => Unit
  | .row t _ :: r => List t.den × outs r
  | .box _ t :: r => t.den × outs r
  | .val _ _ :: r => outs r
  | .fn _ _ :: r => outs r
def isMut : AM → Bool
  | .row _ _ => true
  | .box _ _ => true
  | _ => false
def hasMut (as : List AM) : Bool := as.any isMut
def allVal (as : List AM) : Bool := as.all fun a => match a with | .val _ _ => true | _ => false
/-- A result: a value, or a row that the caller owns from then on. -/
inductive RT where
  | val (agg : Bool) (t : Ty)
  | own (t : Ty) (e : TypeId)
@[reducible] def RT.den : RT → Type
  | .val _ t => t.den
  | .own t _ => List t.den
@[reducible] def rdens : List RT → Type
  | [] => Unit
  | r :: rs => r.den × rdens rs
def RT.wf : (r : RT) → r.den → Prop
  | .val _ t, x => t.wf x
  | .own t _, l => (Ty.sl t).wf l
def rwf : (rs : List RT) → rdens rs → Prop
  | [], _ => True
  | r :: rs, x => r.wf x.1 ∧ rwf rs x.2
def AM.wf : (a : AM) → a.den → Prop
  | .val _ t, x => t.wf x
  | .row t _, x => (Ty.sl t).wf x
  | .box _ t, x => t.wf x
  | .fn _ _, _ => True
def awf : (as : List AM) → dens as → Prop
  | [], _ => True
  | a :: r, x => a.wf x.1 ∧ awf r x.2
def owf : (as : List AM) → outs as → Prop
  | [], _ => True
  | .row t _ :: r, x => (Ty.sl t).wf x.1 ∧ owf r x.2
  | .box _ t :: r, x => t.wf x.1 ∧ owf r x.2
  | .val _ _ :: r, x => owf r x
  | .fn _ _ :: r, x => owf r x
def bwf : (as : List (Bool × Ty)) → densB as → Prop
  | [], _ => True
  | (_, t) :: r, x => t.wf x.1 ∧ bwf r x.2
def rdflt : (rs : List RT) → rdens rs
  | [] => ()
  | .val _ t :: rs => (t.dflt, rdflt rs)
  | .own _ _ :: rs => ([], rdflt rs)
structure FSpec where
  args : List AM
  res : List RT
  shared : Bool := false
  pre : dens args → Prop
  post : dens args → rdens res → Prop
  mpost : dens args → rdens res → outs args → Prop := fun _ _ _ => True
def RepAM (P : Program) (w : World) (Z : Nat → Prop) : (a : AM) → Value → a.den → Prop
  | .val a t, v, x => RepV a t w Z v x
  | .row t e, v, l => ∃ xs, w.ownsRow 0 e t.size v l.length xs ∧ Each (Rep t w Z) xs l ∧ ∀ b, v.ownBlock = some b → ¬ Z b
  | .box T t, v, x => ∃ b vs, v = .pointer (some ⟨b, 0, none⟩) ∧ ¬ Z b ∧ Blk w b vs T ∧ Rep t w Z vs.toList x
  | .fn as r, v, x => FnOk P w Z v as r x.1 x.2
def RepAs (P : Program) (w : World) (Z : Nat → Prop) : (as : List AM) → List Value → dens as → Prop
  | [], vs, _ => vs = []
  | a :: r, vs, x => ∃ v vs', vs = v :: vs' ∧ RepAM P w Z a v x.1 ∧ RepAs P w Z r vs' x.2
/-- The values through which the callee may write. -/
def mutVals : List AM → List Value → List Value
  | a :: r, v :: vs => bif isMut a then v :: mutVals r vs else mutVals r vs
  | _, _ => []
def mset (as : List AM) (vs : List Value) : Nat → Prop := fun b => ∃ u ∈ mutVals as vs, root u = some b
def Dis : List Value → Prop
  | [] => True
  | u :: us => (∀ b, root u = some b → ∀ u' ∈ us, root u' ≠ some b) ∧ Dis us
/-- What the memory that could be written holds now. -/
def RepO (w' : World) (Zn : Nat → Prop) : (as : List AM) → List Value → outs as → Prop
  | .row t e :: r, v :: vs, x => (∃ xs, w'.ownsRow 0 e t.size v x.1.length xs ∧ Each (Rep t w' Zn) xs x.1) ∧ RepO w' Zn r vs x.2
  | .box T t :: r, v :: vs, x => (∃ b us, v = .pointer (some ⟨b, 0, none⟩) ∧ Blk w' b us T ∧ Rep t w' Zn us.toList x.1) ∧ RepO w' Zn r vs x.2
  | .val _ _ :: r, _ :: vs, x => RepO w' Zn r vs x
  | .fn _ _ :: r, _ :: vs, x => RepO w' Zn r vs x
  | [], _, _ => True
  | _ :: _, [], _ => False
def RepR (base : Nat) (w' : World) (Zn : Nat → Prop) : (r : RT) → Value → r.den → Prop
  | .val a t, v, x => RepV a t w' Zn v x
  | .own t e, v, l => ∃ xs, w'.ownsRow base e t.size v l.length xs ∧ Each (Rep t w' Zn) xs l ∧ ∀ b, v.ownBlock = some b → ¬ Zn b
def isOwn : RT → Bool
  | .own _ _ => true
  | _ => false
def ownVals : List RT → List Value → List Value
  | .own _ _ :: rs, v :: vs => v :: ownVals rs vs
  | .val _ _ :: rs, _ :: vs => ownVals rs vs
  | _, _ => []
def RepRs (base : Nat) (w' : World) (Zn : Nat → Prop) : (rs : List RT) → List Value → rdens rs → Prop
  | [], vs, _ => vs = []
  | r :: rs, vs, x => ∃ v vs', vs = v :: vs' ∧ RepR base w' Zn r v x.1 ∧ (isOwn r = true → ∀ b, v.ownBlock = some b → ∀ u ∈ ownVals rs vs', u.ownBlock ≠ some b) ∧ RepRs base w' Zn rs vs' x.2
def valOf : List Value → Value
  | [v] => v
  | vs => .tuple vs.toArray
/-- The function does what is said of it. -/
def Meets (P : Program) (f : FuncId) (s : FSpec) : Prop :=
  ∀ (w : World) (Z : Nat → Prop) (vs : List Value) (x : dens s.args), (∀ b, Z b → b < w.heap.size) → RepAs P w Z s.args vs x → Dis (mutVals s.args vs) → s.pre x →
    Gw.Ret P f vs w fun v w' => ExtM (mset s.args vs) w w' ∧ ∃ (r : rdens s.res) (o : outs s.args) (us : List Value) (Zn : Nat → Prop), s.post x r ∧ (hasMut s.args = true → s.mpost x r o) ∧ v = valOf us ∧ (∀ b, Zn b → (w.heap.size ≤ b ∧ b < w'.heap.size) ∨ (s.shared = true ∧ Z b)) ∧ RepRs w.heap.size w' Zn s.res us r ∧ RepO w' Zn s.args vs o
theorem allVal_mut {as : List AM} (h : allVal as = true) : ∀ vs, mutVals as vs = [] := by
  induction as with
  | nil => intro vs; cases vs <;> rfl
  | cons a as ih =>
    intro vs
    simp only [allVal, List.all_cons, Bool.and_eq_true] at h
    cases a <;> simp at h
    cases vs with
    | nil => rfl
    | cons v vs => exact ih (by simpa [allVal] using h) vs
theorem noMut_mut {as : List AM} (h : hasMut as = false) : ∀ vs, mutVals as vs = [] := by
  induction as with
  | nil => intro vs; cases vs <;> rfl
  | cons a as ih =>
    intro vs
    simp only [hasMut, List.any_cons, Bool.or_eq_false_iff] at h
    cases vs with
    | nil => rfl
    | cons v vs => simp only [mutVals, h.1, cond_false]; exact ih h.2 vs

/-! ### Arguments -/
/-- The things mu are passed to be written; all others may be read. -/
def lendR (st : St) (mu : List Nat) : C → C
  | .row k => bif mu.any (Nat.beq k) then .dead else (match st.L k with
    | .row t _ l => .val (.sl t) l
    | _ => .dead)
  | .mp k => bif mu.any (Nat.beq k) then .dead else (match st.L k with
    | .map ka kt va vt es => .val (.mp ka kt va vt) es
    | _ => .dead)
  | c => c
def packA (st : St) (mu : List Nat) (agg : Bool) (t : Ty) (s : SV) : Option t.den :=
  match t, s with
  | .ptr t', ⟨false, [.box k 0]⟩ => bif mu.any (Nat.beq k) then none else (match st.L k with
    | .box _ cs => match pack t' (cs.map (lendR st mu)) with
      | some (x, []) => bif agg then none else some x
      | _ => none
    | _ => none)
  | t, s => packS agg t ⟨s.agg, s.cs.map (lendR st mu)⟩
def packV (st : St) (mu : List Nat) (sh : Bool) (agg : Bool) (t : Ty) (s : SV) : Option t.den := bif sh then packS agg t s else packA st mu agg t s
/-- The row number k. -/
def rowAt (st : St) (t : Ty) (e : TypeId) (k : Nat) : Option (List t.den) := match st.L k with
  | .row t' e' l => if h : t' = t then (bif Nat.beq e' e then some (h ▸ l) else none) else none
  | _ => none
def boxAt (st : St) (T : TypeId) (t : Ty) (k : Nat) : Option t.den := match st.L k with
  | .box T' cs => bif Nat.beq T' T then (match pack t cs with | some (x, []) => some x | _ => none) else none
  | _ => none
/-- The things that are passed to be written. -/
def rowOf : SV → Option Nat
  | ⟨false, [.row k]⟩ => some k
  | _ => none
def boxOf : SV → Option Nat
  | ⟨false, [.box k 0]⟩ => some k
  | _ => none
def mutIds : List AM → List SV → Option (List Nat)
  | [], [] => some []
  | .row _ _ :: r, s :: ss => (rowOf s).bind fun k => (mutIds r ss).map (k :: ·)
  | .box _ _ :: r, s :: ss => (boxOf s).bind fun k => (mutIds r ss).map (k :: ·)
  | .val _ _ :: r, _ :: ss => mutIds r ss
  | .fn _ _ :: r, _ :: ss => mutIds r ss
  | _, _ => none
def packVs (st : St) (mu : List Nat) (sh : Bool) : (as : List AM) → List SV → Option (dens as)
  | [], [] => some ()
  | .val a t :: r, s :: ss => (packV st mu sh a t s).bind fun x => (packVs st mu sh r ss).map fun y => (x, y)
  | _, _ => none
/-- The arguments of a function that is passed on: those of its caller, and what it has caught. -/
def fnArgs (st : St) (mu : List Nat) : (as : List (Bool × Ty)) → densB as → (args : List AM) → List SV → Option (dens args)
  | [], _, args, caps => packVs st mu false args caps
  | (a, t) :: r, y, .val a' t' :: args, caps => if h : t = t' then (bif a == a' then (fnArgs st mu r y.2 args caps).map fun z => ((h ▸ y.1 : t'.den), z) else none) else none
  | _ :: _, _, _, _ => none
/-- What g has to do to be passed as a function that returns φ where ok. -/
def resIs (r : Ty) : (rs : List RT) → rdens rs → r.den → Prop
  | [.val false t], z, u => if h : t = r then (h ▸ z.1 : r.den) = u else False
  | _, _, _ => False
def fnP (st : St) (mu : List Nat) (sg : FSpec) (as : List (Bool × Ty)) (r : Ty) (caps : List SV) (ok : densB as → Prop) (φ : densB as → r.den) : Prop :=
  ∀ y, bwf as y → ok y → match fnArgs st mu as y sg.args caps with
    | some x => sg.pre x ∧ ∀ z, rwf sg.res z → sg.post x z → resIs r sg.res z (φ y)
    | none => False
def flatT : Ty → Bool
  | .sl _ => false
  | .ptr _ => false
  | .mp _ _ _ _ => false
  | .pair a b => flatT a && flatT b
  | _ => true
def flatR : RT → Bool
  | .val _ t => flatT t
  | .own t _ => flatT t
def isBoxL : LC → Bool
  | .box _ _ => true
  | _ => false
def nodupB : List Nat → Bool
  | [] => true
  | k :: l => !(l.any fun j => Nat.beq k j) && nodupB l
abbrev Specs := List (Nat × FSpec)
def packK (cx : Cx) (sp : Specs) (st : St) (mu : List Nat) (sh : Bool) : (as : List AM) → List SV → (dens as → Prop) → Prop
  | [], [], k => k ()
  | .val a t :: r, s :: ss, k => match packV st mu sh a t s with
    | some x => packK cx sp st mu sh r ss fun y => k (x, y)
    | none => False
  | .row t e :: r, s :: ss, k => match rowOf s with
    | some q => (match rowAt st t e q with
      | some l => bif mu.any (Nat.beq q) then packK cx sp st mu sh r ss fun y => k (l, y) else False
      | none => False)
    | none => False
  | .box T t :: r, s :: ss, k => match boxOf s with
    | some q => (match boxAt st T t q with
      | some x => bif mu.any (Nat.beq q) then packK cx sp st mu sh r ss fun y => k (x, y) else False
      | none => False)
    | none => False
  | .fn as' r' :: r, s :: ss, k => match c1 s with
    | some (.fn g ks) => match findO g sp with
      | some sg => bif enters cx.P g && allVal sg.args && sg.res.all flatR && (!sh || ks.isEmpty) && ks.all (fun k => isBoxL (st.L k)) then
          ∃ (ok : densB as' → Prop) (φ : densB as' → r'.den), fnP st mu sg as' r' (ks.map fun k => ⟨false, [.box k 0]⟩) ok φ ∧ packK cx sp st mu sh r ss fun y => k ((ok, φ), y)
        else False
      | none => False
    | some (.fv P' as'' r'' ok φ) => if h : as'' = as' ∧ r'' = r' then P' = cx.P ∧ packK cx sp st mu sh r ss fun y => k ((h.1 ▸ ok, fun z => h.2 ▸ φ (h.1 ▸ z)), y) else False
    | _ => False
  | _, _, _ => False
def placeR : (rs : List RT) → rdens rs → St → List SV × St
  | [], _, st => ([], st)
  | .val a t :: rs, x, st => (fun p => (⟨a, explode t x.1⟩ :: p.1, p.2)) (placeR rs x.2 st)
  | .own t e :: rs, x, st => (fun p => (⟨false, [.row st.nx]⟩ :: p.1, p.2)) (placeR rs x.2 (st.newL (.row t e x.1)))
def dvOf : List SV → DV
  | [s] => .one s
  | ss => .tup ss

section
variable {za : Zn} {w0 w w' : World} {Z : Nat → Prop} {B : Nat → Value} {st : St} {E : Env} {P : Program}
/-- What is lent for a call. -/
def lz (st : St) (mu : List Nat) (B : Nat → Value) (Z : Nat → Prop) (sh : Bool) : Nat → Prop := fun b => Z b ∨ (sh = false ∧ ∃ k, mu.any (Nat.beq k) = false ∧ live (st.L k) ∧ root (B k) = some b)
variable {mu : List Nat}
theorem lendR_ok (h : Rel za w0 st E w Z B) {c : C} {v : Value} (hc : RC w Z B c v) : RC w (lz st mu B Z false) B (lendR st mu c) v := by
  have hm : ∀ {c : C}, RC w Z B c v → RC w (lz st mu B Z false) B c v := fun {c} hc => by
    cases c with
    | val t x => exact Rep.mono (fun _ => .inl) (fun _ _ => rfl) hc
    | pf t x off => obtain ⟨b, o, ec, e, hb, h1, h2⟩ := hc; exact ⟨b, o, ec, e, .inl hb, h1, Rep.mono (fun _ => .inl) (fun _ _ => rfl) h2⟩
    | fv P as r ok φ => exact RC.mono (n := 0) (c := .fv P as r ok φ) (fun _ => .inl) (fun _ _ => rfl) (fun _ _ => rfl) trivial hc
    | _ => exact hc
  cases c with
  | row k =>
    simp only [lendR]
    cases hmu : mu.any (Nat.beq k) with
    | true => trivial
    | false =>
      cases hk : st.L k with
      | row t e l =>
        have hL := h.locs k
        rw [hk] at hL
        obtain ⟨xs, hown, heach, _⟩ := hL
        have hv : v = B k := hc
        subst hv
        exact own_rep hown (heach.mono fun _ _ => Rep.mono (fun _ => .inl) (fun _ _ => rfl)) (fun b hb => .inr ⟨rfl, k, hmu, by rw [hk]; trivial, (own_root hown).trans hb⟩)
      | _ => trivial
  | mp k =>
    simp only [lendR]
    cases hmu : mu.any (Nat.beq k) with
    | true => trivial
    | false =>
      cases hk : st.L k with
      | map ka kt va vt es =>
        have hL := h.locs k
        rw [hk] at hL
        obtain ⟨b, ents, cl, e, _, _, hb, he⟩ := hL
        have hv : v = B k := hc
        rw [e] at hv
        subst hv
        exact map_rep hb (he.mono (fun _ => .inl) (fun _ _ => rfl)) (.inr ⟨rfl, k, hmu, by rw [hk]; trivial, by rw [e]; rfl⟩)
      | _ => trivial
  | _ => exact hm hc
theorem lendRs_ok (h : Rel za w0 st E w Z B) : ∀ {cs : List C} {vs : List Value}, RCs w Z B cs vs → RCs w (lz st mu B Z false) B (cs.map (lendR st mu)) vs
  | [], _, hc => hc
  | _ :: _, _, ⟨v, vs', e, h1, h2⟩ => ⟨v, vs', e, lendR_ok h h1, lendRs_ok h h2⟩
theorem packA_ok (h : Rel za w0 st E w Z B) {a : Bool} {t : Ty} {s : SV} {v : Value} {x : t.den} (hs : RS w Z B s v) (hp : packA st mu a t s = some x) : RepV a t w (lz st mu B Z false) v x := by
  have gen : ∀ {t : Ty} {x : t.den}, packS a t ⟨s.agg, s.cs.map (lendR st mu)⟩ = some x → RepV a t w (lz st mu B Z false) v x := fun hp => by
    refine packS_ok (B := B) ?_ hp
    obtain ⟨sa, cs⟩ := s
    cases sa with
    | true => obtain ⟨vs, e, hs⟩ := hs; exact ⟨vs, e, lendRs_ok h hs⟩
    | false => exact lendRs_ok h (vs := [v]) hs
  unfold packA at hp
  split at hp
  · rename_i t' k
    cases hmu : mu.any (Nat.beq k) with
    | true => simp [hmu] at hp
    | false =>
      simp only [hmu, cond_false] at hp
      split at hp
      · rename_i T cs hk
        split at hp
        · rename_i y hy
          cases a with
          | true => simp at hp
          | false =>
            simp only [cond_false, Option.some.injEq] at hp
            subst hp
            have hL := h.locs k
            rw [hk] at hL
            obtain ⟨b, vs, e, _, _, hblk, hcs⟩ := hL
            obtain ⟨_, _, e1, ⟨b', e2, hv⟩, _⟩ := hs
            cases e1
            rw [e] at e2; cases e2
            subst hv
            exact ⟨b, 0, vs.toList, rfl, .inr ⟨rfl, k, hmu, by rw [hk]; trivial, by rw [e]; rfl⟩, hblk.cellsAt, pack_all (lendRs_ok h hcs) hy⟩
        · cases hp
      · cases hp
  · exact gen hp
theorem packV_ok (h : Rel za w0 st E w Z B) {sh a : Bool} {t : Ty} {s : SV} {v : Value} {x : t.den} (hs : RS w Z B s v) (hp : packV st mu sh a t s = some x) : RepV a t w (lz st mu B Z sh) v x := by
  unfold packV at hp
  cases sh with
  | true => exact (packS_ok hs hp).mono (fun _ => .inl) (fun _ _ => rfl)
  | false => exact packA_ok h hs hp
theorem packVs_ok (h : Rel za w0 st E w Z B) {sh : Bool} : ∀ {as : List AM} {ss : List SV} {vs : List Value} {x : dens as}, RSs w Z B ss vs → packVs st mu sh as ss = some x → RepAs P w (lz st mu B Z sh) as vs x
  | [], [], vs, _, hs, _ => hs
  | [], _ :: _, _, _, _, hp => by cases hp
  | a :: r, [], _, _, _, hp => by cases a <;> cases hp
  | .val a t :: r, s :: ss, _, x, ⟨v, vs', e, h1, h2⟩, hp => by
    simp only [packVs, bind_some, Option.map_eq_some_iff] at hp
    obtain ⟨y, hy, z, hz, rfl⟩ := hp
    exact ⟨v, vs', e, packV_ok h h1 hy, packVs_ok h h2 hz⟩
  | .row _ _ :: _, _ :: _, _, _, _, hp => by cases hp
  | .box _ _ :: _, _ :: _, _, _, _, hp => by cases hp
  | .fn _ _ :: _, _ :: _, _, _, _, hp => by cases hp
theorem lz_lt (h : Rel za w0 st E w Z B) {sh : Bool} : ∀ b, lz st mu B Z sh b → b < w.heap.size := fun b hb => by
  rcases hb with hb | ⟨_, k, _, hk, hr⟩
  · exact h.zlt b hb
  · exact ((h.locs k).root hk hr).2.1
theorem RepAs.mono {Z' : Nat → Prop} (hz : ∀ b, Z b → Z' b) (hs : SameZ Z w w') : ∀ {as : List AM} {vs : List Value} {x : dens as}, allVal as = true → RepAs P w Z as vs x → RepAs P w' Z' as vs x
  | [], _, _, _, h => h
  | .val a t :: r, _, _, ha, ⟨v, vs', e, h1, h2⟩ => ⟨v, vs', e, RepV.mono hz hs h1, RepAs.mono hz hs (by simpa [allVal] using ha) h2⟩
  | .row _ _ :: _, _, _, ha, _ => by simp [allVal] at ha
  | .box _ _ :: _, _, _, ha, _ => by simp [allVal] at ha
  | .fn _ _ :: _, _, _, ha, _ => by simp [allVal] at ha
theorem RepAM.wf' {a : AM} {v : Value} {x : a.den} (h : RepAM P w Z a v x) : a.wf x := by
  cases a with
  | val a t => exact RepA.wf' (fun _ _ => Rep.wf) h
  | row t e => obtain ⟨xs, h1, h3, _⟩ := h; exact Rep.wf (own_rep (Z := fun _ => True) h1 (h3.mono fun _ _ => Rep.mono (fun _ _ => trivial) (fun _ _ => rfl)) (fun _ _ => trivial))
  | box T t => obtain ⟨b, vs, _, _, _, h4⟩ := h; exact Rep.wf h4
  | fn _ _ => trivial
theorem RepAs.awf : ∀ {as : List AM} {vs : List Value} {x : dens as}, RepAs P w Z as vs x → awf as x
  | [], _, _, _ => trivial
  | a :: r, _, x, ⟨v, vs', e, h1, h2⟩ => ⟨RepAM.wf' h1, RepAs.awf h2⟩
theorem RepB.bwf : ∀ {as : List (Bool × Ty)} {vs : List Value} {x : densB as}, RepB w Z as vs x → bwf as x
  | [], _, _, _ => trivial
  | _ :: _, _, _, ⟨v, vs', e, h1, h2⟩ => ⟨RepA.wf' (fun _ _ => Rep.wf) h1, RepB.bwf h2⟩
theorem RepO.owf : ∀ {as : List AM} {vs : List Value} {x : outs as}, RepO w Z as vs x → owf as x
  | [], _, _, _ => trivial
  | .row t e :: r, [], x, h => h.elim
  | .box t e :: r, [], x, h => h.elim
  | .val t e :: r, [], x, h => h.elim
  | .fn t e :: r, [], x, h => h.elim
  | .row t e :: r, v :: vs, x, ⟨⟨xs, h1, h3⟩, h2⟩ => ⟨Rep.wf (own_rep (Z := fun _ => True) h1 (h3.mono fun _ _ => Rep.mono (fun _ _ => trivial) (fun _ _ => rfl)) (fun _ _ => trivial)), RepO.owf h2⟩
  | .box T t :: r, v :: vs, x, ⟨⟨b, us, _, _, h4⟩, h2⟩ => ⟨Rep.wf h4, RepO.owf h2⟩
  | .val _ _ :: r, v :: vs, x, h => RepO.owf (as := r) (vs := vs) h
  | .fn _ _ :: r, v :: vs, x, h => RepO.owf (as := r) (vs := vs) h
/-- The arguments of a function that is passed on. -/
theorem fnArgs_ok {Zc Z' : Nat → Prop} (hs : SameZ Zc w w') {caps : List Value} {cs : List SV} (hcap : ∀ {as : List AM} {x : dens as}, packVs st mu false as cs = some x → RepAs P w Zc as caps x) : ∀ {as : List (Bool × Ty)} {args : List AM} {y : densB as} {vs : List Value} {x : dens args}, allVal args = true → RepB w' Z' as vs y → fnArgs st mu as y args cs = some x → RepAs P w' (fun b => Zc b ∨ Z' b) args (vs ++ caps) x
  | [], args, y, vs, x, ha, hv, hx => by
    rw [show vs = [] from hv]
    exact (hcap hx).mono (fun _ => .inl) hs ha
  | (a, t) :: r, [], _, _, _, _, _, hx => by simp [fnArgs] at hx
  | (a, t) :: r, .row _ _ :: _, _, _, _, ha, _, _ => by simp [allVal] at ha
  | (a, t) :: r, .box _ _ :: _, _, _, _, ha, _, _ => by simp [allVal] at ha
  | (a, t) :: r, .fn _ _ :: _, _, _, _, ha, _, _ => by simp [allVal] at ha
  | (a, t) :: r, .val a' t' :: args, y, vs, x, ha, ⟨v, vs', e, h1, h2⟩, hx => by
    simp only [fnArgs] at hx
    split at hx
    · rename_i ht
      subst ht
      cases hab : a == a' with
      | false => simp [hab] at hx
      | true =>
        simp only [hab, cond_true, Option.map_eq_some_iff] at hx
        have : a = a' := by simpa using hab
        subst this
        obtain ⟨z, hz, rfl⟩ := hx
        subst e
        exact ⟨v, vs' ++ caps, rfl, RepV.mono (fun _ => .inr) (fun _ _ => rfl) h1, fnArgs_ok hs hcap (by simpa [allVal] using ha) h2 hz⟩
    · cases hx
theorem Rep.flat : ∀ {t : Ty} {w : World} {Z Z' : Nat → Prop} {cs : List Value} {x : t.den}, flatT t = true → Rep t w Z cs x → Rep t w Z' cs x
  | .int _, _, _, _, _, _, _, h => h
  | .bool, _, _, _, _, _, _, h => h
  | .str, _, _, _, _, _, _, h => h
  | .unit, _, _, _, _, _, _, h => h
  | .pair a b, _, _, _, _, _, hf, ⟨c1, c2, e, h1, h2⟩ => by
    simp only [flatT, Bool.and_eq_true] at hf
    exact ⟨c1, c2, e, Rep.flat hf.1 h1, Rep.flat hf.2 h2⟩
  | .sl _, _, _, _, _, _, hf, _ => by cases hf
  | .ptr _, _, _, _, _, _, hf, _ => by cases hf
  | .mp _ _ _ _, _, _, _, _, _, hf, _ => by cases hf
theorem RSs.append : ∀ {a b : List SV} {x y : List Value}, RSs w Z B a x → RSs w Z B b y → RSs w Z B (a ++ b) (x ++ y)
  | [], _, _, _, h, h' => by rw [show _ = _ from h]; exact h'
  | _ :: _, _, _, y, ⟨v, x', e, h1, h2⟩, h' => ⟨v, x' ++ y, by rw [e]; rfl, h1, RSs.append h2 h'⟩
theorem caps_ok (h : Rel za w0 st E w Z B) : ∀ {ks : List Nat}, ks.all (fun k => isBoxL (st.L k)) = true → RSs w Z B (ks.map fun k => ⟨false, [.box k 0]⟩) (ks.map B)
  | [], _ => rfl
  | q :: ks, hk => by
    simp only [List.all_cons, Bool.and_eq_true] at hk
    refine ⟨B q, _, rfl, ⟨B q, [], rfl, ?_, rfl⟩, caps_ok h hk.2⟩
    have hL := h.locs q
    cases hl : st.L q <;> rw [hl] at hk hL <;> try (cases hk.1)
    obtain ⟨b, _, e, _⟩ := hL
    exact ⟨b, e, e⟩
theorem res_flat {r : Ty} {base : Nat} {Zn : Nat → Prop} : ∀ {rs : List RT} {us : List Value} {z : rdens rs} {u : r.den}, rs.all flatR = true → RepRs base w Zn rs us z → resIs r rs z u → Rep r w (fun _ => False) [valOf us] u
  | [.val false t], _, z, u, hfl, ⟨v1, vs1, e1, hr1, _, hr2⟩, hres => by
    simp only [resIs] at hres
    split at hres
    · rename_i ht
      subst ht
      rw [← hres]
      rw [show vs1 = [] from hr2] at e1
      rw [e1]
      simp only [List.all_cons, List.all_nil, Bool.and_true] at hfl
      exact Rep.flat (cs := [v1]) hfl hr1
    · exact hres.elim
  | [], _, _, _, _, _, h => h.elim
  | [.val true _], _, _, _, _, _, h => h.elim
  | [.own _ _], _, _, _, _, _, h => h.elim
  | .val false _ :: _ :: _, _, _, _, _, _, h => h.elim
  | .val true _ :: _ :: _, _, _, _, _, _, h => h.elim
  | .own _ _ :: _ :: _, _, _, _, _, _, h => h.elim
def SpOk (P : Program) (sp : Specs) : Prop := ∀ f s, findO f sp = some s → Meets P f s
/-- A function that is passed does what is said of it. -/
theorem fn_ok (h : Rel za w0 st E w Z B) {sg : FSpec} {g : FuncId} {sh : Bool} {as : List (Bool × Ty)} {r : Ty} {ks : List Nat} {v : Value} {ok : densB as → Prop} {φ : densB as → r.den} (hm : Meets P g sg) (he : enters P g = true) (hv : v = .func (.func g) #[] (ks.map B).toArray) (hall : allVal sg.args = true) (hfl : sg.res.all flatR = true) (hk : ks.all (fun k => isBoxL (st.L k)) = true) (hsh : sh = false ∨ ks = []) (hp : fnP st mu sg as r (ks.map fun k => ⟨false, [.box k 0]⟩) ok φ) : FnOk P w (lz st mu B Z sh) v as r ok φ := by
  refine ⟨g, ks.map B, hv, he, fun w' Z' vs y hs hlt hlt' hrep hok => ?_⟩
  have h1 := hp y hrep.bwf hok
  split at h1
  · rename_i x hx
    have hcap : ∀ {as : List AM} {x : dens as}, packVs st mu false as (ks.map fun k => ⟨false, [.box k 0]⟩) = some x → RepAs P w (lz st mu B Z sh) as (ks.map B) x := fun {as x} hx => by
      rcases hsh with rfl | rfl
      · exact packVs_ok h (caps_ok h hk) hx
      · cases as with
        | nil => rfl
        | cons a as => cases a <;> cases hx
    have hra := fnArgs_ok (P := P) hs hcap hall hrep hx
    refine (hm w' _ _ x (fun b hb => hb.elim (hlt b) (hlt' b)) hra (by rw [allVal_mut hall]; trivial) h1.1).mono fun u w'' ⟨hx', z, o, us, Zn, hpost, _, hu, _, hrr, _⟩ => ?_
    have hns : ∀ b, ¬ mset sg.args (vs ++ ks.map B) b := fun b ⟨u, hu, _⟩ => by rw [allVal_mut hall] at hu; cases hu
    refine ⟨hx'.ext hns, ?_⟩
    have hres : resIs r sg.res z (φ y) := h1.2 z (by
      clear h1 hpost hu hx' hra hp hm hx hfl
      have : ∀ {rs : List RT} {vs : List Value} {x : rdens rs}, RepRs w'.heap.size w'' Zn rs vs x → rwf rs x := by
        intro rs
        induction rs with
        | nil => intros; trivial
        | cons q rs ih =>
          rintro vs x ⟨v, vs', e, h1, _, h2⟩
          refine ⟨?_, ih h2⟩
          cases q with
          | val a t => exact RepA.wf' (fun _ _ => Rep.wf) h1
          | own t e => obtain ⟨xs, g1, g3, _⟩ := h1; exact Rep.wf (own_rep (Z := fun _ => True) g1 (g3.mono fun _ _ => Rep.mono (fun _ _ => trivial) (fun _ _ => rfl)) (fun _ _ => trivial))
      exact this hrr) hpost
    rw [hu]; exact res_flat hfl hrr hres
  · exact h1.elim
theorem rowAt_ok {t : Ty} {e : TypeId} {q : Nat} {l : List t.den} (hl : rowAt st t e q = some l) : st.L q = .row t e l := by
  unfold rowAt at hl
  split at hl
  · rename_i t' e' l' hk
    split at hl
    · rename_i ht; subst ht
      cases he : Nat.beq e' e with
      | false => simp [he] at hl
      | true => simp only [he, cond_true] at hl; cases hl; rw [hk, Nat.eq_of_beq_eq_true he]
    · cases hl
  · cases hl
theorem boxAt_ok {T : TypeId} {t : Ty} {q : Nat} {x : t.den} (hl : boxAt st T t q = some x) : ∃ cs, st.L q = .box T cs ∧ pack t cs = some (x, []) := by
  unfold boxAt at hl
  split at hl
  · rename_i T' cs hk
    cases he : Nat.beq T' T with
    | false => simp [he] at hl
    | true =>
      simp only [he, cond_true] at hl
      split at hl
      · rename_i y hy; cases hl; exact ⟨cs, by rw [hk, Nat.eq_of_beq_eq_true he], hy⟩
      · cases hl
  · cases hl
theorem mu_not_lz (h : Rel za w0 st E w Z B) {q b : Nat} {sh : Bool} (hq : mu.any (Nat.beq q) = true) (hl : live (st.L q)) (hb : root (B q) = some b) : ¬ lz st mu B Z sh b := fun hz => by
  rcases hz with hz | ⟨_, k, hk, hlk, hkb⟩
  · exact ((h.locs q).root hl hb).2.2 hz
  · have : q ≠ k := fun e => by subst e; rw [hq] at hk; cases hk
    exact h.disj q k b this hl hlk hb hkb
theorem rowOf_ok {s : SV} {q : Nat} (h : rowOf s = some q) : s = ⟨false, [.row q]⟩ := by
  unfold rowOf at h; split at h
  · cases h; rfl
  · cases h
theorem boxOf_ok {s : SV} {q : Nat} (h : boxOf s = some q) : s = ⟨false, [.box q 0]⟩ := by
  unfold boxOf at h; split at h
  · cases h; rfl
  · cases h
variable {cx : Cx} {sp : Specs}
theorem packK_ok (h : Rel za w0 st E w Z B) (hsp : SpOk cx.P sp) {sh : Bool} : ∀ {as : List AM} {ss : List SV} {vs : List Value} {k : dens as → Prop}, RSs w Z B ss vs → packK cx sp st mu sh as ss k → ∃ x, RepAs cx.P w (lz st mu B Z sh) as vs x ∧ k x
  | [], [], vs, k, hs, hk => ⟨(), hs, hk⟩
  | [], _ :: _, _, _, _, hk => hk.elim
  | a :: r, [], _, _, _, hk => by cases a <;> exact hk.elim
  | .val a t :: r, s :: ss, _, k, ⟨v, vs', e, h1, h2⟩, hk => by
    simp only [packK] at hk
    split at hk
    · rename_i x hx
      obtain ⟨y, hy, hky⟩ := packK_ok h hsp h2 hk
      exact ⟨(x, y), ⟨v, vs', e, packV_ok h h1 hx, hy⟩, hky⟩
    · exact hk.elim
  | .row t e0 :: r, s :: ss, _, k, ⟨v, vs', e, h1, h2⟩, hk => by
    simp only [packK] at hk
    split at hk
    · rename_i q hrq
      rw [rowOf_ok hrq] at h1
      split at hk
      · rename_i l hl
        cases hmu : mu.any (Nat.beq q) with
        | false => simp [hmu] at hk
        | true =>
          simp only [hmu, cond_true] at hk
          obtain ⟨y, hy, hky⟩ := packK_ok h hsp h2 hk
          have hq := rowAt_ok hl
          have hL := h.locs q
          rw [hq] at hL
          obtain ⟨xs, g1, g2, g3⟩ := hL
          obtain ⟨_, _, e1, e2, _⟩ := h1
          cases e1
          have e2 : v = B q := e2
          refine ⟨(l, y), ⟨v, vs', e, ⟨xs, by rw [e2]; exact g1, g2.mono fun _ _ => Rep.mono (fun _ => .inl) (fun _ _ => rfl), fun b hb => ?_⟩, hy⟩, hky⟩
          rw [e2] at hb
          exact mu_not_lz h hmu (by rw [hq]; trivial) ((own_root g1).trans hb)
      · exact hk.elim
    · exact hk.elim
  | .box T t :: r, s :: ss, _, k, ⟨v, vs', e, h1, h2⟩, hk => by
    simp only [packK] at hk
    split at hk
    · rename_i q hrq
      rw [boxOf_ok hrq] at h1
      split at hk
      · rename_i x hx
        cases hmu : mu.any (Nat.beq q) with
        | false => simp [hmu] at hk
        | true =>
          simp only [hmu, cond_true] at hk
          obtain ⟨y, hy, hky⟩ := packK_ok h hsp h2 hk
          obtain ⟨cs, hq, hpk⟩ := boxAt_ok hx
          have hL := h.locs q
          rw [hq] at hL
          obtain ⟨b, us, g1, g2, g3, g4, g5⟩ := hL
          obtain ⟨_, _, e1, ⟨b', e2, e3⟩, _⟩ := h1
          cases e1
          rw [g1] at e2; cases e2
          refine ⟨(x, y), ⟨v, vs', e, ⟨b, us, e3, mu_not_lz h hmu (by rw [hq]; trivial) (by rw [g1]; rfl), g4, (pack_all g5 hpk).mono (fun _ => .inl) (fun _ _ => rfl)⟩, hy⟩, hky⟩
      · exact hk.elim
    · exact hk.elim
  | .fn as' r' :: r, s :: ss, _, k, ⟨v, vs', e, h1, h2⟩, hk => by
    simp only [packK] at hk
    split at hk
    · rename_i g ks hc
      split at hk
      · rename_i sg hsg
        cases hg : enters cx.P g && allVal sg.args && sg.res.all flatR && (!sh || ks.isEmpty) && ks.all (fun k => isBoxL (st.L k)) with
        | false => simp only [hg, cond_false] at hk
        | true =>
          simp only [hg, cond_true] at hk
          simp only [Bool.and_eq_true, Bool.or_eq_true, Bool.not_eq_true', List.isEmpty_iff] at hg
          obtain ⟨ok, φ, hp, hk⟩ := hk
          obtain ⟨y, hy, hky⟩ := packK_ok h hsp h2 hk
          have hcs : s = ⟨false, [.fn g ks]⟩ := by
            unfold c1 at hc; split at hc
            · cases hc; rfl
            · cases hc
          subst hcs
          obtain ⟨_, _, e1, e2, _⟩ := h1
          cases e1
          exact ⟨((ok, φ), y), ⟨v, vs', e, fn_ok h (hsp g sg hsg) hg.1.1.1.1 e2 hg.1.1.1.2 hg.1.1.2 hg.2 hg.1.2 hp, hy⟩, hky⟩
      · exact hk.elim
    · rename_i P' as'' r'' ok φ hc
      split at hk
      · rename_i hh
        obtain ⟨rfl, rfl⟩ := hh
        obtain ⟨rfl, hk⟩ := hk
        obtain ⟨y, hy, hky⟩ := packK_ok h hsp h2 hk
        have hcs : s = ⟨false, [.fv cx.P as'' r'' ok φ]⟩ := by
          unfold c1 at hc; split at hc
          · cases hc; rfl
          · cases hc
        subst hcs
        obtain ⟨_, _, e1, e2, _⟩ := h1
        cases e1
        exact ⟨((ok, φ), y), ⟨v, vs', e, RC.mono (n := 0) (c := .fv cx.P as'' r'' ok φ) (B' := B) (fun _ => .inl) (fun _ _ => rfl) (fun _ _ => rfl) trivial e2, hy⟩, hky⟩
      · exact hk.elim
    · exact hk.elim
theorem RepRs.rwf {base : Nat} {Zn : Nat → Prop} : ∀ {rs : List RT} {vs : List Value} {x : rdens rs}, RepRs base w' Zn rs vs x → rwf rs x
  | [], _, _, _ => trivial
  | .val a t :: rs, _, x, ⟨v, vs', e, h1, _, h2⟩ => ⟨by
      exact RepA.wf' (fun _ _ => Rep.wf) h1, RepRs.rwf h2⟩
  | .own t e :: rs, _, x, ⟨v, vs', _, ⟨xs, h1, h3, _⟩, _, h2⟩ => ⟨Rep.wf (own_rep (Z := fun _ => True) h1 (h3.mono fun _ _ => Rep.mono (fun _ _ => trivial) (fun _ _ => rfl)) (fun _ _ => trivial)), RepRs.rwf h2⟩
/-- The results are put into the state. -/
theorem Rel.place {base : Nat} {Zn : Nat → Prop} : ∀ {rs : List RT} {us : List Value} {r : rdens rs} {st : St} {B : Nat → Value}, Rel za w0 st E w' Z B → w0.heap.size ≤ base → za.b0 ≤ base → (∀ b, Zn b → Z b) → (∀ b, base ≤ b → Z b → Zn b) → (∀ b, base ≤ b → ∀ k, live (st.L k) → root (B k) = some b → ∀ u ∈ ownVals rs us, u.ownBlock ≠ some b) → RepRs base w' Zn rs us r →
    ∃ B', Rel za w0 (placeR rs r st).2 E w' Z B' ∧ RSs w' Z B' (placeR rs r st).1 us ∧ (∀ s ∈ (placeR rs r st).1, refS (placeR rs r st).2.nx s) ∧ (∀ k, k < st.nx → B' k = B k) ∧ st.nx ≤ (placeR rs r st).2.nx ∧ (∀ j, j < st.nx → (placeR rs r st).2.L j = st.L j) ∧ (∀ j b, st.nx ≤ j → live ((placeR rs r st).2.L j) → root (B' j) = some b → base ≤ b)
  | [], us, _, st, B, h, _, _, _, _, _, hr => ⟨B, h, hr, by simp [placeR], fun _ _ => rfl, Nat.le_refl _, fun _ _ => rfl, fun j b hj hl _ => by
    have hl : live (st.L j) := hl
    rw [h.fresh j hj] at hl; exact hl.elim⟩
  | .val a t :: rs, us, r, st, B, h, hb, hmb, hz, hz', hd, ⟨v, us', e, h1, _, h2⟩ => by
    subst e
    obtain ⟨B', g1, g2, g3, g4, g5, g6⟩ := Rel.place (rs := rs) (us := us') h hb hmb hz hz' (fun b hb k hk hr u hu => hd b hb k hk hr u hu) h2
    refine ⟨B', g1, ⟨v, us', rfl, RepV.explode (RepV.mono hz (fun _ _ => rfl) h1), g2⟩, fun s hs => ?_, g4, g5, g6⟩
    rcases List.mem_cons.1 hs with rfl | hs
    · exact explode_ref
    · exact g3 s hs
  | .own t e :: rs, us, r, st, B, h, hb, hmb, hz, hz', hd, ⟨v, us', eq, ⟨xs, hown, heach, hnz⟩, hdis, h2⟩ => by
    subst eq
    have hro := own_root hown
    have hlt := World.ownsRow.lt hown
    have hown' : w'.ownsRow 0 e t.size v r.1.length xs := own_base hown (Nat.zero_le _)
    have hv1 : v.oneCell' = true := by rcases hown.2 with ⟨hv, _⟩ | ⟨_, _, _, hv, _⟩ <;> rw [hv] <;> rfl
    have h3 := h.new (v := v) (lc := .row t e r.1) ⟨xs, by rw [upd_same]; exact hown', heach.mono fun _ _ => Rep.mono hz (fun _ _ => rfl), fun b hb' => by
      rw [upd_same] at hb'
      exact ⟨.inl (Nat.le_trans hb (hlt b hb').1), fun hzb => hnz b hb' (hz' b (hlt b hb').1 hzb)⟩⟩
      (fun k b hl hb' hb'' => by
        have hvb : v.ownBlock = some b := hro ▸ hb'
        exact hd b (hlt b hvb).1 k hl hb'' v (by simp [ownVals]) hvb) trivial hv1 (fun b _ hb' => Nat.le_trans hmb (hlt b (hro ▸ hb')).1)
    obtain ⟨B', g1, g2, g3, g4, g5, g6, g7⟩ := Rel.place h3 hb hmb hz hz' (fun b hb' k hk hr u hu => by
      rw [St.L_newL] at hk
      by_cases hkn : k = st.nx
      · subst hkn
        rw [upd_same] at hr
        exact hdis rfl b (hro ▸ hr) u hu
      · rw [if_neg hkn] at hk
        rw [upd_other _ _ _ _ hkn] at hr
        exact hd b hb' k hk hr u (by simp [ownVals, hu])) h2
    have hBn : B' st.nx = v := by rw [g4 st.nx (Nat.lt_succ_self _), upd_same]
    refine ⟨B', g1, ⟨v, us', rfl, ⟨v, [], rfl, hBn.symm, rfl⟩, g2⟩, fun s hs => ?_, fun k hk => ?_, Nat.le_trans (Nat.le_succ _) g5, fun j hj => ?_, fun j b hj hl hb' => ?_⟩
    · rcases List.mem_cons.1 hs with rfl | hs
      · intro c hc; simp at hc; subst hc; exact Nat.lt_of_lt_of_le (Nat.lt_succ_self _) g5
      · exact g3 s hs
    · rw [g4 k (Nat.lt_succ_of_lt hk), upd_other _ _ _ _ (Nat.ne_of_lt hk)]
    · have := g6 j (Nat.lt_succ_of_lt hj)
      simp only [placeR]
      rw [this, St.L_newL, if_neg (Nat.ne_of_lt hj)]
    · by_cases hjn : j = st.nx
      · subst hjn
        rw [hBn, hro] at hb'
        exact (hlt b hb').1
      · exact g7 j b (by have : st.nx ≤ j := hj; show st.nx + 1 ≤ j; omega) hl hb'
theorem valOf_ok {ss : List SV} {us : List Value} (h : RSs w Z B ss us) (E' : Env) : RD w Z B E' (dvOf ss) (valOf us) := by
  match ss, h with
  | [], h => rw [show us = [] from h]; exact ⟨[], rfl, rfl⟩
  | [s], ⟨v, us', e, h1, h2⟩ => rw [e, show us' = [] from h2]; exact h1
  | s :: s' :: r, ⟨v, us', e, h1, v', us'', e', h2, h3⟩ =>
    subst e'
    subst e
    exact ⟨_, rfl, v, _, rfl, h1, v', us'', rfl, h2, h3⟩
theorem dvOf_ref {n : Nat} {ss : List SV} (h : ∀ s ∈ ss, refS n s) : refD n (dvOf ss) := by
  match ss with
  | [] => exact fun _ hs => by cases hs
  | [s] => exact h s (by simp)
  | s :: s' :: r => exact h
end
end Go.Vc
