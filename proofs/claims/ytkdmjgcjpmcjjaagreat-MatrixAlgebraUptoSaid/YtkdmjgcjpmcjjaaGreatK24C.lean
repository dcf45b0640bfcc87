/- Part. -/
import Derived.Test.YtkdmjgcjpmcjjaaGreatK24B
namespace Go.Vc
open Go Go.RowKit Go.Gw
inductive AM where
  | val (agg : Bool) (t : Ty)
  | row (t : Ty) (e : TypeId)
  | box (T : TypeId) (t : Ty)
  | fn (as : List (Bool × Ty)) (ra : Bool) (r : Ty)
  | rows (t : Ty) (e e' : TypeId)
@[reducible] def AM.den : AM -> Type
  | .val _ t => t.den
  | .row t _ => List t.den
  | .box _ t => t.den
  | .fn as _ r => (A1h as -> Prop) × (A1h as -> r.den)
  | .rows t _ _ => List (List t.den)
@[reducible] def A7 : List AM -> Type
  | [] => Unit
  | a :: r => a.den × A7 r
@[reducible] def D2s : List AM -> Type
  | [] => Unit
  | .row t _ :: r => List t.den × D2s r
  | .box _ t :: r => t.den × D2s r
  | .val _ _ :: r => D2s r
  | .fn _ _ _ :: r => D2s r
  | .rows t _ _ :: r => List (List t.den) × D2s r
def Q7 : AM -> Bool
  | .row _ _ => true
  | .box _ _ => true
  | .rows _ _ _ => true
  | _ => false
def T2 (as : List AM) : Bool := as.any Q7
def A0u (as : List AM) : Bool := as.all fun a => match a with | .val _ _ => true | _ => false
inductive RT where
  | val (agg : Bool) (t : Ty)
  | own (t : Ty) (e : TypeId)
  | obox (T : TypeId) (t : Ty)
@[reducible] def RT.den : RT -> Type
  | .val _ t => t.den
  | .own t _ => List t.den
  | .obox _ t => t.den
@[reducible] def A5f : List RT -> Type
  | [] => Unit
  | r :: rs => r.den × A5f rs
def RT.wf : (r : RT) -> r.den -> Prop
  | .val _ t, x => t.wf x
  | .own t _, l => (Ty.sl t).wf l
  | .obox _ t, x => t.wf x
def rwf : (rs : List RT) -> A5f rs -> Prop
  | [], _ => True
  | r :: rs, x => r.wf x.1 /\ rwf rs x.2
def AM.wf : (a : AM) -> a.den -> Prop
  | .val _ t, x => t.wf x
  | .row t _, x => (Ty.sl t).wf x
  | .box _ t, x => t.wf x
  | .fn _ _ _, _ => True
  | .rows t _ _, x => (Ty.sl (Ty.sl t)).wf x
def awf : (as : List AM) -> A7 as -> Prop
  | [], _ => True
  | a :: r, x => a.wf x.1 /\ awf r x.2
def owf : (as : List AM) -> D2s as -> Prop
  | [], _ => True
  | .row t _ :: r, x => (Ty.sl t).wf x.1 /\ owf r x.2
  | .box _ t :: r, x => t.wf x.1 /\ owf r x.2
  | .val _ _ :: r, x => owf r x
  | .fn _ _ _ :: r, x => owf r x
  | .rows t _ _ :: r, x => (Ty.sl (Ty.sl t)).wf x.1 /\ owf r x.2
def bwf : (as : List (Bool × Ty)) -> A1h as -> Prop
  | [], _ => True
  | (_, t) :: r, x => t.wf x.1 /\ bwf r x.2
def E6u : (rs : List RT) -> A5f rs
  | [] => ()
  | .val _ t :: rs => (t.dflt, E6u rs)
  | .own _ _ :: rs => ([], E6u rs)
  | .obox _ t :: rs => (t.dflt, E6u rs)
structure Inl where
  run : Nat -> St -> List SV -> (St -> List SV -> Prop) -> Prop
  res : List SV -> Option SV := fun _ => none
  step : ∀ {st : St} {d : Nat} {ss : List SV} {k k' : St -> List SV -> Prop}, run d st ss k -> (∀ st' ss', Evo st st' -> k st' ss' -> k' st' ss') -> run d st ss k'
structure B9 where
  args : List AM
  res : List RT
  shared : Bool := false
  pre : A7 args -> Prop
  post : A7 args -> A5f res -> Prop
  mpost : A7 args -> A5f res -> D2s args -> Prop := fun _ _ _ => True
  inl : Option Inl := none
def E6x (P : Program) (w : World) (Z : Nat -> Prop) : (a : AM) -> Value -> a.den -> Prop
  | .val a t, v, x => A7z a t w Z v x
  | .row t e, v, l => ∃ xs, w.ownsRow 0 e t.size v l.length xs /\ Q3 (Rep t w Z) xs l /\ ∀ b, v.ownBlock = some b -> ¬ Z b
  | .box T t, v, x => ∃ b vs, v = .pointer (some ⟨b, 0, none⟩) /\ ¬ Z b /\ Blk w b vs T /\ Rep t w Z vs.toList x
  | .fn as ra r, v, x => F7e P w Z v as ra r x.1 x.2
  | .rows t e e', v, ls => C3e w Z t e e' v ls /\ ∀ b, D8 w v (.rows t e e' ls [] none) b -> ¬ Z b /\ b < w.heap.size
def A1l (P : Program) (w : World) (Z : Nat -> Prop) : (as : List AM) -> List Value -> A7 as -> Prop
  | [], vs, _ => vs = []
  | a :: r, vs, x => ∃ v vs', vs = v :: vs' /\ E6x P w Z a v x.1 /\ A1l P w Z r vs' x.2
def C9 : List AM -> List Value -> List Value
  | a :: r, v :: vs => bif Q7 a then v :: C9 r vs else C9 r vs
  | _, _ => []
def lcA : AM -> LC
  | .row t e => .row t e []
  | .box T _ => .box T []
  | .rows t e e' => .rows t e e' [] [] none
  | _ => .none
def W0 : List AM -> List Value -> List (AM × Value)
  | a :: r, v :: vs => bif Q7 a then (a, v) :: W0 r vs else W0 r vs
  | _, _ => []
def F6j (w : World) (as : List AM) (vs : List Value) : Nat -> Prop := fun b => ∃ p ∈ W0 as vs, D8 w p.2 (lcA p.1) b
def Dis (w : World) : List (AM × Value) -> Prop
  | [] => True
  | p :: ps => (∀ b, D8 w p.2 (lcA p.1) b -> ∀ p' ∈ ps, ¬ D8 w p'.2 (lcA p'.1) b) /\ Dis w ps
def D8q (w w' : World) (Zn : Nat -> Prop) : (as : List AM) -> List Value -> D2s as -> Prop
  | .row t e :: r, v :: vs, x => (∃ xs, w'.ownsRow 0 e t.size v x.1.length xs /\ Q3 (Rep t w' Zn) xs x.1) /\ D8q w w' Zn r vs x.2
  | .box T t :: r, v :: vs, x => (∃ b us, v = .pointer (some ⟨b, 0, none⟩) /\ Blk w' b us T /\ Rep t w' Zn us.toList x.1) /\ D8q w w' Zn r vs x.2
  | .rows t e e' :: r, v :: vs, x => (C3e w' Zn t e e' v x.1 /\ ∀ b, D8 w' v (.rows t e e' [] [] none) b -> D8 w v (.rows t e e' [] [] none) b) /\ D8q w w' Zn r vs x.2
  | .val _ _ :: r, _ :: vs, x => D8q w w' Zn r vs x
  | .fn _ _ _ :: r, _ :: vs, x => D8q w w' Zn r vs x
  | [], _, _ => True
  | _ :: _, [], _ => False
def G4g (base : Nat) (w' : World) (Zn : Nat -> Prop) : (r : RT) -> Value -> r.den -> Prop
  | .val a t, v, x => A7z a t w' Zn v x
  | .own t e, v, l => ∃ xs, w'.ownsRow base e t.size v l.length xs /\ Q3 (Rep t w' Zn) xs l /\ ∀ b, v.ownBlock = some b -> ¬ Zn b
  | .obox T t, v, x => ∃ b us, v = .pointer (some ⟨b, 0, none⟩) /\ base <= b /\ ¬ Zn b /\ Blk w' b us T /\ Rep t w' Zn us.toList x
def C8t : RT -> Bool
  | .own _ _ => true
  | .obox _ _ => true
  | _ => false
def A0k : List RT -> List Value -> List Value
  | .own _ _ :: rs, v :: vs => v :: A0k rs vs
  | .obox _ _ :: rs, v :: vs => v :: A0k rs vs
  | .val _ _ :: rs, _ :: vs => A0k rs vs
  | _, _ => []
def C1k (base : Nat) (w' : World) (Zn : Nat -> Prop) : (rs : List RT) -> List Value -> A5f rs -> Prop
  | [], vs, _ => vs = []
  | r :: rs, vs, x => ∃ v vs', vs = v :: vs' /\ G4g base w' Zn r v x.1 /\ (C8t r = true -> ∀ b, root v = some b -> ∀ u ∈ A0k rs vs', root u ≠ some b) /\ C1k base w' Zn rs vs' x.2
def D0j : List Value -> Value
  | [v] => v
  | vs => .tuple vs.toArray
def C0 (P : Program) (f : FuncId) (s : B9) : Prop :=
  ∀ (w : World) (Z : Nat -> Prop) (vs : List Value) (x : A7 s.args), (∀ b, Z b -> b < w.heap.size) -> A1l P w Z s.args vs x -> Dis w (W0 s.args vs) -> s.pre x ->
    Gw.Ret P f vs w fun v w' => C1g (F6j w s.args vs) w w' /\ ∃ (r : A5f s.res) (o : D2s s.args) (us : List Value) (Zn : Nat -> Prop), s.post x r /\ (T2 s.args = true -> s.mpost x r o) /\ v = D0j us /\ (∀ b, Zn b -> (w.heap.size <= b /\ b < w'.heap.size) \/ (s.shared = true /\ Z b)) /\ C1k w.heap.size w' Zn s.res us r /\ D8q w w' Zn s.args vs o
theorem C0r {as : List AM} (h : A0u as = true) : ∀ vs, W0 as vs = [] := by
  induction as with
  | nil => intro vs; cases vs <;> rfl
  | cons a as ih =>
    intro vs
    simp only [A0u, List.all_cons, Bool.and_eq_true] at h
    cases vs with
    | nil => rfl
    | cons v vs =>
      cases a with
      | val _ _ => exact ih h.2 vs
      | _ => simp at h
theorem D5d {as : List AM} (h : T2 as = false) : ∀ vs, W0 as vs = [] := by
  induction as with
  | nil => intro vs; cases vs <;> rfl
  | cons a as ih =>
    intro vs
    simp only [T2, List.any_cons, Bool.or_eq_false_iff] at h
    cases vs with
    | nil => rfl
    | cons v vs => simp only [W0, h.1, cond_false]; exact ih h.2 vs
theorem D8y {as : List AM} (h : T2 as = false) : ∀ vs, C9 as vs = [] := by
  induction as with
  | nil => intro vs; cases vs <;> rfl
  | cons a as ih =>
    intro vs
    simp only [T2, List.any_cons, Bool.or_eq_false_iff] at h
    cases vs with
    | nil => rfl
    | cons v vs => simp only [C9, h.1, cond_false]; exact ih h.2 vs
def D8z (st : St) (mu : List Nat) : C -> C
  | .row k => bif mu.any (Nat.beq k) then .dead else (match st.L k with
    | .row t _ l => .val (.sl t) l
    | .rows t _ _ ls _ none => .val (.sl (.sl t)) ls
    | _ => .dead)
  | .mp k => bif mu.any (Nat.beq k) then .dead else (match st.L k with
    | .map ka kt va vt es => .val (.mp ka kt va vt) es
    | _ => .dead)
  | .win k sz lo hi => bif mu.any (Nat.beq k) then .dead else (match st.L k with
    | .row t _ l => G0w sz lo hi (.val (.sl t) l)
    | _ => .dead)
  | c => c
def F1w (st : St) (mu : List Nat) (agg : Bool) (t : Ty) (s : SV) : Option t.den :=
  match t, s with
  | .ptr t', ⟨false, [.box k 0]⟩ => bif mu.any (Nat.beq k) then none else (match st.L k with
    | .box _ cs => match D0m t' (cs.map (D8z st mu)) with
      | some (x, []) => bif agg then none else some x
      | _ => none
    | .sbox q t2 y => if h : t2 = t' then (bif Nat.beq q k && !agg then some (h ▸ y) else none) else none
    | _ => none)
  | t, s => B4c agg t ⟨s.agg, s.cs.map (D8z st mu)⟩
def E7g (st : St) (mu : List Nat) (sh : Bool) (agg : Bool) (t : Ty) (s : SV) : Option t.den := bif sh then B4c agg t s else F1w st mu agg t s
def E0p (st : St) (t : Ty) (e : TypeId) (k : Nat) : Option (List t.den) := match st.L k with
  | .row t' e' l => if h : t' = t then (bif Nat.beq e' e then some (h ▸ l) else none) else none
  | _ => none
def F1k (st : St) (T : TypeId) (t : Ty) (k : Nat) : Option t.den := match st.L k with
  | .box T' cs => bif Nat.beq T' T then (match D0m t cs with | some (x, []) => some x | _ => none) else none
  | _ => none
def E1r (st : St) (t : Ty) (e e' : TypeId) (k : Nat) : Option (List (List t.den)) := match st.L k with
  | .rows t' d d' ls _ none => if h : t' = t then (bif Nat.beq d e && Nat.beq d' e' then some (h ▸ ls) else none) else none
  | _ => none
def E8n : SV -> Option Nat
  | ⟨false, [.row k]⟩ => some k
  | _ => none
def E8a : SV -> Option Nat
  | ⟨false, [.box k 0]⟩ => some k
  | _ => none
def A1d : List AM -> List SV -> Option (List Nat)
  | [], [] => some []
  | .row _ _ :: r, s :: ss => (E8n s).bind fun k => (A1d r ss).map (k :: ·)
  | .box _ _ :: r, s :: ss => (E8a s).bind fun k => (A1d r ss).map (k :: ·)
  | .rows _ _ _ :: r, s :: ss => (E8n s).bind fun k => (A1d r ss).map (k :: ·)
  | .val _ _ :: r, _ :: ss => A1d r ss
  | .fn _ _ _ :: r, _ :: ss => A1d r ss
  | _, _ => none
def B5c (st : St) (mu : List Nat) (sh : Bool) : (as : List AM) -> List SV -> Option (A7 as)
  | [], [] => some ()
  | .val a t :: r, s :: ss => (E7g st mu sh a t s).bind fun x => (B5c st mu sh r ss).map fun y => (x, y)
  | _, _ => none
def D9a (st : St) (mu : List Nat) : (as : List (Bool × Ty)) -> A1h as -> (args : List AM) -> List SV -> Option (A7 args)
  | [], _, args, caps => B5c st mu false args caps
  | (a, t) :: r, y, .val a' t' :: args, caps => if h : t = t' then (bif a == a' then (D9a st mu r y.2 args caps).map fun z => ((h ▸ y.1 : t'.den), z) else none) else none
  | _ :: _, _, _, _ => none
def F3w (ra : Bool) (r : Ty) : (rs : List RT) -> A5f rs -> r.den -> Prop
  | [.val a t], z, u => if h : t = r then a = ra /\ (h ▸ z.1 : r.den) = u else False
  | _, _, _ => False
def fnP (st : St) (mu : List Nat) (sg : B9) (as : List (Bool × Ty)) (ra : Bool) (r : Ty) (caps : List SV) (ok : A1h as -> Prop) (φ : A1h as -> r.den) : Prop :=
  ∀ y, bwf as y -> ok y -> match D9a st mu as y sg.args caps with
    | some x => sg.pre x /\ ∀ z, rwf sg.res z -> sg.post x z -> F3w ra r sg.res z (φ y)
    | none => False
def B9h : Ty -> Bool
  | .sl _ => false
  | .ptr _ => false
  | .mp _ _ _ _ => false
  | .pair a b => B9h a && B9h b
  | _ => true
def F4v : RT -> Bool
  | .val _ t => B9h t
  | .own t _ => B9h t
  | .obox _ t => B9h t
def C0k : LC -> Bool
  | .box _ _ => true
  | .sbox _ _ _ => true
  | _ => false
def D7i : LC -> Bool
  | .sbox _ _ _ => true
  | _ => false
def C8q : List Nat -> Bool
  | [] => true
  | k :: l => !(l.any fun j => Nat.beq k j) && C8q l
abbrev B6 := List (Nat × B9)
def R8 (cx : Cx) (sp : B6) (st : St) (mu : List Nat) (sh : Bool) : (as : List AM) -> List SV -> (A7 as -> Prop) -> Prop
  | [], [], k => k ()
  | .val a t :: r, s :: ss, k => match E7g st mu sh a t s with
    | some x => R8 cx sp st mu sh r ss fun y => k (x, y)
    | none => False
  | .row t e :: r, s :: ss, k => match E8n s with
    | some q => (match E0p st t e q with
      | some l => bif mu.any (Nat.beq q) then R8 cx sp st mu sh r ss fun y => k (l, y) else False
      | none => False)
    | none => False
  | .box T t :: r, s :: ss, k => match E8a s with
    | some q => (match F1k st T t q with
      | some x => bif mu.any (Nat.beq q) then R8 cx sp st mu sh r ss fun y => k (x, y) else False
      | none => False)
    | none => False
  | .fn as' ra' r' :: r, s :: ss, k => match c1 s with
    | some (.fn g ks) => match A8n g sp with
      | some sg => bif A5s cx.P g && A0u sg.args && (!sh || ks.all (fun k => D7i (st.L k))) && ks.all (fun k => C0k (st.L k)) then
          ∃ (ok : A1h as' -> Prop) (φ : A1h as' -> r'.den), fnP st mu sg as' ra' r' (ks.map fun k => ⟨false, [.box k 0]⟩) ok φ /\ R8 cx sp st mu sh r ss fun y => k ((ok, φ), y)
        else False
      | none => False
    | some (.fv P' as'' ra'' r'' ok φ) => if h : as'' = as' /\ r'' = r' then P' = cx.P /\ ra'' = ra' /\ R8 cx sp st mu sh r ss fun y => k ((h.1 ▸ ok, fun z => h.2 ▸ φ (h.1 ▸ z)), y) else False
    | _ => False
  | .rows t e e' :: r, s :: ss, k => match E8n s with
    | some q => (match E1r st t e e' q with
      | some l => bif mu.any (Nat.beq q) then R8 cx sp st mu sh r ss fun y => k (l, y) else False
      | none => False)
    | none => False
  | _, _, _ => False
def H3 : (rs : List RT) -> A5f rs -> St -> List SV × St
  | [], _, st => ([], st)
  | .val a t :: rs, x, st => (fun p => (⟨a, explode t x.1⟩ :: p.1, p.2)) (H3 rs x.2 st)
  | .own t e :: rs, x, st => (fun p => (⟨false, [.row st.nx]⟩ :: p.1, p.2)) (H3 rs x.2 (st.newL (.row t e x.1)))
  | .obox T t :: rs, x, st => (fun p => (⟨false, [.box st.nx 0]⟩ :: p.1, p.2)) (H3 rs x.2 (st.newL (.box T (explode t x.1))))
def G1f : List SV -> DV
  | [s] => .one s
  | ss => .tup ss
section
variable {za : Zn} {w0 w w' : World} {Z : Nat -> Prop} {B : Nat -> Value} {st : St} {E : Env} {P : Program}
def lz (w : World) (st : St) (mu : List Nat) (B : Nat -> Value) (Z : Nat -> Prop) (sh : Bool) : Nat -> Prop := fun b => Z b \/ (sh = false /\ ∃ k, mu.any (Nat.beq k) = false /\ D8 w (B k) (st.L k) b)
variable {mu : List Nat}
theorem F4h (h : Rel za w0 st E w Z B) {c : C} {v : Value} (hc : RC w Z B c v) : RC w (lz w st mu B Z false) B (D8z st mu c) v := by
  have hm : ∀ {c : C}, RC w Z B c v -> RC w (lz w st mu B Z false) B c v := fun {c} hc => by
    cases c with
    | val t x => exact Rep.mono (fun _ => .inl) (fun _ _ => rfl) hc
    | pf t x off => obtain ⟨b, o, ec, e, hb, h1, h2⟩ := hc; exact ⟨b, o, ec, e, .inl hb, h1, Rep.mono (fun _ => .inl) (fun _ _ => rfl) h2⟩
    | fv P as ra r ok φ => exact RC.mono (n := 0) (c := .fv P as ra r ok φ) (fun _ => .inl) (fun _ _ => rfl) (fun _ _ => rfl) trivial hc
    | _ => exact hc
  cases c with
  | row k =>
    simp only [D8z]
    cases hmu : mu.any (Nat.beq k) with
    | true => trivial
    | false =>
      cases hk : st.L k with
      | row t e l =>
        have hL := h.locs k
        rw [hk] at hL
        obtain ⟨xs, hown, heach, _⟩ := hL
        have hv : v = B k := hc
        subst hv
        exact A0x hown (heach.mono fun _ _ => Rep.mono (fun _ => .inl) (fun _ _ => rfl)) (fun b hb => .inr ⟨rfl, k, hmu, by rw [hk]; exact (H0 hown).trans hb⟩)
      | rows t e e' ls al ho =>
        cases ho with
        | some _ => trivial
        | none =>
          have hL := h.locs k
          rw [hk] at hL
          have hv : v = B k := hc
          subst hv
          exact E6q hL (fun _ => .inl) (fun b hb => .inr ⟨rfl, k, hmu, by rw [hk]; exact hb⟩)
      | _ => trivial
  | mp k =>
    simp only [D8z]
    cases hmu : mu.any (Nat.beq k) with
    | true => trivial
    | false =>
      cases hk : st.L k with
      | map ka kt va vt es =>
        have hL := h.locs k
        rw [hk] at hL
        obtain ⟨b, ents, cl, e, _, _, hb, hmo, he⟩ := hL
        have hv : v = B k := hc
        rw [e] at hv
        subst hv
        exact E1w hb hmo (he.mono (fun _ => .inl) (fun _ _ => rfl)) (.inr ⟨rfl, k, hmu, by rw [hk, e]; rfl⟩)
      | _ => trivial
  | win k sz lo hi =>
    simp only [D8z]
    cases hmu : mu.any (Nat.beq k) with
    | true => trivial
    | false =>
      cases hk : st.L k with
      | row t e l =>
        have hL := h.locs k
        rw [hk] at hL
        obtain ⟨xs, hown, heach, _⟩ := hL
        have h2 : Rep (.sl t) w (lz w st mu B Z false) [B k] l := A0x hown (heach.mono fun _ _ => Rep.mono (fun _ => .inl) (fun _ _ => rfl)) (fun b hb => .inr ⟨rfl, k, hmu, by rw [hk]; exact (H0 hown).trans hb⟩)
        simp only [cond_false, G0w]
        cases hs : Nat.beq sz t.size with
        | false => trivial
        | true =>
          have := Nat.eq_of_beq_eq_true hs
          subst this
          obtain ⟨a, n, cap, hB, ga, gn, g0, g1, g2, g3, g4, hv⟩ := hc
          rw [hB] at h2
          rw [hv]
          exact F2v h2 g0 g1 g2
      | _ => trivial
  | _ => exact hm hc
theorem B8n (h : Rel za w0 st E w Z B) : ∀ {cs : List C} {vs : List Value}, RCs w Z B cs vs -> RCs w (lz w st mu B Z false) B (cs.map (D8z st mu)) vs
  | [], _, hc => hc
  | _ :: _, _, ⟨v, vs', e, h1, h2⟩ => ⟨v, vs', e, F4h h h1, B8n h h2⟩
theorem E4r (h : Rel za w0 st E w Z B) {k q : Nat} {t2 t' : Ty} {y : t2.den} {a : Bool} {v : Value} {x : (Ty.ptr t').den} (hk : st.L k = .sbox q t2 y) (hs : RS w Z B ⟨false, [.box k 0]⟩ v) (hp : (if h : t2 = t' then (bif Nat.beq q k && !a then some (h ▸ y) else none) else none) = some x) : A7z a (.ptr t') w Z v x := by
  split at hp
  . rename_i ht
    subst ht
    cases hd : Nat.beq q k && !a with
    | false => simp only [hd, cond_false] at hp; cases hp
    | true =>
      simp only [hd, cond_true] at hp
      cases hp
      simp only [Bool.and_eq_true, Bool.not_eq_true'] at hd
      have := Nat.eq_of_beq_eq_true hd.1
      subst this
      have hL := h.locs q
      rw [hk] at hL
      obtain ⟨_, h1, _⟩ := hL
      obtain ⟨_, _, e1, ⟨b', e2, hv⟩, _⟩ := hs
      cases e1
      rw [hd.2]
      rw [e2] at h1
      rw [hv]
      exact h1
  . cases hp
theorem F5o (h : Rel za w0 st E w Z B) {a : Bool} {t : Ty} {s : SV} {v : Value} {x : t.den} (hs : RS w Z B s v) (hp : F1w st mu a t s = some x) : A7z a t w (lz w st mu B Z false) v x := by
  have gen : ∀ {t : Ty} {x : t.den}, B4c a t ⟨s.agg, s.cs.map (D8z st mu)⟩ = some x -> A7z a t w (lz w st mu B Z false) v x := fun hp => by
    refine A0m (B := B) ?_ hp
    obtain ⟨sa, cs⟩ := s
    cases sa with
    | true => obtain ⟨vs, e, hs⟩ := hs; exact ⟨vs, e, B8n h hs⟩
    | false => exact B8n h (vs := [v]) hs
  unfold F1w at hp
  split at hp
  . rename_i t' k
    cases hmu : mu.any (Nat.beq k) with
    | true => simp [hmu] at hp
    | false =>
      simp only [hmu, cond_false] at hp
      split at hp
      . rename_i T cs hk
        split at hp
        . rename_i y hy
          cases a with
          | true => simp at hp
          | false =>
            simp only [cond_false, Option.some.injEq] at hp
            subst hp
            have hL := h.locs k
            rw [hk] at hL
            obtain ⟨b, vs, e, _, _, hblk, hcs⟩ := hL
            obtain ⟨_, _, e1, ⟨b', e2, hv⟩, _⟩ := hs
            cases e1
            rw [e] at e2; cases e2
            subst hv
            exact ⟨b, 0, vs.toList, rfl, .inr ⟨rfl, k, hmu, by rw [hk, e]; rfl⟩, hblk.cellsAt, A3s (B8n h hcs) hy⟩
        . cases hp
      . rename_i q t2 y hk
        exact (E4r h hk hs hp).mono (fun _ => .inl) (fun _ _ => rfl)
      . cases hp
  . exact gen hp
theorem C5g (h : Rel za w0 st E w Z B) : ∀ {as : List AM} {ks : List Nat} {x : A7 as}, ks.all (fun k => D7i (st.L k)) = true -> B5c st mu false as (ks.map fun k => ⟨false, [.box k 0]⟩) = some x -> A1l P w Z as (ks.map B) x
  | [], [], _, _, _ => rfl
  | [], _ :: _, _, _, hp => by cases hp
  | a :: r, [], _, _, hp => by cases a <;> cases hp
  | .val a t :: r, k :: ks, x, hk, hp => by
    simp only [List.all_cons, Bool.and_eq_true] at hk
    simp only [List.map_cons, B5c, bind_some, Option.map_eq_some_iff] at hp
    obtain ⟨y, hy, z, hz, rfl⟩ := hp
    refine ⟨B k, ks.map B, rfl, ?_, C5g h hk.2 hz⟩
    cases hl : st.L k with
    | sbox q t2 u =>
      have hL := h.locs k
      rw [hl] at hL
      simp only [E7g, cond_false] at hy
      obtain ⟨rfl, _, b, e⟩ := hL
      have hrs : RS w Z B ⟨false, [.box q 0]⟩ (B q) := ⟨B q, [], rfl, ⟨b, e, e⟩, rfl⟩
      cases t with
      | ptr t' =>
        simp only [F1w] at hy
        cases hmu : mu.any (Nat.beq q) with
        | true => simp [hmu] at hy
        | false =>
          simp only [hmu, cond_false, hl] at hy
          exact E4r h hl hrs hy
      | _ =>
        simp only [F1w] at hy
        exact A0m (s := ⟨false, [.box q 0]⟩) (B := B) hrs hy
    | _ => rw [hl] at hk; cases hk.1
  | .row _ _ :: _, _ :: _, _, _, hp => by cases hp
  | .box _ _ :: _, _ :: _, _, _, hp => by cases hp
  | .fn _ _ _ :: _, _ :: _, _, _, hp => by cases hp
  | .rows _ _ _ :: _, _ :: _, _, _, hp => by cases hp
theorem B9q {sh : Bool} : ∀ {as : List AM} {ss : List SV} {x : A7 as}, B5c st mu sh as ss = some x -> A0u as = true
  | [], [], _, _ => rfl
  | [], _ :: _, _, hp => by cases hp
  | a :: r, [], _, hp => by cases a <;> cases hp
  | .val a t :: r, s :: ss, x, hp => by
    simp only [B5c, bind_some, Option.map_eq_some_iff] at hp
    obtain ⟨y, hy, z, hz, rfl⟩ := hp
    have := B9q hz
    simpa [A0u] using this
  | .row _ _ :: _, _ :: _, _, hp => by cases hp
  | .box _ _ :: _, _ :: _, _, hp => by cases hp
  | .fn _ _ _ :: _, _ :: _, _, hp => by cases hp
  | .rows _ _ _ :: _, _ :: _, _, hp => by cases hp
theorem D5v (h : Rel za w0 st E w Z B) {sh a : Bool} {t : Ty} {s : SV} {v : Value} {x : t.den} (hs : RS w Z B s v) (hp : E7g st mu sh a t s = some x) : A7z a t w (lz w st mu B Z sh) v x := by
  unfold E7g at hp
  cases sh with
  | true => exact (A0m hs hp).mono (fun _ => .inl) (fun _ _ => rfl)
  | false => exact F5o h hs hp
theorem D9r (h : Rel za w0 st E w Z B) {sh : Bool} : ∀ {as : List AM} {ss : List SV} {vs : List Value} {x : A7 as}, RSs w Z B ss vs -> B5c st mu sh as ss = some x -> A1l P w (lz w st mu B Z sh) as vs x
  | [], [], vs, _, hs, _ => hs
  | [], _ :: _, _, _, _, hp => by cases hp
  | a :: r, [], _, _, _, hp => by cases a <;> cases hp
  | .val a t :: r, s :: ss, _, x, ⟨v, vs', e, h1, h2⟩, hp => by
    simp only [B5c, bind_some, Option.map_eq_some_iff] at hp
    obtain ⟨y, hy, z, hz, rfl⟩ := hp
    exact ⟨v, vs', e, D5v h h1 hy, D9r h h2 hz⟩
  | .row _ _ :: _, _ :: _, _, _, _, hp => by cases hp
  | .box _ _ :: _, _ :: _, _, _, _, hp => by cases hp
  | .fn _ _ _ :: _, _ :: _, _, _, _, hp => by cases hp
theorem F7k (h : Rel za w0 st E w Z B) {sh : Bool} : ∀ b, lz w st mu B Z sh b -> b < w.heap.size := fun b hb => by
  rcases hb with hb | ⟨_, k, _, hk⟩
  . exact h.zlt b hb
  . exact ((h.locs k).root hk).2.1
theorem A1l.mono {Z' : Nat -> Prop} (hz : ∀ b, Z b -> Z' b) (hs : W7 Z w w') : ∀ {as : List AM} {vs : List Value} {x : A7 as}, A0u as = true -> A1l P w Z as vs x -> A1l P w' Z' as vs x
  | [], _, _, _, h => h
  | .val a t :: r, _, _, ha, ⟨v, vs', e, h1, h2⟩ => ⟨v, vs', e, A7z.mono hz hs h1, A1l.mono hz hs (by simpa [A0u] using ha) h2⟩
  | .row _ _ :: _, _, _, ha, _ => by simp [A0u] at ha
  | .box _ _ :: _, _, _, ha, _ => by simp [A0u] at ha
  | .fn _ _ _ :: _, _, _, ha, _ => by simp [A0u] at ha
  | .rows _ _ _ :: _, _, _, ha, _ => by simp [A0u] at ha
theorem E6x.wf' {a : AM} {v : Value} {x : a.den} (h : E6x P w Z a v x) : a.wf x := by
  cases a with
  | val a t => exact A5z.wf' (fun _ _ => Rep.wf) h
  | row t e => obtain ⟨xs, h1, h3, _⟩ := h; exact Rep.wf (A0x (Z := fun _ => True) h1 (h3.mono fun _ _ => Rep.mono (fun _ _ => trivial) (fun _ _ => rfl)) (fun _ _ => trivial))
  | box T t => obtain ⟨b, vs, _, _, _, h4⟩ := h; exact Rep.wf h4
  | fn _ _ => trivial
  | rows t e e' => exact h.1.wf
theorem A1l.awf : ∀ {as : List AM} {vs : List Value} {x : A7 as}, A1l P w Z as vs x -> awf as x
  | [], _, _, _ => trivial
  | a :: r, _, x, ⟨v, vs', e, h1, h2⟩ => ⟨E6x.wf' h1, A1l.awf h2⟩
theorem F2k.bwf : ∀ {as : List (Bool × Ty)} {vs : List Value} {x : A1h as}, F2k w Z as vs x -> bwf as x
  | [], _, _, _ => trivial
  | _ :: _, _, _, ⟨v, vs', e, h1, h2⟩ => ⟨A5z.wf' (fun _ _ => Rep.wf) h1, F2k.bwf h2⟩
theorem D8q.owf : ∀ {as : List AM} {vs : List Value} {x : D2s as}, D8q w w' Z as vs x -> owf as x
  | [], _, _, _ => trivial
  | .row t e :: r, [], x, h => h.elim
  | .box t e :: r, [], x, h => h.elim
  | .val t e :: r, [], x, h => h.elim
  | .fn _ _ _ :: r, [], x, h => h.elim
  | .rows _ _ _ :: r, [], x, h => h.elim
  | .rows _ _ _ :: r, v :: vs, x, ⟨⟨h1, _⟩, h2⟩ => ⟨h1.wf, D8q.owf h2⟩
  | .row t e :: r, v :: vs, x, ⟨⟨xs, h1, h3⟩, h2⟩ => ⟨Rep.wf (A0x (Z := fun _ => True) h1 (h3.mono fun _ _ => Rep.mono (fun _ _ => trivial) (fun _ _ => rfl)) (fun _ _ => trivial)), D8q.owf h2⟩
  | .box T t :: r, v :: vs, x, ⟨⟨b, us, _, _, h4⟩, h2⟩ => ⟨Rep.wf h4, D8q.owf h2⟩
  | .val _ _ :: r, v :: vs, x, h => D8q.owf (as := r) (vs := vs) h
  | .fn _ _ _ :: r, v :: vs, x, h => D8q.owf (as := r) (vs := vs) h
theorem E1s {Zc Z' : Nat -> Prop} (hs : W7 Zc w w') {caps : List Value} {cs : List SV} (hcap : ∀ {as : List AM} {x : A7 as}, B5c st mu false as cs = some x -> A1l P w Zc as caps x) : ∀ {as : List (Bool × Ty)} {args : List AM} {y : A1h as} {vs : List Value} {x : A7 args}, A0u args = true -> F2k w' Z' as vs y -> D9a st mu as y args cs = some x -> A1l P w' (fun b => Zc b \/ Z' b) args (vs ++ caps) x
  | [], args, y, vs, x, ha, hv, hx => by
    rw [show vs = [] from hv]
    exact (hcap hx).mono (fun _ => .inl) hs ha
  | (a, t) :: r, [], _, _, _, _, _, hx => by simp [D9a] at hx
  | (a, t) :: r, .row _ _ :: _, _, _, _, ha, _, _ => by simp [A0u] at ha
  | (a, t) :: r, .box _ _ :: _, _, _, _, ha, _, _ => by simp [A0u] at ha
  | (a, t) :: r, .fn _ _ _ :: _, _, _, _, ha, _, _ => by simp [A0u] at ha
  | (a, t) :: r, .val a' t' :: args, y, vs, x, ha, ⟨v, vs', e, h1, h2⟩, hx => by
    simp only [D9a] at hx
    split at hx
    . rename_i ht
      subst ht
      cases hab : a == a' with
      | false => simp [hab] at hx
      | true =>
        simp only [hab, cond_true, Option.map_eq_some_iff] at hx
        have : a = a' := by simpa using hab
        subst this
        obtain ⟨z, hz, rfl⟩ := hx
        subst e
        exact ⟨v, vs' ++ caps, rfl, A7z.mono (fun _ => .inr) (fun _ _ => rfl) h1, E1s hs hcap (by simpa [A0u] using ha) h2 hz⟩
    . cases hx
theorem Rep.flat : ∀ {t : Ty} {w : World} {Z Z' : Nat -> Prop} {cs : List Value} {x : t.den}, B9h t = true -> Rep t w Z cs x -> Rep t w Z' cs x
  | .int _, _, _, _, _, _, _, h => h
  | .bool, _, _, _, _, _, _, h => h
  | .str, _, _, _, _, _, _, h => h
  | .unit, _, _, _, _, _, _, h => h
  | .pair a b, _, _, _, _, _, hf, ⟨c1, c2, e, h1, h2⟩ => by
    simp only [B9h, Bool.and_eq_true] at hf
    exact ⟨c1, c2, e, Rep.flat hf.1 h1, Rep.flat hf.2 h2⟩
  | .sl _, _, _, _, _, _, hf, _ => by cases hf
  | .ptr _, _, _, _, _, _, hf, _ => by cases hf
  | .mp _ _ _ _, _, _, _, _, _, hf, _ => by cases hf
theorem RSs.append : ∀ {a b : List SV} {x y : List Value}, RSs w Z B a x -> RSs w Z B b y -> RSs w Z B (a ++ b) (x ++ y)
  | [], _, _, _, h, h' => by rw [show _ = _ from h]; exact h'
  | _ :: _, _, _, y, ⟨v, x', e, h1, h2⟩, h' => ⟨v, x' ++ y, by rw [e]; rfl, h1, RSs.append h2 h'⟩
theorem E3w (h : Rel za w0 st E w Z B) : ∀ {ks : List Nat}, ks.all (fun k => C0k (st.L k)) = true -> RSs w Z B (ks.map fun k => ⟨false, [.box k 0]⟩) (ks.map B)
  | [], _ => rfl
  | q :: ks, hk => by
    simp only [List.all_cons, Bool.and_eq_true] at hk
    refine ⟨B q, _, rfl, ⟨B q, [], rfl, ?_, rfl⟩, E3w h hk.2⟩
    have hL := h.locs q
    cases hl : st.L q <;> rw [hl] at hk hL <;> try (cases hk.1)
    . obtain ⟨b, _, e, _⟩ := hL
      exact ⟨b, e, e⟩
    . obtain ⟨rfl, _, b, e⟩ := hL
      exact ⟨b, e, e⟩
theorem F8k {ra : Bool} {r : Ty} {base : Nat} {Zn : Nat -> Prop} : ∀ {rs : List RT} {us : List Value} {z : A5f rs} {u : r.den}, C1k base w Zn rs us z -> F3w ra r rs z u -> A7z ra r w Zn (D0j us) u
  | [.val a t], _, z, u, ⟨v1, vs1, e1, hr1, _, hr2⟩, hres => by
    simp only [F3w] at hres
    split at hres
    . rename_i ht
      subst ht
      obtain ⟨rfl, hres⟩ := hres
      rw [<- hres]
      rw [show vs1 = [] from hr2] at e1
      rw [e1]
      exact hr1
    . exact hres.elim
  | [], _, _, _, _, h => h.elim
  | [.own _ _], _, _, _, _, h => h.elim
  | [.obox _ _], _, _, _, _, h => h.elim
  | .val _ _ :: _ :: _, _, _, _, _, h => h.elim
  | .own _ _ :: _ :: _, _, _, _, _, h => h.elim
  | .obox _ _ :: _ :: _, _, _, _, _, h => h.elim
structure D7s (P : Program) (f : FuncId) (run : Inl) : Prop where
  go : ∀ {za : Zn} {w0 : World} {st : St} {E : Env} {w : World} {Z : Nat -> Prop} {B : Nat -> Value} {d : Nat} {ss : List SV} {vs : List Value} {k : St -> List SV -> Prop}, za.b0 = 0 -> Rel za w0 st E w Z B -> RSs w Z B ss vs -> (∀ s ∈ ss, C8z st.nx s) -> run.run d st ss k ->
    Gw.Ret P f vs w fun v w' => ∃ st' Z' B' ss' us, Rel za w0 st' E w' Z' B' /\ v = D0j us /\ RSs w' Z' B' ss' us /\ (∀ s ∈ ss', C8z st'.nx s) /\ k st' ss'
  res : ∀ {za : Zn} {w0 : World} {st : St} {E : Env} {w : World} {Z : Nat -> Prop} {B : Nat -> Value} {ss : List SV} {vs : List Value} {sv : SV}, Rel za w0 st E w Z B -> RSs w Z B ss vs -> run.res ss = some sv ->
    Gw.Ret P f vs w fun v w' => Ext w w' /\ ∃ Z' : Nat -> Prop, (∀ b, Z b -> Z' b) /\ (∀ b, Z' b -> Z b \/ (w.heap.size <= b /\ b < w'.heap.size)) /\ RS w' Z' B sv v := by intros; rename_i h; cases h
def D8o (P : Program) (sp : B6) : Prop := ∀ f s, A8n f sp = some s -> C0 P f s /\ ∀ run, s.inl = some run -> D7s P f run
theorem G3h (h : Rel za w0 st E w Z B) {sg : B9} {g : FuncId} {sh : Bool} {as : List (Bool × Ty)} {ra : Bool} {r : Ty} {ks : List Nat} {v : Value} {ok : A1h as -> Prop} {φ : A1h as -> r.den} (hm : C0 P g sg) (he : A5s P g = true) (hv : v = .func (.func g) #[] (ks.map B).toArray) (hall : A0u sg.args = true) (hk : ks.all (fun k => C0k (st.L k)) = true) (hsh : sh = false \/ ks.all (fun k => D7i (st.L k)) = true) (hp : fnP st mu sg as ra r (ks.map fun k => ⟨false, [.box k 0]⟩) ok φ) : F7e P w (lz w st mu B Z sh) v as ra r ok φ := by
  refine ⟨g, ks.map B, hv, he, fun w' Z' vs y hs hlt hlt' hrep hok => ?_⟩
  have h1 := hp y hrep.bwf hok
  split at h1
  . rename_i x hx
    have hcap : ∀ {as : List AM} {x : A7 as}, B5c st mu false as (ks.map fun k => ⟨false, [.box k 0]⟩) = some x -> A1l P w (lz w st mu B Z sh) as (ks.map B) x := fun {as x} hx => by
      cases sh with
      | false => exact D9r h (E3w h hk) hx
      | true => exact (C5g h (hsh.resolve_left (by simp)) hx).mono (fun _ => .inl) (fun _ _ => rfl) (B9q hx)
    have hra := E1s (P := P) hs hcap hall hrep hx
    refine (hm w' _ _ x (fun b hb => hb.elim (hlt b) (hlt' b)) hra (by rw [C0r hall]; trivial) h1.1).mono fun u w'' ⟨hx', z, o, us, Zn, hpost, _, hu, hZn, hrr, _⟩ => ?_
    have hns : ∀ b, ¬ F6j w' sg.args (vs ++ ks.map B) b := fun b ⟨u, hu, _⟩ => by rw [C0r hall] at hu; cases hu
    refine ⟨hx'.ext hns, Zn, fun b hb => (hZn b hb).imp id (fun hh => hh.2), ?_⟩
    have hres : F3w ra r sg.res z (φ y) := h1.2 z (by
      clear h1 hpost hu hx' hra hp hm hx hZn
      have : ∀ {rs : List RT} {vs : List Value} {x : A5f rs}, C1k w'.heap.size w'' Zn rs vs x -> rwf rs x := by
        intro rs
        induction rs with
        | nil => intros; trivial
        | cons q rs ih =>
          rintro vs x ⟨v, vs', e, h1, _, h2⟩
          refine ⟨?_, ih h2⟩
          cases q with
          | val a t => exact A5z.wf' (fun _ _ => Rep.wf) h1
          | obox T t => obtain ⟨_, _, _, _, _, _, g⟩ := h1; exact Rep.wf g
          | own t e => obtain ⟨xs, g1, g3, _⟩ := h1; exact Rep.wf (A0x (Z := fun _ => True) g1 (g3.mono fun _ _ => Rep.mono (fun _ _ => trivial) (fun _ _ => rfl)) (fun _ _ => trivial))
      exact this hrr) hpost
    rw [hu]; exact F8k hrr hres
  . exact h1.elim
theorem C0g {t : Ty} {e : TypeId} {q : Nat} {l : List t.den} (hl : E0p st t e q = some l) : st.L q = .row t e l := by
  unfold E0p at hl
  split at hl
  . rename_i t' e' l' hk
    split at hl
    . rename_i ht; subst ht
      cases he : Nat.beq e' e with
      | false => simp [he] at hl
      | true => simp only [he, cond_true] at hl; cases hl; rw [hk, Nat.eq_of_beq_eq_true he]
    . cases hl
  . cases hl
theorem B9y {T : TypeId} {t : Ty} {q : Nat} {x : t.den} (hl : F1k st T t q = some x) : ∃ cs, st.L q = .box T cs /\ D0m t cs = some (x, []) := by
  unfold F1k at hl
  split at hl
  . rename_i T' cs hk
    cases he : Nat.beq T' T with
    | false => simp [he] at hl
    | true =>
      simp only [he, cond_true] at hl
      split at hl
      . rename_i y hy; cases hl; exact ⟨cs, by rw [hk, Nat.eq_of_beq_eq_true he], hy⟩
      . cases hl
  . cases hl
theorem A7g {t : Ty} {e e' : TypeId} {q : Nat} {l : List (List t.den)} (hl : E1r st t e e' q = some l) : ∃ al, st.L q = .rows t e e' l al none := by
  unfold E1r at hl
  split at hl
  . rename_i t' d d' ls al hk
    split at hl
    . rename_i heq; subst heq
      cases hd : Nat.beq d e && Nat.beq d' e' with
      | false => simp only [hd, cond_false] at hl; cases hl
      | true =>
        simp only [hd, cond_true] at hl
        cases hl
        simp only [Bool.and_eq_true] at hd
        have e1 := Nat.eq_of_beq_eq_true hd.1
        have e2 := Nat.eq_of_beq_eq_true hd.2
        subst e1 e2
        exact ⟨al, hk⟩
    . cases hl
  . cases hl
theorem D0g (h : Rel za w0 st E w Z B) {q b : Nat} {sh : Bool} (hq : mu.any (Nat.beq q) = true) (hb : D8 w (B q) (st.L q) b) : ¬ lz w st mu B Z sh b := fun hz => by
  rcases hz with hz | ⟨_, k, hk, hkb⟩
  . exact ((h.locs q).root hb).2.2 hz
  . have : q ≠ k := fun e => by subst e; rw [hq] at hk; cases hk
    exact h.disj q k b this hb hkb
theorem B3e {s : SV} {q : Nat} (h : E8n s = some q) : s = ⟨false, [.row q]⟩ := by
  unfold E8n at h; split at h
  . cases h; rfl
  . cases h
theorem D6w {s : SV} {q : Nat} (h : E8a s = some q) : s = ⟨false, [.box q 0]⟩ := by
  unfold E8a at h; split at h
  . cases h; rfl
  . cases h
variable {cx : Cx} {sp : B6}
theorem A2g (h : Rel za w0 st E w Z B) (hsp : D8o cx.P sp) {sh : Bool} : ∀ {as : List AM} {ss : List SV} {vs : List Value} {k : A7 as -> Prop}, RSs w Z B ss vs -> R8 cx sp st mu sh as ss k -> ∃ x, A1l cx.P w (lz w st mu B Z sh) as vs x /\ k x
  | [], [], vs, k, hs, hk => ⟨(), hs, hk⟩
  | [], _ :: _, _, _, _, hk => hk.elim
  | a :: r, [], _, _, _, hk => by cases a <;> exact hk.elim
  | .val a t :: r, s :: ss, _, k, ⟨v, vs', e, h1, h2⟩, hk => by
    simp only [R8] at hk
    split at hk
    . rename_i x hx
      obtain ⟨y, hy, hky⟩ := A2g h hsp h2 hk
      exact ⟨(x, y), ⟨v, vs', e, D5v h h1 hx, hy⟩, hky⟩
    . exact hk.elim
  | .row t e0 :: r, s :: ss, _, k, ⟨v, vs', e, h1, h2⟩, hk => by
    simp only [R8] at hk
    split at hk
    . rename_i q hrq
      rw [B3e hrq] at h1
      split at hk
      . rename_i l hl
        cases hmu : mu.any (Nat.beq q) with
        | false => simp [hmu] at hk
        | true =>
          simp only [hmu, cond_true] at hk
          obtain ⟨y, hy, hky⟩ := A2g h hsp h2 hk
          have hq := C0g hl
          have hL := h.locs q
          rw [hq] at hL
          obtain ⟨xs, g1, g2, g3⟩ := hL
          obtain ⟨_, _, e1, e2, _⟩ := h1
          cases e1
          have e2 : v = B q := e2
          refine ⟨(l, y), ⟨v, vs', e, ⟨xs, by rw [e2]; exact g1, g2.mono fun _ _ => Rep.mono (fun _ => .inl) (fun _ _ => rfl), fun b hb => ?_⟩, hy⟩, hky⟩
          rw [e2] at hb
          exact D0g h hmu (by rw [hq]; exact (H0 g1).trans hb)
      . exact hk.elim
    . exact hk.elim
  | .box T t :: r, s :: ss, _, k, ⟨v, vs', e, h1, h2⟩, hk => by
    simp only [R8] at hk
    split at hk
    . rename_i q hrq
      rw [D6w hrq] at h1
      split at hk
      . rename_i x hx
        cases hmu : mu.any (Nat.beq q) with
        | false => simp [hmu] at hk
        | true =>
          simp only [hmu, cond_true] at hk
          obtain ⟨y, hy, hky⟩ := A2g h hsp h2 hk
          obtain ⟨cs, hq, hpk⟩ := B9y hx
          have hL := h.locs q
          rw [hq] at hL
          obtain ⟨b, us, g1, g2, g3, g4, g5⟩ := hL
          obtain ⟨_, _, e1, ⟨b', e2, e3⟩, _⟩ := h1
          cases e1
          rw [g1] at e2; cases e2
          refine ⟨(x, y), ⟨v, vs', e, ⟨b, us, e3, D0g h hmu (by rw [hq, g1]; rfl), g4, (A3s g5 hpk).mono (fun _ => .inl) (fun _ _ => rfl)⟩, hy⟩, hky⟩
      . exact hk.elim
    . exact hk.elim
  | .fn as' ra' r' :: r, s :: ss, _, k, ⟨v, vs', e, h1, h2⟩, hk => by
    simp only [R8] at hk
    split at hk
    . rename_i g ks hc
      split at hk
      . rename_i sg hsg
        cases hg : A5s cx.P g && A0u sg.args && (!sh || ks.all (fun k => D7i (st.L k))) && ks.all (fun k => C0k (st.L k)) with
        | false => simp only [hg, cond_false] at hk
        | true =>
          simp only [hg, cond_true] at hk
          simp only [Bool.and_eq_true, Bool.or_eq_true, Bool.not_eq_true'] at hg
          obtain ⟨ok, φ, hp, hk⟩ := hk
          obtain ⟨y, hy, hky⟩ := A2g h hsp h2 hk
          have hcs : s = ⟨false, [.fn g ks]⟩ := by
            unfold c1 at hc; split at hc
            . cases hc; rfl
            . cases hc
          subst hcs
          obtain ⟨_, _, e1, e2, _⟩ := h1
          cases e1
          exact ⟨((ok, φ), y), ⟨v, vs', e, G3h h (hsp g sg hsg).1 hg.1.1.1 e2 hg.1.1.2 hg.2 hg.1.2 hp, hy⟩, hky⟩
      . exact hk.elim
    . rename_i P' as'' ra'' r'' ok φ hc
      split at hk
      . rename_i hh
        obtain ⟨rfl, rfl⟩ := hh
        obtain ⟨rfl, rfl, hk⟩ := hk
        obtain ⟨y, hy, hky⟩ := A2g h hsp h2 hk
        have hcs : s = ⟨false, [.fv cx.P as'' ra'' r'' ok φ]⟩ := by
          unfold c1 at hc; split at hc
          . cases hc; rfl
          . cases hc
        subst hcs
        obtain ⟨_, _, e1, e2, _⟩ := h1
        cases e1
        exact ⟨((ok, φ), y), ⟨v, vs', e, RC.mono (n := 0) (c := .fv cx.P as'' ra'' r'' ok φ) (B' := B) (fun _ => .inl) (fun _ _ => rfl) (fun _ _ => rfl) trivial e2, hy⟩, hky⟩
      . exact hk.elim
    . exact hk.elim
  | .rows t e0 e1 :: r, s :: ss, _, k, ⟨v, vs', e, h1, h2⟩, hk => by
    simp only [R8] at hk
    split at hk
    . rename_i q hrq
      rw [B3e hrq] at h1
      split at hk
      . rename_i l hl
        cases hmu : mu.any (Nat.beq q) with
        | false => simp [hmu] at hk
        | true =>
          simp only [hmu, cond_true] at hk
          obtain ⟨y, hy, hky⟩ := A2g h hsp h2 hk
          obtain ⟨al, hq⟩ := A7g hl
          have hL := h.locs q
          rw [hq] at hL
          obtain ⟨_, _, e1, e2, _⟩ := h1
          cases e1
          have e2 : v = B q := e2
          refine ⟨(l, y), ⟨v, vs', e, ⟨by rw [e2]; exact hL.rowsR.mono (fun _ => .inl), fun b hb => ?_⟩, hy⟩, hky⟩
          rw [e2] at hb
          have hb : D8 w (B q) (st.L q) b := by rw [hq]; exact (X9 fun _ _ => rfl).1 hb
          exact ⟨D0g h hmu hb, ((h.locs q).root hb).2.1⟩
      . exact hk.elim
    . exact hk.elim
theorem C1k.rwf {base : Nat} {Zn : Nat -> Prop} : ∀ {rs : List RT} {vs : List Value} {x : A5f rs}, C1k base w' Zn rs vs x -> rwf rs x
  | [], _, _, _ => trivial
  | .val a t :: rs, _, x, ⟨v, vs', e, h1, _, h2⟩ => ⟨by
      exact A5z.wf' (fun _ _ => Rep.wf) h1, C1k.rwf h2⟩
  | .own t e :: rs, _, x, ⟨v, vs', _, ⟨xs, h1, h3, _⟩, _, h2⟩ => ⟨Rep.wf (A0x (Z := fun _ => True) h1 (h3.mono fun _ _ => Rep.mono (fun _ _ => trivial) (fun _ _ => rfl)) (fun _ _ => trivial)), C1k.rwf h2⟩
  | .obox T t :: rs, _, x, ⟨v, vs', _, ⟨_, _, _, _, _, _, g⟩, _, h2⟩ => ⟨Rep.wf g, C1k.rwf h2⟩
theorem Rel.place {base : Nat} {Zn : Nat -> Prop} : ∀ {rs : List RT} {us : List Value} {r : A5f rs} {st : St} {B : Nat -> Value}, Rel za w0 st E w' Z B -> w0.heap.size <= base -> za.b0 <= base -> (∀ b, Zn b -> Z b) -> (∀ b, base <= b -> Z b -> Zn b) -> (∀ b, base <= b -> ∀ k, D8 w' (B k) (st.L k) b -> ∀ u ∈ A0k rs us, root u ≠ some b) -> C1k base w' Zn rs us r ->
    ∃ B', Rel za w0 (H3 rs r st).2 E w' Z B' /\ RSs w' Z B' (H3 rs r st).1 us /\ (∀ s ∈ (H3 rs r st).1, C8z (H3 rs r st).2.nx s) /\ (∀ k, k < st.nx -> B' k = B k) /\ st.nx <= (H3 rs r st).2.nx /\ (∀ j, j < st.nx -> (H3 rs r st).2.L j = st.L j) /\ (∀ j b, st.nx <= j -> D8 w' (B' j) ((H3 rs r st).2.L j) b -> base <= b)
  | [], us, _, st, B, h, _, _, _, _, _, hr => ⟨B, h, hr, by simp [H3], fun _ _ => rfl, Nat.le_refl _, fun _ _ => rfl, fun j b hj hl => by
    have hl : D8 w' (B j) (st.L j) b := hl
    rw [h.fresh j hj] at hl; exact hl.elim⟩
  | .val a t :: rs, us, r, st, B, h, hb, hmb, hz, hz', hd, ⟨v, us', e, h1, _, h2⟩ => by
    subst e
    obtain ⟨B', g1, g2, g3, g4, g5, g6⟩ := Rel.place (rs := rs) (us := us') h hb hmb hz hz' (fun b hb k hk u hu => hd b hb k hk u hu) h2
    refine ⟨B', g1, ⟨v, us', rfl, A7z.explode (A7z.mono hz (fun _ _ => rfl) h1), g2⟩, fun s hs => ?_, g4, g5, g6⟩
    rcases List.mem_cons.1 hs with rfl | hs
    . exact D3
    . exact g3 s hs
  | .own t e :: rs, us, r, st, B, h, hb, hmb, hz, hz', hd, ⟨v, us', eq, ⟨xs, hown, heach, hnz⟩, hdis, h2⟩ => by
    subst eq
    have hro := H0 hown
    have hlt := World.ownsRow.lt hown
    have hown' : w'.ownsRow 0 e t.size v r.1.length xs := C7k hown (Nat.zero_le _)
    have hv1 : v.oneCell' = true := by rcases hown.2 with ⟨hv, _⟩ | ⟨_, _, _, hv, _⟩ <;> rw [hv] <;> rfl
    have h3 := h.new (v := v) (lc := .row t e r.1) ⟨xs, by rw [E3]; exact hown', heach.mono fun _ _ => Rep.mono hz (fun _ _ => rfl), fun b hb' => by
      rw [E3] at hb'
      exact ⟨.inl ⟨h.nms.2, Nat.le_trans hb (hlt b hb').1⟩, fun hzb => hnz b hb' (hz' b (hlt b hb').1 hzb)⟩⟩
      (fun k b hb' hb'' => by
        have hvb : v.ownBlock = some b := hro.symm.trans hb'
        exact hd b (hlt b hvb).1 k hb'' v (by simp [A0k]) hb') trivial hv1 (fun b _ hb' => Nat.le_trans hmb (hlt b (hro.symm.trans hb')).1)
    obtain ⟨B', g1, g2, g3, g4, g5, g6, g7⟩ := Rel.place h3 hb hmb hz hz' (fun b hb' k hk u hu => by
      rw [St.L_newL] at hk
      by_cases hkn : k = st.nx
      . subst hkn
        rw [if_pos rfl, E3] at hk
        exact hdis rfl b hk u hu
      . rw [if_neg hkn] at hk
        rw [D4 _ _ _ _ hkn] at hk
        exact hd b hb' k hk u (by simp [A0k, hu])) h2
    have hBn : B' st.nx = v := by rw [g4 st.nx (Nat.lt_succ_self _), E3]
    refine ⟨B', g1, ⟨v, us', rfl, ⟨v, [], rfl, hBn.symm, rfl⟩, g2⟩, fun s hs => ?_, fun k hk => ?_, Nat.le_trans (Nat.le_succ _) g5, fun j hj => ?_, fun j b hj hl => ?_⟩
    . rcases List.mem_cons.1 hs with rfl | hs
      . intro c hc; simp at hc; subst hc; exact Nat.lt_of_lt_of_le (Nat.lt_succ_self _) g5
      . exact g3 s hs
    . rw [g4 k (Nat.lt_succ_of_lt hk), D4 _ _ _ _ (Nat.ne_of_lt hk)]
    . have := g6 j (Nat.lt_succ_of_lt hj)
      simp only [H3]
      rw [this, St.L_newL, if_neg (Nat.ne_of_lt hj)]
    . by_cases hjn : j = st.nx
      . subst hjn
        have hL : (H3 rs r.2 (st.newL (.row t e r.1))).2.L st.nx = .row t e r.1 := by rw [g6 st.nx (Nat.lt_succ_self _), St.L_newL, if_pos rfl]
        have hl : D8 w' (B' st.nx) ((H3 rs r.2 (st.newL (.row t e r.1))).2.L st.nx) b := hl
        rw [hL, hBn] at hl
        exact (hlt b (hro.symm.trans hl)).1
      . exact g7 j b (by have : st.nx <= j := hj; show st.nx + 1 <= j; omega) hl
  | .obox T t :: rs, us, r, st, B, h, hb, hmb, hz, hz', hd, ⟨v, us', eq, ⟨g, cs, hv, hbg, hnz, hblk, hrep⟩, hdis, h2⟩ => by
    subst eq
    subst hv
    have h3 := h.new (v := .pointer (some ⟨g, 0, none⟩)) (lc := .box T (explode t r.1)) ⟨g, cs, E3 _ _ _, .inl ⟨h.nms.2, Nat.le_trans hb hbg⟩, fun hzb => hnz (hz' g hbg hzb), hblk, Q8 (Rep.mono hz (fun _ _ => rfl) hrep)⟩
      (fun k b hb' hb'' => by
        have hgb : g = b := by simpa [D8, root] using hb'
        subst hgb
        exact hd g hbg k hb'' (.pointer (some ⟨g, 0, none⟩)) (by simp [A0k]) rfl)
      (fun c hc => D3 c hc) rfl (fun b _ hb' => by
        have hgb : g = b := by simpa [D8, root] using hb'
        subst hgb
        exact Nat.le_trans hmb hbg)
    obtain ⟨B', g1, g2, g3, g4, g5, g6, g7⟩ := Rel.place h3 hb hmb hz hz' (fun b hb' k hk u hu => by
      rw [St.L_newL] at hk
      by_cases hkn : k = st.nx
      . subst hkn
        rw [if_pos rfl, E3] at hk
        exact hdis rfl b hk u hu
      . rw [if_neg hkn] at hk
        rw [D4 _ _ _ _ hkn] at hk
        exact hd b hb' k hk u (by simp [A0k, hu])) h2
    have hBn : B' st.nx = .pointer (some ⟨g, 0, none⟩) := by rw [g4 st.nx (Nat.lt_succ_self _), E3]
    refine ⟨B', g1, ⟨_, us', rfl, ⟨_, [], rfl, ⟨g, hBn, rfl⟩, rfl⟩, g2⟩, fun s hs => ?_, fun k hk => ?_, Nat.le_trans (Nat.le_succ _) g5, fun j hj => ?_, fun j b hj hl => ?_⟩
    . rcases List.mem_cons.1 hs with rfl | hs
      . intro c hc; simp at hc; subst hc; exact Nat.lt_of_lt_of_le (Nat.lt_succ_self _) g5
      . exact g3 s hs
    . rw [g4 k (Nat.lt_succ_of_lt hk), D4 _ _ _ _ (Nat.ne_of_lt hk)]
    . have := g6 j (Nat.lt_succ_of_lt hj)
      simp only [H3]
      rw [this, St.L_newL, if_neg (Nat.ne_of_lt hj)]
    . by_cases hjn : j = st.nx
      . subst hjn
        have hL : (H3 rs r.2 (st.newL (.box T (explode t r.1)))).2.L st.nx = .box T (explode t r.1) := by rw [g6 st.nx (Nat.lt_succ_self _), St.L_newL, if_pos rfl]
        have hl : D8 w' (B' st.nx) ((H3 rs r.2 (st.newL (.box T (explode t r.1)))).2.L st.nx) b := hl
        rw [hL, hBn] at hl
        have hgb : g = b := by simpa [D8, root] using hl
        subst hgb
        exact hbg
      . exact g7 j b (by have : st.nx <= j := hj; show st.nx + 1 <= j; omega) hl
theorem D6o {ss : List SV} {us : List Value} (h : RSs w Z B ss us) (E' : Env) : RD w Z B E' (G1f ss) (D0j us) := by
  match ss, h with
  | [], h => rw [show us = [] from h]; exact ⟨[], rfl, rfl⟩
  | [s], ⟨v, us', e, h1, h2⟩ => rw [e, show us' = [] from h2]; exact h1
  | s :: s' :: r, ⟨v, us', e, h1, v', us'', e', h2, h3⟩ =>
    subst e'
    subst e
    exact ⟨_, rfl, v, _, rfl, h1, v', us'', rfl, h2, h3⟩
theorem D8b {n : Nat} {ss : List SV} (h : ∀ s ∈ ss, C8z n s) : E5f n (G1f ss) := by
  match ss with
  | [] => exact fun _ hs => by cases hs
  | [s] => exact h s (by simp)
  | s :: s' :: r => exact h
end
theorem E6 {α : Type} {c : Bool} {a : Option α} {x : α} (h : (bif c then a else none) = some x) : c = true /\ a = some x := by
  cases c
  . cases h
  . exact ⟨rfl, h⟩
theorem B4 {c : Bool} {p : Prop} (h : bif c then p else False) : c = true /\ p := by
  cases c
  . exact h.elim
  . exact ⟨rfl, h⟩
def B2o (st : St) : Nat -> Tmp -> Bool
  | 0, _ => false
  | n + 1, t => match st.S t with
    | .one v => (D9l v).isSome
    | .cnd t' _ v => (D9l v).isSome && B2o st n t'
    | _ => false
def B6b : List RT -> Bool
  | [] => true
  | r :: rs => !(C8t r) && B6b rs
def C4u (st : St) (ctx : Ctx) (f : Operand) (args : List Operand) : Option (FuncId × List SV) := do
  let c <- (st.ev ctx f).bind c1
  let ss <- evL st ctx args
  match c with
  | .fn g ks => bif ks.all (fun k => C0k (st.L k)) then some (g, ss ++ ks.map fun k => ⟨false, [.box k 0]⟩) else none
  | _ => none
def thaw (st : St) (k : Nat) : St := match st.L k with
  | .rows t e _ ls _ none => bif Nat.ble st.nm k then (st.setL k .none).setL k (.row (.sl t) e ls) else st
  | _ => st
def thawS (st : St) : SV -> St
  | ⟨false, [.row k]⟩ => thaw st k
  | _ => st
def settleA : St -> List AM -> List SV -> St
  | st, .val _ _ :: r, s :: ss => settleA (settle st s.cs) r ss
  | st, .row _ _ :: r, s :: ss => settleA (thawS st s) r ss
  | st, .box _ _ :: r, _ :: ss => settleA st r ss
  | st, .fn _ _ _ :: r, _ :: ss => settleA st r ss
  | st, .rows _ _ _ :: r, _ :: ss => settleA st r ss
  | st, _, _ => st
def dropM : St -> List Nat -> St
  | st, [] => st
  | st, k :: ks => dropM (st.setL k .none) ks
def addM : (as : List AM) -> D2s as -> List Nat -> St -> St
  | .row t e :: r, o, k :: ks, st => addM r o.2 ks (st.setL k (.row t e o.1))
  | .box T t :: r, o, k :: ks, st => addM r o.2 ks (st.setL k (.box T (explode t o.1)))
  | .val _ _ :: r, o, ks, st => addM r o ks st
  | .fn _ _ _ :: r, o, ks, st => addM r o ks st
  | .rows t e e' :: r, o, k :: ks, st => addM r o.2 ks (st.setL k (.rows t e e' o.1 [] none))
  | _, _, _, st => st
def D1e (cx : Cx) (sp : B6) (st : St) (d : Tmp) (s : B9) (ss : List SV) (k : St -> Prop) : Prop :=
  match A1d s.args ss with
  | some mu => bif C8q mu then
      (bif T2 s.args then R8 cx sp st mu s.shared s.args ss fun x => s.pre x /\ ∀ r o, rwf s.res r -> owf s.args o -> s.post x r -> s.mpost x r o -> k ((addM s.args o mu (H3 s.res r (dropM st mu)).2).setS d (G1f (H3 s.res r (dropM st mu)).1))
       else R8 cx sp st mu s.shared s.args ss fun x => s.pre x /\ ∀ r, rwf s.res r -> s.post x r -> k ((H3 s.res r st).2.setS d (G1f (H3 s.res r st).1)))
    else False
  | none => False
def stillF (cx : Cx) : St -> List AM -> List SV -> St
  | st, a :: r, s :: ss => stillF cx (match a, c1 s with
    | .fn _ _ _, some (.fn _ ks) => ks.foldl (stillB cx) st
    | _, _ => st) r ss
  | st, _, _ => st
def F2n (st : St) (sh : Bool) : (as : List (Bool × Ty)) -> List SV -> Option (A1h as)
  | [], [] => some ()
  | (a, t) :: r, s :: ss => (E7g st [] sh a t s).bind fun x => (F2n st sh r ss).map fun y => (x, y)
  | _, _ => none
def C3y (cx : Cx) (sp : B6) (st : St) (d : Tmp) (f : Operand) (args : List Operand) (k : St -> Prop) : Prop :=
  match (st.ev [] f).bind c1 with
  | some (.fv P as ra r ok φ) => (match evL st [] args with
    | some ss => (match F2n st (!(B9h r)) as ss with
      | some y => P = cx.P /\ ok y /\ (r.wf (φ y) -> k (st.setS d (.one ⟨ra, explode r (φ y)⟩)))
      | none => False)
    | none => False)
  | _ => match C4u st [] f args with
    | some (g, ss) => match A8n g sp with
      | some s => bif A5s cx.P g then
          (match s.inl with
          | some run => run.run d st ss fun st' ss' => k (st'.setS d (G1f ss'))
          | none => bif s.shared then
            (match C4u (settleA (stillF cx st s.args ss) s.args ss) [] f args with
             | some (g', ss') => bif Nat.beq g' g then D1e cx sp (settleA (stillF cx st s.args ss) s.args ss) d s ss' k else False
             | none => False)
          else D1e cx sp st d s ss k)
        else False
      | none => False
    | none => False
def D5o (sp : B6) (st : St) (o : Oper) : Bool := match o.op with
  | .call ⟨.value f, _, _⟩ => match (st.ev [] f).bind c1 with
    | some (.fn g _) => (match A8n g sp with
      | some s => s.inl.isSome || T2 s.args
      | none => true)
    | some (.fv _ _ _ _ _ _) => false
    | _ => o.guard.isNone
  | _ => false
def G2w (sp : B6) (st : St) : Op -> Bool
  | .call ⟨.value f, _, _⟩ => match (st.ev [] f).bind c1 with
    | some (.fn g _) => (match A8n g sp with
      | some s => s.inl.isSome
      | none => false)
    | _ => false
  | _ => false
def F7q (sp : B6) (n0 : Nat) (st : St) (op : Op) : Bool := E6c n0 st op && !(G2w sp st op)
def wrO (sp : B6) (st : St) (o : Oper) : Bool := wrB o.op || D5o sp st o
def G3q (st : St) (f : Operand) (g : Nat) : Bool := match (st.ev [] f).bind c1 with
  | some (.fn g' _) => Nat.beq g' g
  | _ => false
def E2d (cx : Cx) (sp : B6) (st : St) (ctx : Ctx) (t : Tmp) (b : Bool) (d : Tmp) (s : B9) (ss : List SV) (k : St -> Prop) : Prop :=
  match A1d s.args ss with
  | some mu => bif C8q mu then
      R8 cx sp st mu s.shared s.args ss fun x => (ctxP st ctx -> s.pre x /\ ∀ r o, rwf s.res r -> owf s.args o -> s.post x r -> s.mpost x r o -> (match (H3 s.res r (dropM st mu)).1 with
          | [sv] => k ((addM s.args o mu (H3 s.res r (dropM st mu)).2).setS d (.cnd t b sv))
          | _ => False)) /\ ((ctxP st ctx -> False) -> (match (H3 s.res (E6u s.res) st).1 with
          | [sv] => k (st.setS d (.cnd t b sv))
          | _ => False))
    else False
  | none => False
def G0t (n : Nat) : C -> Bool
  | .row k => Nat.blt k n
  | .box k _ => Nat.blt k n
  | .elp k _ _ _ => Nat.blt k n
  | .win k _ _ _ => Nat.blt k n
  | .mp k => Nat.blt k n
  | .fn _ caps => caps.all fun k => Nat.blt k n
  | _ => true
theorem B4k {a b : Nat} (h : Nat.blt a b = true) : a < b := Nat.le_of_ble_eq_true h
theorem E3y {n : Nat} {c : C} (h : G0t n c = true) : B0s n c := by
  cases c with
  | row k => exact B4k h
  | box k _ => exact B4k h
  | elp k _ _ _ => exact B4k h
  | win k _ _ _ => exact B4k h
  | mp k => exact B4k h
  | fn _ caps => exact fun k hk => B4k (List.all_eq_true.1 h k hk)
  | _ => trivial
def B3c (cx : Cx) (sp : B6) (st : St) (ctx : Ctx) (t : Tmp) (b : Bool) (d : Tmp) (f : Operand) (args : List Operand) (k : St -> Prop) : Prop :=
  match (st.ev ctx f).bind c1 with
  | some (.fv P as ra r ok φ) => (match evL st ctx args with
    | some ss => (match F2n st (!(B9h r)) as ss with
      | some y => P = cx.P /\ (ctxP st ctx -> ok y) /\ ((ctxP st ctx -> r.wf (φ y)) -> k (st.setS d (.cnd t b ⟨ra, explode r (φ y)⟩)))
      | none => False)
    | none => False)
  | _ => match C4u st ctx f args with
  | some (g, ss) => match A8n g sp with
    | some s => match s.inl with
     | some run => (match run.res ss with
       | some sv => bif A5s cx.P g && sv.cs.all (G0t st.nx) then k (st.setS d (.cnd t b sv)) else False
       | none => False)
     | none => bif A5s cx.P g && B6b s.res then
        (bif T2 s.args then (bif G3q st f g then E2d cx sp st ctx t b d s ss k else False)
         else R8 cx sp st [] s.shared s.args ss fun x => (ctxP st ctx -> s.pre x) /\ ∀ r, (ctxP st ctx -> rwf s.res r /\ s.post x r) -> (match (H3 s.res r st).1 with
            | [sv] => k (st.setS d (.cnd t b sv))
            | _ => False))
      else False
    | none => False
  | none => False
def E6l (cx : Cx) (st : St) (ctx : Ctx) (t : Tmp) (b : Bool) (d : Tmp) (T : TypeId) (len : Nat) (parts : List (Nat × Operand)) : Option St := do
  let ti <- cx.ti T
  let ty <- slT ti.ty
  let ps <- A8h st ctx parts
  let xs <- B1k ty 0 ps
  bif Nat.beq xs.length len && Nat.ble (len * ty.size) 16777216 && Nat.ble 1 ty.size then some (st.setS d (.cnd t b ⟨false, [.val (.sl ty) xs]⟩)) else none
def C2z (st : St) (d : Tmp) (x : Operand) (k : St -> Prop) : Prop := match (st.ev [] x).bind c1 with
  | some (.box q 0) => match st.L q with
    | .iter ka kt va vt left _ => (left = [] -> k (st.setS d (.tup [⟨false, [.val .bool false]⟩]))) /\
        ∀ (l1 : List (kt.den × vt.den)) (y : kt.den × vt.den) (l2 : List (kt.den × vt.den)), left = l1 ++ y :: l2 -> k ((st.setL q (.iter ka kt va vt (l1 ++ l2) (some y))).setS d (.tup [⟨false, [.val .bool true]⟩, ⟨ka, explode kt y.1⟩, ⟨va, explode vt y.2⟩]))
    | _ => False
  | _ => False
def G2q (all : List Oper) (d : Option Tmp) : Bool := all.any fun p => match p.op with
  | .call ⟨.builtin .append, args, _⟩ => (match args.toList, d with
    | .tmp t :: _, some d => Nat.beq t d
    | _, _ => false)
  | _ => false
def G3c (T : TypeId) (l : List (Nat × TI)) : List (Nat × TI) := match A8n T l with
  | some ti => (T, { ti with rows := false }) :: l
  | none => l
def F9w (cx : Cx) (all : List Oper) (o : Oper) : Cx := match o.op with
  | .lookup T _ _ _ => bif G2q all o.dst then cx else ⟨cx.P, G3c T cx.tys⟩
  | _ => cx
def D1w (cx : Cx) (sp : B6) (all : List Oper) (o : Oper) (k : St -> Prop) (st : St) : Prop :=
  match o.guard with
  | none => match C5f (F9w cx all o) st [] o.op with
    | some (φ, v) => match o.dst with
      | some d => F6w φ (k (st.setS d v))
      | none => False
    | none => match o.op with
      | .store T p v => match o.dst with
        | none => match E0a cx st T p v with
          | some (φ, st') => F6w φ (k st')
          | none => False
        | some _ => False
      | .mapUpdate T m x y => match o.dst with
        | none => match D4p cx st T m x y with
          | some st' => k st'
          | none => False
        | some _ => False
      | .insert T m x y => match o.dst with
        | none => match D4p cx st T m x y with
          | some st' => k st'
          | none => False
        | some _ => False
      | .call ⟨.value f, args, _⟩ => match o.dst with
        | some d => C3y cx sp st d f args.toList k
        | none => False
      | .next x str => match o.dst with
        | some d => bif str then False else C2z st d x k
        | none => False
      | .mapEntry T m x => match o.dst with
        | some d => match E0c cx st d T m x with
          | some st' => k st'
          | none => False
        | none => False
      | .entryStore _ m s y => match o.dst with
        | none => match E0o st m s y with
          | some st' => k st'
          | none => False
        | some _ => False
      | .call ⟨.builtin .clear, args, ts⟩ => match o.dst, args.toList, ts.toList with
        | none, [x], [T] => (match E1h cx st T x with
          | some st' => k st'
          | none => False)
        | _, _, _ => False
      | op => match o.dst with
        | some d => match G1s cx st d op with
          | some (φ, st') => F6w φ (k st')
          | none => False
        | none => False
  | some (j, b) => match (all[j]?).bind (·.dst) with
    | some t => bif B2o st 20 t then (match o.dst with
      | some d => bif !(Nat.beq t d) then (match C5f cx st (gctx st 20 t b) o.op with
        | some (φ, .one s) => bif s.cs.all (G0t st.nx) then F6w (G1w (ctxP st (gctx st 20 t b)) φ) (k (st.setS d (.cnd t b s))) else False
        | some _ => False
        | none => match o.op with
          | .call ⟨.value f, args, _⟩ => B3c cx sp st (gctx st 20 t b) t b d f args.toList k
          | .buildSlice T len parts => (match E6l cx st (gctx st 20 t b) t b d T len parts.toList with
            | some st' => k st'
            | none => False)
          | _ => False) else False
      | none => False) else False
    | none => False
def D8v (cx : Cx) (sp : B6) (all : List Oper) : List Oper -> (St -> Prop) -> St -> Prop
  | [], k => k
  | o :: r, k => D1w cx sp all o (D8v cx sp all r k)
section
variable {za : Zn} {w0 w w' : World} {Z : Nat -> Prop} {B : Nat -> Value} {st : St} {E : Env} {cx : Cx} {sp : B6} {all : List Oper} {k : St -> Prop}
theorem D5p (h : Rel za w0 st E w Z B) : ∀ {n : Nat} {t : Tmp} {b : Bool}, B2o st n t = true -> E t ≠ .bool b -> ¬ ctxP st (gctx st n t b)
  | 0, _, _, hf, _ => by cases hf
  | n + 1, t, b, hf, he => by
    have hs := h.slots t
    unfold B2o at hf
    unfold gctx
    cases hd : st.S t with
    | one v =>
      rw [hd] at hs hf
      simp only at hf
      obtain ⟨e, he'⟩ := Option.isSome_iff_exists.1 hf
      have hv := B3f hs he'
      have hg : gval st t = some e := by unfold gval; rw [hd]; exact he'
      intro hh
      obtain ⟨rfl, _⟩ := (C8i hg).1 hh
      exact he hv
    | cnd t' b' v =>
      rw [hd] at hs hf
      simp only [Bool.and_eq_true] at hf
      obtain ⟨e, he'⟩ := Option.isSome_iff_exists.1 hf.1
      have hg : gval st t = some e := by unfold gval; rw [hd]; exact he'
      intro hh
      obtain ⟨rfl, hr⟩ := (C8i hg).1 hh
      rcases hs with ⟨_, hs⟩ | ⟨hs, _⟩
      . exact he (B3f hs he')
      . exact D5p h hf.2 hs hr
    | tup _ => rw [hd] at hf; cases hf
    | dead => rw [hd] at hf; cases hf
theorem A7o (h : Rel za w0 st E w Z B) {ctx : Ctx} (hc : W2 E ctx) {f : Operand} {args : List Operand} {g : FuncId} {ss : List SV} (hs : C4u st ctx f args = some (g, ss)) :
    ∃ cap : List Value, Gw.ev E f = .func (.func g) #[] cap.toArray /\ RSs w Z B ss (args.map (Gw.ev E) ++ cap) /\ ∀ s ∈ ss, C8z st.nx s := by
  simp only [C4u, Option.bind_eq_bind, bind_some] at hs
  obtain ⟨c, ⟨sf, hsf, hcf⟩, ss', hss, hs⟩ := hs
  have h1 := h.c1 hc (bind_some.2 ⟨sf, hsf, hcf⟩)
  obtain ⟨h2, h3⟩ := E0t h hc hss
  split at hs
  . rename_i g' ks
    cases hall : ks.all (fun k => C0k (st.L k)) with
    | false => simp [hall] at hs
    | true =>
      simp only [hall, cond_true] at hs
      cases hs
      refine ⟨ks.map B, h1.1, h2.append (E3w h hall), fun s hs => ?_⟩
      . rcases List.mem_append.1 hs with hs | hs
        . exact h3 s hs
        . obtain ⟨k, hk, rfl⟩ := List.mem_map.1 hs
          intro c hc
          simp at hc; subst hc
          exact h1.2 k hk
  . cases hs
theorem Rel.thaw (h : Rel za w0 st E w Z B) (k : Nat) : ∃ Z', Rel za w0 (thaw st k) E w Z' B := by
  unfold Vc.thaw
  split
  . rename_i t e e' ls al hk
    cases hn : Nat.ble st.nm k with
    | false => exact ⟨Z, h⟩
    | true =>
      simp only [cond_true]
      have hn := Nat.le_of_ble_eq_true hn
      have hL := h.locs k
      rw [hk] at hL
      have hR := hL.rowsR
      obtain ⟨xs, h1, h3, h4, h5⟩ := hR
      have hf : ∀ {i : Nat} {x : Value} {b : Nat}, xs[i]? = some x -> root x = some b -> D8 w (B k) (st.L k) b := fun hx hb => by rw [hk]; exact D3v h1 hx hb
      have d1 : Rel za w0 (st.setL k .none) E w (fun b => Z b \/ ∃ (i : Nat) (x : Value), xs[i]? = some x /\ root x = some b) B := by
        refine (h.drop k).keep h.ext (Nat.le_refl _) (fun _ _ => rfl) (fun _ => .inl) (fun b hb => ?_)
        rcases hb with hb | ⟨i, x, hx, hb⟩
        . exact .inl hb
        . obtain ⟨g1, g2, _⟩ := (h.locs k).root (hf hx hb)
          refine .inr ⟨g2, ?_, fun q hq => ?_⟩
          . rcases g1 with g1 | g1
            . exact g1.2
            . have := h.nms.1; omega
          . rw [St.L_setL] at hq
            by_cases hqk : q = k
            . rw [if_pos hqk] at hq; exact hq.elim
            . rw [if_neg hqk] at hq
              exact h.disj q k b hqk hq (hf hx hb)
      have hroot := H0 h1
      have d2 := d1.addL (k := k) (lc := .row (.sl t) e ls) (A8m h (by rw [hk]; trivial)) ⟨xs, h1, D8c (by have := h1.1; omega) fun i l x hl hx => ?_, fun b hb => ?_⟩ (fun j b hjk hb hj => ?_) trivial (fun b hk0 hb => h.mrk.2 k b hk0 (by rw [hk]; exact .inl hb))
      . exact ⟨_, d2⟩
      . obtain ⟨ys, g1, g2⟩ := h3 i l x hl hx
        exact A0x g1 (g2.mono fun _ _ => Rep.mono (fun _ => .inl) (fun _ _ => rfl)) (fun b hb => .inr ⟨i, x, hx, (H0 g1).trans hb⟩)
      . have hb' : D8 w (B k) (st.L k) b := by rw [hk]; exact .inl (hroot.trans hb)
        obtain ⟨g1, _, g3⟩ := (h.locs k).root hb'
        exact ⟨g1, fun hz => hz.elim g3 fun ⟨i, x, hx, hxb⟩ => h5 i x b hx hxb (hroot.trans hb)⟩
      . rw [St.L_setL, if_neg hjk] at hj
        exact h.disj j k b hjk hj (by rw [hk]; exact .inl hb)
  . exact ⟨Z, h⟩
theorem Rel.thawS (h : Rel za w0 st E w Z B) (s : SV) : ∃ Z', Rel za w0 (thawS st s) E w Z' B := by
  unfold Vc.thawS
  split
  . exact h.thaw _
  . exact ⟨Z, h⟩
theorem Rel.stillL (h : Rel za w0 st E w Z B) (cx : Cx) : ∀ ks : List Nat, ∃ Z', Rel za w0 (ks.foldl (Vc.stillB cx) st) E w Z' B := by
  intro ks
  induction ks generalizing st Z with
  | nil => exact ⟨Z, h⟩
  | cons k ks ih =>
    obtain ⟨Z1, h1⟩ := h.stillB cx k
    exact ih h1
theorem Rel.stillF (h : Rel za w0 st E w Z B) (cx : Cx) : ∀ (as : List AM) (ss : List SV), ∃ Z', Rel za w0 (stillF cx st as ss) E w Z' B := by
  intro as
  induction as generalizing st Z with
  | nil => intro ss; exact ⟨Z, h⟩
  | cons a as ih =>
    intro ss
    cases ss with
    | nil => exact ⟨Z, h⟩
    | cons s ss =>
      simp only [Vc.stillF]
      split
      . rename_i ks _
        obtain ⟨Z1, h1⟩ := h.stillL cx ks
        exact ih h1 ss
      . exact ih h ss
theorem Rel.settleA (h : Rel za w0 st E w Z B) : ∀ {as : List AM} {ss : List SV}, ∃ Z', Rel za w0 (settleA st as ss) E w Z' B := by
  intro as
  induction as generalizing st Z with
  | nil => intro ss; exact ⟨Z, h⟩
  | cons a as ih =>
    intro ss
    cases ss with
    | nil => cases a <;> exact ⟨Z, h⟩
    | cons s ss =>
      cases a with
      | val _ _ => obtain ⟨Z1, h1⟩ := h.settle s.cs; exact ih h1
      | row _ _ => obtain ⟨Z1, h1⟩ := h.thawS s; exact ih h1
      | _ => exact ih h
theorem C3t (st : St) : ∀ (ks : List Nat) (q : Nat), (dropM st ks).L q = if q ∈ ks then .none else st.L q := by
  intro ks
  induction ks generalizing st with
  | nil => intro q; simp [dropM]
  | cons k ks ih =>
    intro q
    simp only [dropM, ih, St.L_setL]
    by_cases h1 : q ∈ ks
    . simp [h1]
    . by_cases h2 : q = k
      . simp [h2]
      . simp [h1, h2]
theorem D8m (st : St) : ∀ (ks : List Nat), (dropM st ks).nx = st.nx := by
  intro ks
  induction ks generalizing st with
  | nil => rfl
  | cons k ks ih => simp only [dropM, ih]; rfl
theorem Rel.dropM (h : Rel za w0 st E w Z B) : ∀ ks : List Nat, Rel za w0 (dropM st ks) E w Z B := by
  intro ks
  induction ks generalizing st with
  | nil => exact h
  | cons k ks ih => exact ih (h.drop k)
theorem C9j {as : List AM} : ∀ {ss : List SV} {vs : List Value} {mu : List Nat}, RSs w Z B ss vs -> A1d as ss = some mu -> (∀ k ∈ mu, C0k (st.L k) = true -> ∃ b, B k = .pointer (some ⟨b, 0, none⟩)) -> C9 as vs = mu.map B := by
  induction as with
  | nil =>
    intro ss vs mu hs hm _
    cases ss with
    | nil => cases hm; rw [show vs = [] from hs]; rfl
    | cons _ _ => cases hm
  | cons a as ih =>
    intro ss vs mu hs hm hb
    cases ss with
    | nil => cases a <;> cases hm
    | cons s ss =>
      obtain ⟨v, vs', e, h1, h2⟩ := hs
      subst e
      cases a with
      | val _ _ => exact ih h2 hm hb
      | fn _ _ _ => exact ih h2 hm hb
      | row _ _ =>
        simp only [A1d, bind_some, Option.map_eq_some_iff] at hm
        obtain ⟨q, hq, mu', hm', rfl⟩ := hm
        rw [B3e hq] at h1
        obtain ⟨_, _, e1, e2, _⟩ := h1
        cases e1
        simp only [C9, Q7, cond_true, List.map_cons, ih h2 hm' (fun k hk => hb k (by simp [hk]))]
        rw [show v = B q from e2]
      | rows _ _ _ =>
        simp only [A1d, bind_some, Option.map_eq_some_iff] at hm
        obtain ⟨q, hq, mu', hm', rfl⟩ := hm
        rw [B3e hq] at h1
        obtain ⟨_, _, e1, e2, _⟩ := h1
        cases e1
        simp only [C9, Q7, cond_true, List.map_cons, ih h2 hm' (fun k hk => hb k (by simp [hk]))]
        rw [show v = B q from e2]
      | box _ _ =>
        simp only [A1d, bind_some, Option.map_eq_some_iff] at hm
        obtain ⟨q, hq, mu', hm', rfl⟩ := hm
        rw [D6w hq] at h1
        obtain ⟨_, _, e1, ⟨b, e2, e3⟩, _⟩ := h1
        cases e1
        simp only [C9, Q7, cond_true, List.map_cons, ih h2 hm' (fun k hk => hb k (by simp [hk]))]
        rw [e3, e2]
theorem A4z : ∀ {l : List Nat}, C8q l = true -> l.Nodup
  | [], _ => List.nodup_nil
  | k :: l, h => by
    simp only [C8q, Bool.and_eq_true, Bool.not_eq_true'] at h
    refine List.nodup_cons.2 ⟨fun hk => ?_, A4z h.2⟩
    have := List.any_eq_false.1 h.1 k hk
    simp at this
theorem W6 {sh : Bool} {mu0 : List Nat} : ∀ {as : List AM} {ss : List SV} {k : A7 as -> Prop} {mu : List Nat}, R8 cx sp st mu0 sh as ss k -> A1d as ss = some mu -> ∀ q ∈ mu, live (st.L q)
  | [], [], _, mu, _, hm => by cases hm; simp
  | [], _ :: _, _, _, hk, _ => hk.elim
  | a :: r, [], _, _, hk, _ => by cases a <;> exact hk.elim
  | .val a t :: r, s :: ss, k, mu, hk, hm => by
    simp only [R8] at hk
    split at hk
    . exact W6 hk hm
    . exact hk.elim
  | .row t e0 :: r, s :: ss, k, mu, hk, hm => by
    simp only [R8] at hk
    simp only [A1d, bind_some, Option.map_eq_some_iff] at hm
    obtain ⟨q, hq, mu', hm', rfl⟩ := hm
    rw [hq] at hk
    simp only at hk
    split at hk
    . rename_i l hl
      obtain ⟨_, hk⟩ := B4 hk
      intro j hj
      rcases List.mem_cons.1 hj with rfl | hj
      . rw [C0g hl]; trivial
      . exact W6 hk hm' j hj
    . exact hk.elim
  | .box T t :: r, s :: ss, k, mu, hk, hm => by
    simp only [R8] at hk
    simp only [A1d, bind_some, Option.map_eq_some_iff] at hm
    obtain ⟨q, hq, mu', hm', rfl⟩ := hm
    rw [hq] at hk
    simp only at hk
    split at hk
    . rename_i l hl
      obtain ⟨_, hk⟩ := B4 hk
      intro j hj
      rcases List.mem_cons.1 hj with rfl | hj
      . obtain ⟨cs, hc, _⟩ := B9y hl; rw [hc]; trivial
      . exact W6 hk hm' j hj
    . exact hk.elim
  | .fn as' ra' r' :: r, s :: ss, k, mu, hk, hm => by
    simp only [R8] at hk
    split at hk
    . split at hk
      . obtain ⟨_, hk⟩ := B4 hk
        obtain ⟨_, _, _, hk⟩ := hk
        exact W6 hk hm
      . exact hk.elim
    . split at hk
      . exact W6 hk.2.2 hm
      . exact hk.elim
    . exact hk.elim
  | .rows t e0 e1 :: r, s :: ss, k, mu, hk, hm => by
    simp only [R8] at hk
    simp only [A1d, bind_some, Option.map_eq_some_iff] at hm
    obtain ⟨q, hq, mu', hm', rfl⟩ := hm
    rw [hq] at hk
    simp only at hk
    split at hk
    . rename_i l hl
      obtain ⟨_, hk⟩ := B4 hk
      intro j hj
      rcases List.mem_cons.1 hj with rfl | hj
      . obtain ⟨al, ha⟩ := A7g hl; rw [ha]; trivial
      . exact W6 hk hm' j hj
    . exact hk.elim
def Mts (w : World) (B : Nat -> Value) (st : St) : List (AM × Value) -> List Nat -> Prop
  | [], [] => True
  | p :: ps, q :: qs => (p.2 = B q /\ ∀ b, D8 w p.2 (lcA p.1) b -> D8 w (B q) (st.L q) b) /\ Mts w B st ps qs
  | _, _ => False
theorem A0y {sh : Bool} {mu0 : List Nat} (h : Rel za w0 st E w Z B) : ∀ {as : List AM} {ss : List SV} {vs : List Value} {k : A7 as -> Prop} {mu : List Nat}, RSs w Z B ss vs -> R8 cx sp st mu0 sh as ss k -> A1d as ss = some mu -> Mts w B st (W0 as vs) mu
  | [], [], _, _, mu, hs, _, hm => by cases hm; rw [show _ = _ from hs]; trivial
  | [], _ :: _, _, _, _, _, hk, _ => hk.elim
  | a :: r, [], _, _, _, _, hk, _ => by cases a <;> exact hk.elim
  | .val a t :: r, s :: ss, _, k, mu, ⟨v, vs', e, h1, h2⟩, hk, hm => by
    subst e
    simp only [R8] at hk
    split at hk
    . exact A0y h (as := r) h2 hk hm
    . exact hk.elim
  | .row t e0 :: r, s :: ss, _, k, mu, ⟨v, vs', e, h1, h2⟩, hk, hm => by
    subst e
    simp only [R8] at hk
    simp only [A1d, bind_some, Option.map_eq_some_iff] at hm
    obtain ⟨q, hq, mu', hm', rfl⟩ := hm
    rw [hq] at hk
    simp only at hk
    split at hk
    . rename_i l hl
      obtain ⟨_, hk⟩ := B4 hk
      rw [B3e hq] at h1
      obtain ⟨_, _, e1, e2, _⟩ := h1
      cases e1
      have e2 : v = B q := e2
      exact ⟨⟨e2, fun b hb => by rw [C0g hl]; rw [<- e2]; exact hb⟩, A0y h h2 hk hm'⟩
    . exact hk.elim
  | .box T t :: r, s :: ss, _, k, mu, ⟨v, vs', e, h1, h2⟩, hk, hm => by
    subst e
    simp only [R8] at hk
    simp only [A1d, bind_some, Option.map_eq_some_iff] at hm
    obtain ⟨q, hq, mu', hm', rfl⟩ := hm
    rw [hq] at hk
    simp only at hk
    split at hk
    . rename_i l hl
      obtain ⟨_, hk⟩ := B4 hk
      rw [D6w hq] at h1
      obtain ⟨_, _, e1, ⟨b, e2, e3⟩, _⟩ := h1
      cases e1
      obtain ⟨cs, hc, _⟩ := B9y hl
      exact ⟨⟨e3.trans e2.symm, fun b hb => by rw [hc]; rw [e2, <- e3]; exact hb⟩, A0y h h2 hk hm'⟩
    . exact hk.elim
  | .rows t e0 e1 :: r, s :: ss, _, k, mu, ⟨v, vs', e, h1, h2⟩, hk, hm => by
    subst e
    simp only [R8] at hk
    simp only [A1d, bind_some, Option.map_eq_some_iff] at hm
    obtain ⟨q, hq, mu', hm', rfl⟩ := hm
    rw [hq] at hk
    simp only at hk
    split at hk
    . rename_i l hl
      obtain ⟨_, hk⟩ := B4 hk
      rw [B3e hq] at h1
      obtain ⟨_, _, e1, e2, _⟩ := h1
      cases e1
      have e2 : v = B q := e2
      obtain ⟨al, ha⟩ := A7g hl
      exact ⟨⟨e2, fun b hb => by rw [ha, <- e2]; exact (X9 fun _ _ => rfl).1 hb⟩, A0y h h2 hk hm'⟩
    . exact hk.elim
  | .fn as' ra' r' :: r, s :: ss, _, k, mu, ⟨v, vs', e, h1, h2⟩, hk, hm => by
    subst e
    simp only [R8] at hk
    split at hk
    . split at hk
      . obtain ⟨_, hk⟩ := B4 hk
        obtain ⟨_, _, _, hk⟩ := hk
        exact A0y h (as := r) h2 hk hm
      . exact hk.elim
    . split at hk
      . exact A0y h (as := r) h2 hk.2.2 hm
      . exact hk.elim
    . exact hk.elim
theorem Mts.mem : ∀ {ps : List (AM × Value)} {mu : List Nat} {p : AM × Value}, Mts w B st ps mu -> p ∈ ps -> ∃ q ∈ mu, ∀ b, D8 w p.2 (lcA p.1) b -> D8 w (B q) (st.L q) b
  | _ :: _, _ :: _, _, ⟨h1, h2⟩, hp => by
    rcases List.mem_cons.1 hp with rfl | hp
    . exact ⟨_, by simp, h1.2⟩
    . obtain ⟨q, hq, h⟩ := Mts.mem h2 hp
      exact ⟨q, by simp [hq], h⟩
theorem F6u (h : Rel za w0 st E w Z B) : ∀ {ps : List (AM × Value)} {mu : List Nat}, mu.Nodup -> Mts w B st ps mu -> Dis w ps
  | [], _, _, _ => trivial
  | _ :: _, q :: mu, hn, ⟨h1, h2⟩ => by
    rw [List.nodup_cons] at hn
    refine ⟨fun b hb p' hp' hb' => ?_, F6u h hn.2 h2⟩
    obtain ⟨q', hq', hh⟩ := h2.mem hp'
    exact h.disj q q' b (fun e => hn.1 (e ▸ hq')) (h1.2 b hb) (hh b hb')
theorem C1g.transM {m m' : Nat -> Prop} {a b c : World} (h : C1g m a b) (k : C1g m' b c) (hm : ∀ q, m' q -> a.heap.size <= q \/ m q) : C1g m a c :=
  ⟨k.os.trans h.os, k.tape.trans h.tape, k.output.trans h.output, Nat.le_trans h.size k.size, fun i hi hn => (k.block i (Nat.lt_of_lt_of_le hi h.size) (fun hh => by rcases hm i hh with g | g; exact absurd hi (by omega); exact hn g)).trans (h.block i hi hn), trivial⟩
theorem F8b {st0 : St} {Zn Z' : Nat -> Prop} {B' : Nat -> Value} (h0 : Rel za w0 st0 E w Z B) (hB : ∀ k, k < st0.nx -> B' k = B k) (hzn : ∀ b, Zn b -> Z' b) (hnz : ∀ k b, D8 w (B k) (st0.L k) b -> ¬ Z' b) (hsz : w.heap.size <= w'.heap.size) :
    ∀ {as : List AM} {vs : List Value} {o : D2s as} {mu : List Nat} {stx : St}, Rel za w0 stx E w' Z' B' -> st0.nx <= stx.nx -> mu.Nodup -> (∀ q ∈ mu, live (st0.L q)) -> C9 as vs = mu.map B -> Mts w B st0 (W0 as vs) mu -> D8q w w' Zn as vs o -> (∀ j b, D8 w' (B' j) (stx.L j) b -> w.heap.size <= b \/ (j < st0.nx /\ D8 w (B j) (st0.L j) b /\ j ∉ mu)) ->
      Rel za w0 (addM as o mu stx) E w' Z' B' /\ (addM as o mu stx).nx = stx.nx := by
  intro as
  induction as with
  | nil => intro vs o mu stx h1 hnx hn hl hv hmt ho hq; cases mu <;> exact ⟨h1, rfl⟩
  | cons a as ih =>
    intro vs o mu stx h1 hnx hn hl hv hmt ho hq
    cases vs with
    | nil => cases a <;> exact ho.elim
    | cons v vs =>
      have step : ∀ (k : Nat) (mu' : List Nat) (lc : LC) (o' : D2s as), (k :: mu').Nodup -> (∀ q ∈ k :: mu', live (st0.L q)) -> C9 as vs = mu'.map B -> Mts w B st0 (W0 as vs) mu' -> D8q w w' Zn as vs o' -> (∀ b, D8 w' (B' k) lc b -> D8 w (B k) (st0.L k) b) -> RL (up za w0 k) w' Z' B' k lc -> E2v stx.nx lc -> (∀ j b, D8 w' (B' j) (stx.L j) b -> w.heap.size <= b \/ (j < st0.nx /\ D8 w (B j) (st0.L j) b /\ j ∉ k :: mu')) ->
          Rel za w0 (addM as o' mu' (stx.setL k lc)) E w' Z' B' /\ (addM as o' mu' (stx.setL k lc)).nx = stx.nx := fun k mu' lc o' hn hl hv hmt ho hll hrl hrf hq => by
        have hk0 := hl k (by simp)
        have hkn : k < st0.nx := A8m h0 hk0
        rw [List.nodup_cons] at hn
        have h2 := h1.addL (k := k) (lc := lc) (Nat.lt_of_lt_of_le hkn hnx) hrl (fun j b hjk hb hj => by
          have hb := hll b hb
          rcases hq j b hj with g | ⟨g1, g2, g3⟩
          . have := ((h0.locs k).root hb).2.1; omega
          . exact h0.disj j k b hjk g2 hb) hrf (fun b hkk hb => h0.mrk.2 k b hkk (hll b hb))
        refine ih h2 hnx hn.2 (fun q hq => hl q (by simp [hq])) hv hmt ho (fun j b hj => ?_)
        rw [St.L_setL] at hj
        by_cases hjk : j = k
        . subst hjk
          rw [if_pos rfl] at hj
          exact .inr ⟨hkn, hll b hj, hn.1⟩
        . rw [if_neg hjk] at hj
          exact (hq j b hj).imp id fun ⟨g1, g2, g3⟩ => ⟨g1, g2, fun hh => g3 (by simp [hh])⟩
      cases a with
      | val _ _ => exact ih h1 hnx hn hl hv hmt ho hq
      | fn _ _ _ => exact ih h1 hnx hn hl hv hmt ho hq
      | row t e =>
        cases mu with
        | nil => simp [C9, Q7] at hv
        | cons k mu' =>
          simp only [C9, Q7, cond_true, List.map_cons, List.cons.injEq] at hv
          obtain ⟨⟨xs, g1, g2⟩, ho⟩ := ho
          have hk0 := hl k (by simp)
          have hkn : k < st0.nx := A8m h0 hk0
          have hbk : B' k = v := by rw [hB k hkn, hv.1]
          refine step k mu' (.row t e o.1) o.2 hn hl hv.2 hmt.2 ho (fun b hh => D8.of hk0 (by rw [<- hB k hkn]; exact hh)) ⟨xs, by rw [hbk]; exact g1, g2.mono fun _ _ => Rep.mono hzn (fun _ _ => rfl), fun b hb => ?_⟩ trivial hq
          rw [hbk] at hb
          have hr : root (B k) = some b := by rw [<- hv.1, H0 g1]; exact hb
          exact ⟨((h0.locs k).root (D8.of hk0 hr)).1, hnz k b (D8.of hk0 hr)⟩
      | box T t =>
        cases mu with
        | nil => simp [C9, Q7] at hv
        | cons k mu' =>
          simp only [C9, Q7, cond_true, List.map_cons, List.cons.injEq] at hv
          obtain ⟨⟨b, us, g1, g2, g3⟩, ho⟩ := ho
          have hk0 := hl k (by simp)
          have hkn : k < st0.nx := A8m h0 hk0
          have hbk : B' k = .pointer (some ⟨b, 0, none⟩) := by rw [hB k hkn, <- hv.1, g1]
          have hr : root (B k) = some b := by rw [<- hv.1, g1]; rfl
          exact step k mu' (.box T (explode t o.1)) o.2 hn hl hv.2 hmt.2 ho (fun b hh => D8.of hk0 (by rw [<- hB k hkn]; exact hh)) ⟨b, us, hbk, ((h0.locs k).root (D8.of hk0 hr)).1, hnz k b (D8.of hk0 hr), g2, Q8 (g3.mono hzn (fun _ _ => rfl))⟩ D3 hq
      | rows t e e' =>
        cases mu with
        | nil => simp [C9, Q7] at hv
        | cons k mu' =>
          simp only [C9, Q7, cond_true, List.map_cons, List.cons.injEq] at hv
          obtain ⟨⟨g1, g2⟩, ho⟩ := ho
          have hk0 := hl k (by simp)
          have hkn : k < st0.nx := A8m h0 hk0
          have hbk : B' k = v := by rw [hB k hkn, hv.1]
          have hff : ∀ b, D8 w' (B' k) (.rows t e e' o.1 [] none) b -> D8 w (B k) (st0.L k) b := fun b hb => by
            rw [hbk] at hb
            exact hmt.1.2 b (g2 b ((X9 fun _ _ => rfl).1 hb))
          refine step k mu' (.rows t e e' o.1 [] none) o.2 hn hl hv.2 hmt.2 ho hff (C3e.rl (by rw [hbk]; exact g1.mono hzn) fun b hb => ?_) (fun p hp => by cases hp) hq
          have hb' := hff b hb
          exact ⟨((h0.locs k).root hb').1, hnz k b hb', Nat.lt_of_lt_of_le ((h0.locs k).root hb').2.1 hsz⟩
def F9e (P : Program) (g : FuncId) (s : B9) (vs : List Value) (w : World) (Z : Nat -> Prop) (x : A7 s.args) : Prop :=
  Gw.Ret P g vs w fun v w' => C1g (F6j w s.args vs) w w' /\ ∃ (r : A5f s.res) (o : D2s s.args) (us : List Value) (Zn : Nat -> Prop), s.post x r /\ (T2 s.args = true -> s.mpost x r o) /\ v = D0j us /\ (∀ b, Zn b -> (w.heap.size <= b /\ b < w'.heap.size) \/ (s.shared = true /\ Z b)) /\ C1k w.heap.size w' Zn s.res us r /\ D8q w w' Zn s.args vs o
theorem C7r (h : Rel za w0 st E w Z B) {s : B9} {x : A7 s.args} {vs : List Value} {g : FuncId} {mu : List Nat} (hret : F9e cx.P g s vs w (lz w st mu B Z s.shared) x) (hmv : C9 s.args vs = mu.map B) (hmt : Mts w B st (W0 s.args vs) mu) (hnd : mu.Nodup) (hlv : ∀ q ∈ mu, live (st.L q)) :
    Gw.Ret cx.P g vs w fun v w' => C1g (F6j w s.args vs) w w' /\ ∃ r o us, rwf s.res r /\ owf s.args o /\ s.post x r /\ (T2 s.args = true -> s.mpost x r o) /\ v = D0j us /\ ∃ Z' B', Rel za w0 (addM s.args o mu (H3 s.res r (dropM st mu)).2) E w' Z' B' /\ RSs w' Z' B' (H3 s.res r (dropM st mu)).1 us /\ (∀ q ∈ (H3 s.res r (dropM st mu)).1, C8z (addM s.args o mu (H3 s.res r (dropM st mu)).2).nx q) := by
  refine Gw.Ret.mono hret fun v w' ⟨hx, r, o, us, Zn, hpost, hmpost, hv, hzn, hrep, hro⟩ => ?_
  have hms : ∀ b, F6j w s.args vs b -> ∃ q ∈ mu, D8 w (B q) (st.L q) b := fun b ⟨u, hu, hb⟩ => by
    obtain ⟨q, hq, hh⟩ := hmt.mem hu
    exact ⟨q, hq, hh b hb⟩
  have hzn' : ∀ b, Zn b -> Z b \/ (w.heap.size <= b /\ b < w'.heap.size) := fun b hb => by
    rcases hzn b hb with hb | ⟨hs, hb⟩
    . exact .inr hb
    . rcases hb with hb | ⟨hf, _⟩
      . exact .inl hb
      . rw [hs] at hf; cases hf
  have h1 : Rel za w0 (dropM st mu) E w' (fun b => Z b \/ Zn b) B := by
    refine (h.dropM mu).keep (h.ext.transM hx fun b hb => ?_) hx.size (fun b hb => hx.block b ?_ ?_) (fun _ => .inl) (fun b hb => ?_)
    . obtain ⟨q, hq, hqb⟩ := hms b hb
      exact ((h.locs q).root hqb).1.m
    . rcases hb with hb | ⟨k, hl⟩
      . exact h.zlt b hb
      . rw [C3t] at hl
        split at hl
        . exact hl.elim
        . exact ((h.locs k).root hl).2.1
    . intro hmb
      obtain ⟨q, hq, hqb⟩ := hms b hmb
      rcases hb with hb | ⟨k, hl⟩
      . exact ((h.locs q).root hqb).2.2 hb
      . rw [C3t] at hl
        split at hl
        . exact hl.elim
        . rename_i hkm
          exact h.disj k q b (fun e => hkm (e ▸ hq)) hl hqb
    . rcases hb with hb | hb
      . exact .inl hb
      . rcases hzn' b hb with hb | hb
        . exact .inl hb
        . refine .inr ⟨hb.2, Nat.le_trans h.ext.size hb.1, fun k hl => ?_⟩
          rw [C3t] at hl
          split at hl
          . exact hl.elim
          . have := ((h.locs k).root hl).2.1; omega
  have hftw : ∀ j b, D8 w' (B j) ((Vc.dropM st mu).L j) b -> D8 w (B j) ((Vc.dropM st mu).L j) b := fun j b hf => (D8.iff fun c hc => hx.block c ((((h.dropM mu).locs j).root hc).2.1) fun hmb => by
    obtain ⟨q, hq, hqb⟩ := hms c hmb
    rw [C3t] at hc
    split at hc
    . exact hc.elim
    . rename_i hkm
      exact h.disj j q c (fun e => hkm (e ▸ hq)) hc hqb).1 hf
  obtain ⟨B', g1, g2, g3, g4, g5, g6, g7⟩ := Rel.place h1 h.ext.size h.mrk.1 (fun _ => .inr) (fun b hb hz => by
    rcases hz with hz | hz
    . have := h.zlt b hz; omega
    . exact hz) (fun b hb q hq => by
      have hq := hftw q b hq
      rw [C3t] at hq
      split at hq
      . exact hq.elim
      . have := ((h.locs q).root hq).2.1; omega) hrep
  rw [D8m] at g4 g5
  have hold : ∀ j b, D8 w' (B' j) ((H3 s.res r (dropM st mu)).2.L j) b -> w.heap.size <= b \/ (j < st.nx /\ D8 w (B j) (st.L j) b /\ j ∉ mu) := fun j b hj => by
    by_cases hlt : j < st.nx
    . have := g6 j (by rw [D8m]; exact hlt)
      rw [this, g4 j hlt] at hj
      have hj := hftw j b hj
      rw [C3t] at hj
      split at hj
      . exact hj.elim
      . rename_i hjm; exact .inr ⟨hlt, hj, hjm⟩
    . exact .inl (g7 j b (by rw [D8m]; omega) hj)
  obtain ⟨q1, q2⟩ := F8b (Z' := fun b => Z b \/ Zn b) h g4 (fun _ => .inr) (fun k b hb hz => by
    rcases hz with hz | hz
    . exact ((h.locs k).root hb).2.2 hz
    . have hk := (h.locs k).root hb
      rcases hzn' b hz with hz | hz
      . exact hk.2.2 hz
      . omega) hx.size g1 g5 hnd hlv hmv hmt hro hold
  exact ⟨hx, r, o, us, hrep.rwf, hro.owf, hpost, hmpost, hv, _, B', q1, g2, fun q hq => by rw [q2]; exact g3 q hq⟩
theorem B8w (h : Rel za w0 st E w Z B) {s : B9} {x : A7 s.args} {vs : List Value} {g : FuncId} {mu : List Nat} (hm : C0 cx.P g s) (hre : A1l cx.P w (lz w st mu B Z s.shared) s.args vs x) (hmv : C9 s.args vs = mu.map B) (hmt : Mts w B st (W0 s.args vs) mu) (hnd : mu.Nodup) (hlv : ∀ q ∈ mu, live (st.L q)) (hpre : s.pre x) :
    Gw.Ret cx.P g vs w fun v w' => C1g (F6j w s.args vs) w w' /\ ∃ r o us, rwf s.res r /\ owf s.args o /\ s.post x r /\ (T2 s.args = true -> s.mpost x r o) /\ v = D0j us /\ ∃ Z' B', Rel za w0 (addM s.args o mu (H3 s.res r (dropM st mu)).2) E w' Z' B' /\ RSs w' Z' B' (H3 s.res r (dropM st mu)).1 us /\ (∀ q ∈ (H3 s.res r (dropM st mu)).1, C8z (addM s.args o mu (H3 s.res r (dropM st mu)).2).nx q) :=
  C7r h (hm w _ vs x (F7k h) hre (F6u h hnd hmt) hpre) hmv hmt hnd hlv
variable {d : Tmp} {ty : TypeId} {pos : String} {aft : Array Edge} {gd : Option (Nat × Bool)}
theorem D6f (h : Rel za w0 st E w Z B) {sh : Bool} : ∀ {as : List (Bool × Ty)} {ss : List SV} {vs : List Value} {y : A1h as}, RSs w Z B ss vs -> F2n st sh as ss = some y -> F2k w (lz w st [] B Z sh) as vs y
  | [], [], vs, _, hs, _ => hs
  | [], _ :: _, _, _, _, hp => by cases hp
  | (a, t) :: r, [], _, _, _, hp => by cases hp
  | (a, t) :: r, s :: ss, _, x, ⟨v, vs', e, h1, h2⟩, hp => by
    simp only [F2n, bind_some, Option.map_eq_some_iff] at hp
    obtain ⟨y, hy, z, hz, rfl⟩ := hp
    exact ⟨v, vs', e, D5v h h1 hy, D6f h h2 hz⟩
theorem D9k (h : Rel za w0 st E w Z B) (hsp : D8o cx.P sp) {g : FuncId} {s : B9} {ss : List SV} {f : Operand} {args : List Operand} {ts : Array TypeId} {cap : List Value} (hf : Gw.ev E f = .func (.func g) #[] cap.toArray) (hrs : RSs w Z B ss (args.map (Gw.ev E) ++ cap)) (hfs : A8n g sp = some s) (hen : A5s cx.P g = true) (hs : D1e cx sp st d s ss k) (hg : G4 all ⟨some d, .call ⟨.value f, args.toArray, ts⟩, ty, pos, aft, gd⟩ E = true) :
    U9 cx.P all ⟨some d, .call ⟨.value f, args.toArray, ts⟩, ty, pos, aft, gd⟩ (NxE za w0 w (T2 s.args) k) E w := by
  unfold D1e at hs
  split at hs
  . rename_i mu hmu
    obtain ⟨hnd, hs⟩ := B4 hs
    have hnd := A4z hnd
    have hboxes : ∀ k ∈ mu, C0k (st.L k) = true -> ∃ b, B k = .pointer (some ⟨b, 0, none⟩) := fun k _ hk => by
      have hL := h.locs k
      cases hl : st.L k <;> rw [hl] at hk hL <;> try (cases hk)
      . obtain ⟨b, _, e, _⟩ := hL
        exact ⟨b, e⟩
      . obtain ⟨rfl, _, b, e⟩ := hL
        exact ⟨b, e⟩
    have hmv := C9j hrs hmu hboxes
    cases hmt : T2 s.args with
    | true =>
      simp only [hmt, cond_true] at hs
      have hlv := W6 hs hmu
      have hmts := A0y h hrs hs hmu
      obtain ⟨x, hre, hpre, hs⟩ := A2g h hsp hrs hs
      refine C5k (A2w hf hen rfl) (B8w h (hsp g s hfs).1 hre hmv hmts hnd hlv hpre) hg ?_
      rintro v w' ⟨hx, r, o, us, hwf, how, hpost, hmp, rfl, Z', B', g1, g2, g3⟩
      exact ⟨fun hh => (by cases hh), _, _, _, g1.setS d (D6o g2 _) (D8b g3), hs r o hwf how hpost (hmp hmt)⟩
    | false =>
      simp only [hmt, cond_false] at hs
      have hlv := W6 hs hmu
      have hmts := A0y h hrs hs hmu
      obtain ⟨x, hre, hpre, hs'⟩ := A2g h hsp hrs hs
      have hmn : mu = [] := by
        have := D8y hmt (args.map (Gw.ev E) ++ cap)
        rw [hmv] at this
        simpa using this
      subst hmn
      refine C5k (A2w hf hen rfl) (B8w h (hsp g s hfs).1 hre hmv hmts hnd hlv hpre) hg ?_
      rintro v w' ⟨hx, r, o, us, hwf, how, hpost, hmp, rfl, Z', B', g1, g2, g3⟩
      have had : ∀ (as : List AM) (o : D2s as) (st' : St), T2 as = false -> addM as o [] st' = st' := by
        intro as
        induction as with
        | nil => intros; rfl
        | cons a as ih =>
          intro o st' ha
          simp only [T2, List.any_cons, Bool.or_eq_false_iff] at ha
          cases a with
          | val _ _ => exact ih o st' ha.2
          | fn _ _ _ => exact ih o st' ha.2
          | row _ _ => cases ha.1
          | box _ _ => cases ha.1
          | rows _ _ _ => cases ha.1
      rw [had _ _ _ hmt] at g1 g3
      refine ⟨fun _ => hx.ext (fun b ⟨u, hu, _⟩ => by rw [D5d hmt] at hu; cases hu), _, _, _, g1.setS d (D6o g2 _) (D8b g3), hs' r hwf hpost⟩
  . exact hs.elim
theorem E7y (h : Rel za w0 st E w Z B) (hsp : D8o cx.P sp) {f : Operand} {args : List Operand} {ts : Array TypeId} (hmk : za.b0 = 0 \/ G2w sp st (.call ⟨.value f, args.toArray, ts⟩) = false) (hs : C3y cx sp st d f args k) (hg : G4 all ⟨some d, .call ⟨.value f, args.toArray, ts⟩, ty, pos, aft, none⟩ E = true) :
    U9 cx.P all ⟨some d, .call ⟨.value f, args.toArray, ts⟩, ty, pos, aft, none⟩ (NxE za w0 w (wrO sp st ⟨some d, .call ⟨.value f, args.toArray, ts⟩, ty, pos, aft, none⟩) k) E w := by
  unfold C3y at hs
  split at hs
  . rename_i P' as ra r ok φ hfc
    split at hs
    . rename_i ss hss
      split at hs
      . rename_i y hy
        obtain ⟨rfl, hok, hs⟩ := hs
        obtain ⟨g, caps, hf, hen, hcall⟩ := (h.c1 (K4 E) hfc).1
        have hrs := (E0t h (K4 E) hss).1
        have hre := D6f h hrs hy
        refine C5k (A2w hf hen rfl) (hcall w _ _ y (fun _ _ => rfl) h.zlt (F7k h) hre hok) hg ?_
        rintro v w' ⟨hx, Zn, hZn, hrep⟩
        cases hfl : B9h r with
        | true =>
          have h1 := h.more (Z' := Z) hx (fun _ => id) (fun _ => .inl)
          exact ⟨fun _ => hx, _, _, _, h1.setS d (x := .one ⟨ra, explode r (φ y)⟩) (A7z.explode (a := ra) (A5z.mono (fun _ _ => Rep.flat hfl) hrep)) D3, hs (A5z.wf' (fun _ _ => Rep.wf) hrep)⟩
        | false =>
          have hZn' : ∀ b, Zn b -> (w.heap.size <= b /\ b < w'.heap.size) \/ Z b := fun b hb => by
            rcases hZn b hb with h1 | h1 | h1
            . exact .inl h1
            . exact .inr h1
            . rcases h1 with h1 | ⟨h1, _⟩
              . exact .inr h1
              . rw [hfl] at h1; cases h1
          have h1 := h.more (Z' := fun b => Z b \/ Zn b) hx (fun _ => .inl) (fun b hb => hb.elim .inl (fun hb => (hZn' b hb).symm))
          exact ⟨fun _ => hx, _, _, _, h1.setS d (x := .one ⟨ra, explode r (φ y)⟩) (A7z.explode (a := ra) (A5z.mono (fun _ _ => Rep.mono (fun _ => .inr) (fun _ _ => rfl)) hrep)) D3, hs (A5z.wf' (fun _ _ => Rep.wf) hrep)⟩
      . exact hs.elim
    . exact hs.elim
  . rename_i hnf
    split at hs
    . rename_i g ss hcal
      split at hs
      . rename_i s hfs
        obtain ⟨hen, hs⟩ := B4 hs
        have hwr : wrO sp st ⟨some d, .call ⟨.value f, args.toArray, ts⟩, ty, pos, aft, none⟩ = false -> T2 s.args = false := fun hh => by
          simp only [wrO, Bool.or_eq_false_iff] at hh
          have h2 := hh.2
          simp only [D5o] at h2
          simp only [C4u, Option.bind_eq_bind, bind_some] at hcal
          obtain ⟨c, hc, ss', hss', hcal⟩ := hcal
          rw [show (st.ev [] f).bind c1 = some c from bind_some.2 hc] at h2
          split at hcal
          . rename_i g' ks
            obtain ⟨_, hcal⟩ := E6 hcal
            cases hcal
            simp only [hfs, Bool.or_eq_false_iff] at h2
            exact h2.2
          . cases hcal
        have hno : ∀ run, s.inl = some run -> za.b0 = 0 := fun run hrun => by
          rcases hmk with hmk | hmk
          . exact hmk
          . simp only [C4u, Option.bind_eq_bind, bind_some] at hcal
            obtain ⟨c, hc, ss', hss', hcal⟩ := hcal
            simp only [G2w] at hmk
            rw [show (st.ev [] f).bind c1 = some c from bind_some.2 hc] at hmk
            split at hcal
            . rename_i g' ks
              obtain ⟨_, hcal⟩ := E6 hcal
              cases hcal
              simp only [hfs, hrun] at hmk
              cases hmk
            . cases hcal
        have hwi : ∀ run, s.inl = some run -> wrO sp st ⟨some d, .call ⟨.value f, args.toArray, ts⟩, ty, pos, aft, none⟩ = true := fun run hrun => by
          simp only [wrO, D5o]
          simp only [C4u, Option.bind_eq_bind, bind_some] at hcal
          obtain ⟨c, hc, ss', hss', hcal⟩ := hcal
          rw [show (st.ev [] f).bind c1 = some c from bind_some.2 hc]
          split at hcal
          . rename_i g' ks
            obtain ⟨_, hcal⟩ := E6 hcal
            cases hcal
            simp only [hfs, hrun, Option.isSome_some, Bool.true_or, Bool.or_true]
          . cases hcal
        split at hs
        . rename_i run hrun
          obtain ⟨cap, hf, hrs, href⟩ := A7o h (K4 E) hcal
          refine C5k (A2w hf hen rfl) (((hsp g s hfs).2 run hrun).go (hno run hrun) h hrs href hs) hg ?_
          rintro v w' ⟨st', Z', B', ss', us, g1, g2, g3, g4, g5⟩
          subst g2
          exact ⟨fun hh => (by rw [hwi run hrun] at hh; cases hh), _, _, _, g1.setS d (D6o g3 _) (D8b g4), g5⟩
        have conv : ∀ {E' : Env} {w' : World}, NxE za w0 w (T2 s.args) k E' w' -> NxE za w0 w (wrO sp st ⟨some d, .call ⟨.value f, args.toArray, ts⟩, ty, pos, aft, none⟩) k E' w' := fun ⟨a, b⟩ => ⟨fun hh => a (hwr hh), b⟩
        cases hsh : s.shared with
        | true =>
          simp only [hsh, cond_true] at hs
          obtain ⟨Z0, h0⟩ := h.stillF cx s.args ss
          obtain ⟨Z1, h1⟩ := h0.settleA (as := s.args) (ss := ss)
          split at hs
          . rename_i g' ss' hcal'
            obtain ⟨hgg, hs'⟩ := B4 hs
            have := Nat.eq_of_beq_eq_true hgg
            subst this
            obtain ⟨cap, hf, hrs, _⟩ := A7o h1 (K4 E) hcal'
            exact O3 (fun _ _ => conv) (D9k h1 hsp hf hrs hfs hen hs' hg)
          . exact hs.elim
        | false =>
          simp only [hsh, cond_false] at hs
          obtain ⟨cap, hf, hrs, _⟩ := A7o h (K4 E) hcal
          exact O3 (fun _ _ => conv) (D9k h hsp hf hrs hfs hen hs hg)
      . exact hs.elim
    . exact hs.elim
theorem Z7 {sh : Bool} {mu : List Nat} : ∀ {as : List AM} {ss : List SV} {k : A7 as -> Prop}, R8 cx sp st mu sh as ss k -> ∃ x, k x
  | [], [], _, h => ⟨_, h⟩
  | [], _ :: _, _, h => h.elim
  | a :: r, [], _, h => by cases a <;> exact h.elim
  | .val a t :: r, s :: ss, _, h => by
    simp only [R8] at h
    split at h
    . obtain ⟨y, hy⟩ := Z7 h; exact ⟨_, hy⟩
    . exact h.elim
  | .row t e0 :: r, s :: ss, _, h => by
    simp only [R8] at h
    split at h
    . split at h
      . obtain ⟨_, h⟩ := B4 h
        obtain ⟨y, hy⟩ := Z7 h; exact ⟨_, hy⟩
      . exact h.elim
    . exact h.elim
  | .box t e0 :: r, s :: ss, _, h => by
    simp only [R8] at h
    split at h
    . split at h
      . obtain ⟨_, h⟩ := B4 h
        obtain ⟨y, hy⟩ := Z7 h; exact ⟨_, hy⟩
      . exact h.elim
    . exact h.elim
  | .rows t e0 e1 :: r, s :: ss, _, h => by
    simp only [R8] at h
    split at h
    . split at h
      . obtain ⟨_, h⟩ := B4 h
        obtain ⟨y, hy⟩ := Z7 h; exact ⟨_, hy⟩
      . exact h.elim
    . exact h.elim
  | .fn as' ra' r' :: r, s :: ss, _, h => by
    simp only [R8] at h
    split at h
    . split at h
      . obtain ⟨_, h⟩ := B4 h
        obtain ⟨ok, φ, hp, h⟩ := h
        obtain ⟨y, hy⟩ := Z7 h; exact ⟨_, hy⟩
      . exact h.elim
    . split at h
      . obtain ⟨y, hy⟩ := Z7 h.2.2; exact ⟨_, hy⟩
      . exact h.elim
    . exact h.elim
theorem B7h : ∀ {rs : List RT} {r : A5f rs} {st : St}, B6b rs = true -> (H3 rs r st).2 = st
  | [], _, _, _ => rfl
  | .val a t :: rs, r, st, h => by
    simp only [B6b, C8t, Bool.and_eq_true] at h
    exact B7h (rs := rs) h.2
  | .own _ _ :: _, _, _, h => by simp [B6b, C8t] at h
  | .obox _ _ :: _, _, _, h => by simp [B6b, C8t] at h
theorem F0a (h : Rel za w0 st E w Z B) (hty : R2 cx.P cx.tys = true) {t : Tmp} {b : Bool} {j : Nat} {T : TypeId} {len : Nat} {parts : List (Nat × Operand)} {st' : St} (hj : (all[j]?).bind (·.dst) = some t) (hfull : B2o st 20 t = true) (htd : t ≠ d) (hs : E6l cx st (gctx st 20 t b) t b d T len parts = some st') (hk : k st') :
    U9 cx.P all ⟨some d, .buildSlice T len parts.toArray, ty, pos, aft, some (j, b)⟩ (NxE za w0 w false k) E w := by
  simp only [E6l, Option.bind_eq_bind, bind_some] at hs
  obtain ⟨ti, hti, t', ht, ps, hps, xs, hxs, hs⟩ := hs
  have ht := B2y ht
  obtain ⟨hd, hs⟩ := E6 hs
  cases hs
  simp only [Bool.and_eq_true] at hd
  by_cases hw : E t = .bool b
  . have hctx := h.gctx (n := 20) hw
    obtain ⟨i, z, hu, hi, hz, hsz, hzc, hzs, hb, hsl⟩ := B5m (B7 hty hti) ht
    obtain ⟨h2, h3⟩ := A7n h hctx hps
    obtain ⟨g1, g2, g3, g4⟩ := B1p h2 hxs
    have hlen := Nat.eq_of_beq_eq_true hd.1.1
    have hzT : A8y cx.P ti.elem = some z := by simp [A8y, hi, hz]
    obtain ⟨cs, hcs, hy⟩ := C0a (w := w) (ty := ty) (len := len) _ hsl hzT (Nat.le_of_ble_eq_true hd.1.2) (Nat.le_of_ble_eq_true hd.2) hzs g1 g2 (by rw [List.length_map, <- g3, hlen])
    have hx : Ext w (w.alloc (.cells cs ti.elem)) := Ext.alloc w _
    have h4 := h.more (Z' := fun c => Z c \/ c = w.heap.size) hx (fun _ => .inl) (fun c hc => hc.imp id (fun hc => by subst hc; exact ⟨Nat.le_refl _, by simp⟩))
    have hsame : W7 Z w (w.alloc (.cells cs ti.elem)) := fun b hb => hx.block b (h.zlt b hb)
    have hll : cs.toList.length = len * t'.size := by rw [hcs, Q3.length (fun _ _ h => Rep.length h) g4, hlen]
    have hown : (w.alloc (.cells cs ti.elem)).ownsRow w0.heap.size ti.elem t'.size (.slice (some ⟨w.heap.size, 0, none⟩) len len) xs.length cs.toList := by
      rw [hlen]
      refine ⟨hll, .inr ⟨w.heap.size, len, cs, rfl, h.ext.size, B2m w _ _, Nat.le_refl _, ?_, by simpa using hll, by rw [<- hll, List.take_length]⟩⟩
      have h5 := Nat.le_of_ble_eq_true hd.1.2
      have h6 := Nat.le_of_ble_eq_true hd.2
      have : len * 1 <= len * t'.size := Nat.mul_le_mul_left _ h6
      simp only [maxLen]; omega
    have hrep : Rep (.sl t') (w.alloc (.cells cs ti.elem)) (fun c => Z c \/ c = w.heap.size) [.slice (some ⟨w.heap.size, 0, none⟩) len len] xs :=
      A0x hown (by rw [hcs]; exact g4.mono fun _ _ => Rep.mono (fun _ => .inl) hsame) (fun c hc => by simp only [Value.ownBlock, Option.some.injEq] at hc; exact .inr hc.symm)
    refine A0j hy (E3o hj hw) ⟨fun _ => hx, _, _, _, h4.setS d (x := .cnd t b ⟨false, [.val (.sl t') xs]⟩) (.inl ⟨?_, ⟨_, [], rfl, hrep, rfl⟩⟩) (fun c hc => by simp at hc; subst hc; trivial), hk⟩
    rw [D4 _ _ _ _ htd]; exact hw
  . have hoff : G4 all ⟨some d, .buildSlice T len parts.toArray, ty, pos, aft, some (j, b)⟩ E = false := by
      unfold G4 A0s
      simp only [hj]
      cases hEt : E t with
      | bool b' => simp only [beq_eq_false_iff_ne, ne_eq, Option.some.injEq]; intro hh; exact hw (by rw [hEt, hh])
      | _ => rfl
    refine B3b hoff ⟨fun _ => Ext.refl w, _, _, _, h.setS d (x := .cnd t b ⟨false, [.val (.sl t') xs]⟩) (.inr ⟨?_, rfl⟩) (fun c hc => by simp at hc; subst hc; trivial), hk⟩
    rw [D4 _ _ _ _ htd]; exact hw
theorem E3x (h : Rel za w0 st E w Z B) (hsp : D8o cx.P sp) {t : Tmp} {b : Bool} {j : Nat} {f : Operand} {args : List Operand} {ts : Array TypeId} (hj : (all[j]?).bind (·.dst) = some t) (hfull : B2o st 20 t = true) (htd : t ≠ d) (hs : B3c cx sp st (gctx st 20 t b) t b d f args k) :
    U9 cx.P all ⟨some d, .call ⟨.value f, args.toArray, ts⟩, ty, pos, aft, some (j, b)⟩ (NxE za w0 w (wrO sp st ⟨some d, .call ⟨.value f, args.toArray, ts⟩, ty, pos, aft, some (j, b)⟩) k) E w := by
  unfold B3c at hs
  split at hs
  . rename_i P' as ra r ok φ hfc
    split at hs
    . rename_i ss hss
      split at hs
      . rename_i y hy
        obtain ⟨rfl, hok, hs⟩ := hs
        by_cases hw : E t = .bool b
        . have hctx := h.gctx (n := 20) hw
          have hcp := h.ctxP hctx
          obtain ⟨g, caps, hf, hen, hcall⟩ := (h.c1 hctx hfc).1
          have hrs := (E0t h hctx hss).1
          have hre := D6f h hrs hy
          refine C5k (A2w hf hen rfl) (hcall w _ _ y (fun _ _ => rfl) h.zlt (F7k h) hre (hok hcp)) (E3o hj hw) ?_
          rintro v w' ⟨hx, Zn, hZn, hrep⟩
          have hwf := hs (fun _ => A5z.wf' (fun _ _ => Rep.wf) hrep)
          cases hfl : B9h r with
          | true =>
            have h1 := h.more (Z' := Z) hx (fun _ => id) (fun _ => .inl)
            refine ⟨fun _ => hx, _, _, _, h1.setS d (x := .cnd t b ⟨ra, explode r (φ y)⟩) (.inl ⟨?_, A7z.explode (a := ra) (A5z.mono (fun _ _ => Rep.flat hfl) hrep)⟩) D3, hwf⟩
            rw [D4 _ _ _ _ htd]; exact hw
          | false =>
            have hZn' : ∀ b, Zn b -> (w.heap.size <= b /\ b < w'.heap.size) \/ Z b := fun b hb => by
              rcases hZn b hb with h1 | h1 | h1
              . exact .inl h1
              . exact .inr h1
              . rcases h1 with h1 | ⟨h1, _⟩
                . exact .inr h1
                . rw [hfl] at h1; cases h1
            have h1 := h.more (Z' := fun b => Z b \/ Zn b) hx (fun _ => .inl) (fun b hb => hb.elim .inl (fun hb => (hZn' b hb).symm))
            refine ⟨fun _ => hx, _, _, _, h1.setS d (x := .cnd t b ⟨ra, explode r (φ y)⟩) (.inl ⟨?_, A7z.explode (a := ra) (A5z.mono (fun _ _ => Rep.mono (fun _ => .inr) (fun _ _ => rfl)) hrep)⟩) D3, hwf⟩
            rw [D4 _ _ _ _ htd]; exact hw
        . have hcn := D5p h hfull hw
          have hk := hs (fun hh => absurd hh hcn)
          have hoff : G4 all ⟨some d, .call ⟨.value f, args.toArray, ts⟩, ty, pos, aft, some (j, b)⟩ E = false := by
            unfold G4 A0s
            simp only [hj]
            cases hEt : E t with
            | bool b' => simp only [beq_eq_false_iff_ne, ne_eq, Option.some.injEq]; intro hh; exact hw (by rw [hEt, hh])
            | _ => rfl
          refine B3b hoff ⟨fun _ => Ext.refl w, _, _, _, h.setS d (x := .cnd t b ⟨ra, explode r (φ y)⟩) (.inr ⟨?_, rfl⟩) D3, hk⟩
          rw [D4 _ _ _ _ htd]; exact hw
      . exact hs.elim
    . exact hs.elim
  split at hs
  . rename_i g ss hcal
    split at hs
    . rename_i s hfs
      split at hs
      . rename_i run hrun
        split at hs
        . rename_i sv hsv
          obtain ⟨hen, hs⟩ := B4 hs
          simp only [Bool.and_eq_true] at hen
          have hrf : C8z st.nx sv := fun c hc => E3y (List.all_eq_true.1 hen.2 c hc)
          by_cases hw : E t = .bool b
          . have hctx := h.gctx (n := 20) hw
            obtain ⟨cap, hf, hrs, href⟩ := A7o h hctx hcal
            refine C5k (A2w hf hen.1 rfl) (((hsp g s hfs).2 run hrun).res h hrs hsv) (E3o hj hw) ?_
            rintro v w' ⟨hx, Z', hz, hz', hrep⟩
            have h1 := h.more hx hz hz'
            refine ⟨fun _ => hx, _, _, _, h1.setS d (x := .cnd t b sv) (.inl ⟨?_, hrep⟩) hrf, hs⟩
            rw [D4 _ _ _ _ htd]; exact hw
          . have hoff : G4 all ⟨some d, .call ⟨.value f, args.toArray, ts⟩, ty, pos, aft, some (j, b)⟩ E = false := by
              unfold G4 A0s
              simp only [hj]
              cases hEt : E t with
              | bool b' => simp only [beq_eq_false_iff_ne, ne_eq, Option.some.injEq]; intro hh; exact hw (by rw [hEt, hh])
              | _ => rfl
            refine B3b hoff ⟨fun _ => Ext.refl w, _, _, _, h.setS d (x := .cnd t b sv) (.inr ⟨?_, rfl⟩) hrf, hs⟩
            rw [D4 _ _ _ _ htd]; exact hw
        . exact hs.elim
      rename_i hnone
      cases hen : A5s cx.P g && B6b s.res with
      | false => simp [hen] at hs
      | true =>
        simp only [hen, cond_true] at hs
        simp only [Bool.and_eq_true] at hen
        obtain ⟨hen, hno⟩ := hen
        have hrefs : ∀ {rs : List RT} {r : A5f rs}, B6b rs = true -> ∀ q ∈ (H3 rs r st).1, C8z st.nx q := by
          intro rs
          induction rs with
          | nil => intro r _ q hq; simp [H3] at hq
          | cons r0 rs ih =>
            intro r hn q hq
            cases r0 with
            | own _ _ => simp [B6b, C8t] at hn
            | obox _ _ => simp [B6b, C8t] at hn
            | val a t =>
              simp only [B6b, C8t, Bool.and_eq_true] at hn
              simp only [H3, List.mem_cons] at hq
              rcases hq with rfl | hq
              . exact D3
              . exact ih hn.2 q hq
        have hoff : E t ≠ .bool b -> G4 all ⟨some d, .call ⟨.value f, args.toArray, ts⟩, ty, pos, aft, some (j, b)⟩ E = false := fun hw => by
          unfold G4 A0s
          simp only [hj]
          cases hEt : E t with
          | bool b' => simp only [beq_eq_false_iff_ne, ne_eq, Option.some.injEq]; intro hh; exact hw (by rw [hEt, hh])
          | _ => rfl
        cases hav : T2 s.args with
        | true =>
          simp only [hav, cond_true] at hs
          obtain ⟨hfi, hs⟩ := B4 hs
          have hwr : wrO sp st ⟨some d, .call ⟨.value f, args.toArray, ts⟩, ty, pos, aft, some (j, b)⟩ = true := by
            simp only [wrO, D5o]
            unfold G3q at hfi
            split at hfi
            . rename_i g' ks hg'
              have := Nat.eq_of_beq_eq_true hfi
              subst this
              rw [hg']
              simp only [hfs, hav, Bool.or_true]
            . cases hfi
          rw [hwr]
          unfold E2d at hs
          split at hs
          . rename_i mu hmu
            obtain ⟨hnd, hs⟩ := B4 hs
            have hnd := A4z hnd
            by_cases hw : E t = .bool b
            . have hctx := h.gctx (n := 20) hw
              have hcp := h.ctxP hctx
              obtain ⟨cap, hf, hrs, _⟩ := A7o h hctx hcal
              have hboxes : ∀ k ∈ mu, C0k (st.L k) = true -> ∃ b, B k = .pointer (some ⟨b, 0, none⟩) := fun k _ hk => by
                have hL := h.locs k
                cases hl : st.L k <;> rw [hl] at hk hL <;> try (cases hk)
                . obtain ⟨b, _, e, _⟩ := hL
                  exact ⟨b, e⟩
                . obtain ⟨rfl, _, b, e⟩ := hL
                  exact ⟨b, e⟩
              have hmv := C9j hrs hmu hboxes
              have hlv := W6 hs hmu
              have hmts := A0y h hrs hs hmu
              obtain ⟨x, hre, hs1, _⟩ := A2g h hsp hrs hs
              obtain ⟨hpre, hs1⟩ := hs1 hcp
              refine C5k (A2w hf hen rfl) (B8w h (hsp g s hfs).1 hre hmv hmts hnd hlv hpre) (E3o hj hw) ?_
              rintro v w' ⟨hx, r, o, us, hwf, how, hpost, hmp, rfl, Z', B', g1, g2, g3⟩
              have hk := hs1 r o hwf how hpost (hmp hav)
              split at hk
              . rename_i sv hsv
                rw [hsv] at g2 g3
                obtain ⟨u, us', e, q1, q2⟩ := g2
                rw [show us' = [] from q2] at e
                subst e
                refine ⟨fun hh => (by cases hh), _, _, _, g1.setS d (x := .cnd t b sv) (.inl ⟨?_, q1⟩) (g3 sv (by simp)), hk⟩
                rw [D4 _ _ _ _ htd]; exact hw
              . exact hk.elim
            . have hcn := D5p h hfull hw
              obtain ⟨x, _, hs2⟩ := Z7 hs
              have hk := hs2 hcn
              split at hk
              . rename_i sv hsv
                refine B3b (hoff hw) ⟨fun hh => (by cases hh), _, _, _, h.setS d (x := .cnd t b sv) (.inr ⟨?_, rfl⟩) (hrefs (r := E6u s.res) hno sv (by rw [hsv]; simp)), hk⟩
                rw [D4 _ _ _ _ htd]; exact hw
              . exact hk.elim
          . exact hs.elim
        | false =>
        simp only [hav, cond_false] at hs
        have hs0 := hs
        . by_cases hw : E t = .bool b
          . have hctx := h.gctx (n := 20) hw
            have hcp := h.ctxP hctx
            obtain ⟨cap, hf, hrs, _⟩ := A7o h hctx hcal
            obtain ⟨x, hre, hs⟩ := A2g h hsp hrs hs0
            refine C5k (A2w hf hen rfl) (B8w (mu := []) h (hsp g s hfs).1 hre (D8y hav _) (by rw [D5d hav]; trivial) List.nodup_nil (fun _ hh => by cases hh) (hs.1 hcp)) (E3o hj hw) ?_
            rintro v w' ⟨hx, r, o, us, hwf, _, hpost, _, rfl, Z', B', g1, g2, g3⟩
            replace hx : Ext w w' := hx.ext (fun b ⟨u, hu, _⟩ => by rw [D5d hav] at hu; cases hu)
            have hk := hs.2 r (fun _ => ⟨hwf, hpost⟩)
            have had : ∀ (as : List AM) (o : D2s as) (st' : St), T2 as = false -> addM as o [] st' = st' := by
              intro as
              induction as with
              | nil => intros; rfl
              | cons a as ih =>
                intro o st' ha
                simp only [T2, List.any_cons, Bool.or_eq_false_iff] at ha
                cases a with
                | val _ _ => exact ih o st' ha.2
                | fn _ _ _ => exact ih o st' ha.2
                | row _ _ => cases ha.1
                | box _ _ => cases ha.1
                | rows _ _ _ => cases ha.1
            rw [had _ _ _ hav] at g1 g3
            simp only [dropM] at g1 g2 g3
            rw [B7h hno] at g1
            have hnx : (H3 s.res r st).2.nx = st.nx := by rw [B7h hno]
            split at hk
            . rename_i sv hsv
              rw [hsv] at g2 g3
              obtain ⟨u, us', e, q1, q2⟩ := g2
              rw [show us' = [] from q2] at e
              subst e
              refine ⟨fun _ => hx, _, _, _, g1.setS d (x := .cnd t b sv) (.inl ⟨?_, q1⟩) (by have := g3 sv (by simp); rwa [hnx] at this), hk⟩
              rw [D4 _ _ _ _ htd]; exact hw
            . exact hk.elim
          . have hcn := D5p h hfull hw
            obtain ⟨x, hs⟩ := Z7 hs0
            have hk := hs.2 (E6u s.res) (fun hh => absurd hh hcn)
            split at hk
            . rename_i sv hsv
              have hoff : G4 all ⟨some d, .call ⟨.value f, args.toArray, ts⟩, ty, pos, aft, some (j, b)⟩ E = false := by
                unfold G4 A0s
                simp only [hj]
                cases hEt : E t with
                | bool b' => simp only [beq_eq_false_iff_ne, ne_eq, Option.some.injEq]; intro hh; exact hw (by rw [hEt, hh])
                | _ => rfl
              refine B3b hoff ⟨fun _ => Ext.refl w, _, _, _, h.setS d (x := .cnd t b sv) (.inr ⟨?_, rfl⟩) ?_, hk⟩
              . rw [D4 _ _ _ _ htd]; exact hw
              . have : ∀ {rs : List RT} {r : A5f rs}, B6b rs = true -> ∀ q ∈ (H3 rs r st).1, C8z st.nx q := by
                  intro rs
                  induction rs with
                  | nil => intro r _ q hq; simp [H3] at hq
                  | cons r0 rs ih =>
                    intro r hn q hq
                    cases r0 with
                    | own _ _ => simp [B6b, C8t] at hn
                    | obox _ _ => simp [B6b, C8t] at hn
                    | val a t =>
                      simp only [B6b, C8t, Bool.and_eq_true] at hn
                      simp only [H3, List.mem_cons] at hq
                      rcases hq with rfl | hq
                      . exact D3
                      . exact ih hn.2 q hq
                exact this hno sv (by rw [hsv]; simp)
            . exact hk.elim
    . exact hs.elim
  . exact hs.elim
theorem X4.split {κ ν : Type} {Rk : Value -> κ -> Prop} {Rv : Value -> ν -> Prop} : ∀ {a : List MapEntry} {e : MapEntry} {b : List MapEntry} {l : List (κ × ν)}, X4 Rk Rv (a ++ e :: b) l -> ∃ l1 y l2, l = l1 ++ y :: l2 /\ X4 Rk Rv (a ++ b) (l1 ++ l2) /\ Rk e.key y.1 /\ Rv e.val y.2
  | [], e, b, [], h => by cases h
  | [], e, b, y :: l, ⟨e', es', he, h1, h2, h3⟩ => by cases he; exact ⟨[], y, l, rfl, h3, h1, h2⟩
  | x :: a, e, b, [], h => by cases h
  | x :: a, e, b, z :: l, ⟨e', es', he, h1, h2, h3⟩ => by
    cases he
    obtain ⟨l1, y, l2, rfl, g1, g2, g3⟩ := X4.split h3
    exact ⟨z :: l1, y, l2, rfl, ⟨_, _, rfl, h1, h2, g1⟩, g2, g3⟩
theorem F0j {ents : Array MapEntry} {seen : Array Nat} {e : MapEntry} (hn : (ents.toList.map (·.born)).Nodup) (he : e ∈ (leftOf ents seen).toList) : ∃ a b, (leftOf ents seen).toList = a ++ e :: b /\ (leftOf ents (seen.push e.born)).toList = a ++ b := by
  obtain ⟨a, b, hab⟩ := List.append_of_mem he
  refine ⟨a, b, hab, ?_⟩
  have h1 : (leftOf ents (seen.push e.born)).toList = (leftOf ents seen).toList.filter (fun x => x.born != e.born) := by
    simp only [leftOf, Array.toList_filter, List.filter_filter]
    congr 1
    funext x
    rw [contains_push, Bool.not_or, Bool.and_comm]
    rfl
  have hn2 : ((leftOf ents seen).toList.map (·.born)).Nodup := by
    simp only [leftOf, Array.toList_filter]
    exact hn.sublist ((List.filter_sublist).map _)
  rw [h1, hab, List.filter_append, List.filter_cons]
  rw [hab, List.map_append, List.map_cons, List.nodup_append] at hn2
  obtain ⟨_, hb, hd⟩ := hn2
  rw [List.nodup_cons] at hb
  have ha' : a.filter (fun x => x.born != e.born) = a := List.filter_eq_self.2 fun x hx => by
    have := hd x.born (List.mem_map_of_mem hx) e.born (by simp)
    simpa using this
  have hb' : b.filter (fun x => x.born != e.born) = b := List.filter_eq_self.2 fun x hx => by
    have : x.born ≠ e.born := fun hh => hb.1 (hh ▸ List.mem_map_of_mem hx)
    simpa using this
  simp [ha', hb']
theorem E7w (h : Rel za w0 st E w Z B) {x : Operand} (hs : C2z st d x k) (hg : G4 all ⟨some d, .next x false, ty, pos, aft, gd⟩ E = true) : U9 cx.P all ⟨some d, .next x false, ty, pos, aft, gd⟩ (NxE za w0 w true k) E w := by
  unfold C2z at hs
  split at hs
  . rename_i q hx
    split at hs
    . rename_i ka kt va vt left cur hq
      obtain ⟨b, hB, hv⟩ := (h.c1 (K4 E) hx).1
      have hL := h.locs q
      rw [hq] at hL
      obtain ⟨r, hr, hU, hnz, hit⟩ := hL
      rw [hB] at hr
      cases hr
      have hroot : root (B q) = some b := by rw [hB]; rfl
      have hft : D8 w (B q) (st.L q) b := by rw [hq]; exact hroot
      have hover : left = [] -> (Instr.next (.pointer (some ⟨b, 0, none⟩)) false ty).run cx.P w = .ok (.tuple #[.bool false]) w -> U9 cx.P all ⟨some d, .next x false, ty, pos, aft, gd⟩ (NxE za w0 w true k) E w := fun hl hrun =>
        A0j (v := .tuple #[.bool false]) (w' := w) (fun _ _ _ _ => by simp [execOp, hv, hrun]) hg ⟨fun hh => (by cases hh), _, _, _, h.setS d (x := .tup [⟨false, [.val .bool false]⟩]) ⟨[.bool false], rfl, _, _, rfl, ⟨_, [], rfl, rfl, rfl⟩, rfl⟩ (fun s hs c hc => by simp at hs; subst hs; simp at hc; subst hc; trivial), hs.1 hl⟩
      rcases hit with ⟨hi, hl, _⟩ | ⟨m, seen, ents, cl, i1, i2, i3, i4, i5, i6⟩
      . exact hover hl (by simp [Instr.next, getObj, Sem.run, hi, Sem.run_bind, Result.andThen])
      . rcases run_next_at (P := cx.P) w ty b m cl cl seen ents cl i1 i3 i4.1 (Nat.le_refl _) with ⟨h0, hrun⟩ | ⟨e, he, w1, hw1, hrun⟩
        . refine hover ?_ hrun
          have := X4.len i5
          rw [Array.length_toList, h0] at this
          exact List.eq_nil_of_length_eq_zero this.symm
        . obtain ⟨a, c, g1, g2⟩ := F0j i4.2 he
          rw [g1] at i5
          obtain ⟨l1, y, l2, hl, g3, g4, g5⟩ := X4.split i5
          have hblt : b < w.heap.size := (Array.getElem?_eq_some_iff.1 i1).1
          generalize hw' : ChangeMaps.setBlock w1 b (.mapIter (some m) cl (seen.push e.born) cl) = w' at hrun
          have hchg : Chg b w w' := by
            subst hw'
            rcases hw1 with rfl | rfl
            . exact ⟨rfl, rfl, ⟨rfl, Nat.le_refl _⟩, by simp [ChangeMaps.setBlock], fun z hz => by simp [ChangeMaps.setBlock, Array.getElem?_setIfInBounds, Ne.symm hz]⟩
            . exact ⟨rfl, rfl, ⟨rfl, Nat.le_succ _⟩, by simp [ChangeMaps.setBlock], fun z hz => by simp [ChangeMaps.setBlock, Array.getElem?_setIfInBounds, Ne.symm hz]; rfl⟩
          have hnew : w'.heap[b]? = some (.mapIter (some m) cl (seen.push e.born) cl) := by
            subst hw'
            rcases hw1 with rfl | rfl <;> simp [ChangeMaps.setBlock, Array.getElem?_setIfInBounds, hblt]
          have hsame : W7 Z w w' := fun z hz => hchg.2.2.2.2 z (fun hh => hnz (hh ▸ hz))
          have hem : e ∈ ents.toList := by
            have : e ∈ (leftOf ents seen).toList := he
            simp only [leftOf, Array.toList_filter, List.mem_filter] at this
            exact this.1
          have k1 : A5z (Rep kt w' Z) ka e.key y.1 := g4.mono fun _ _ => Rep.mono (fun _ => id) hsame
          have k2 : A5z (Rep vt w' Z) va e.val y.2 := g5.mono fun _ _ => Rep.mono (fun _ => id) hsame
          have h2 := h.chg (k := q) (lc := .iter ka kt va vt (l1 ++ l2) (some y)) (by rw [hq]; trivial) hft hchg ⟨b, hB, hU, hnz, .inr ⟨m, seen.push e.born, ents, cl, hnew, i2, (hsame m i2).trans i3, i4, by rw [g2]; exact D5f.mono (fun _ => id) hsame g3, fun x hx => by cases hx; exact ⟨e, hem, ⟨seen, rfl⟩, k1, k2⟩⟩⟩ trivial (fun _ hh => .inl hh)
          refine A0j (v := .tuple #[.bool true, e.key, e.val]) (w' := w') (fun _ _ _ _ => by simp [execOp, hv, hrun]) hg ⟨fun hh => (by cases hh), _, _, _, h2.setS d (x := .tup [⟨false, [.val .bool true]⟩, ⟨ka, explode kt y.1⟩, ⟨va, explode vt y.2⟩]) ⟨[.bool true, e.key, e.val], rfl, _, _, rfl, ⟨_, [], rfl, rfl, rfl⟩, _, _, rfl, A7z.explode k1, _, _, rfl, A7z.explode k2, rfl⟩ (fun s hs c hc => ?_), hs.2 l1 y l2 hl⟩
          simp only [List.mem_cons, List.not_mem_nil, or_false] at hs
          rcases hs with rfl | rfl | rfl
          . simp at hc; subst hc; trivial
          . exact D3 c hc
          . exact D3 c hc
    . exact hs.elim
  . exact hs.elim
theorem F1g {P : Program} {T : TypeId} {l : List (Nat × TI)} (h : R2 P l = true) : R2 P (G3c T l) = true := by
  unfold G3c
  split
  . rename_i ti hti
    have h1 := B7 h hti
    simp only [R2, Bool.and_eq_true]
    exact ⟨h1, h⟩
  . exact h
theorem G0h (cx : Cx) (all : List Oper) (o : Oper) : (F9w cx all o).P = cx.P := by
  unfold F9w
  split
  . cases G2q all o.dst <;> rfl
  . rfl
theorem F7i {cx : Cx} (all : List Oper) (o : Oper) (h : R2 cx.P cx.tys = true) : R2 (F9w cx all o).P (F9w cx all o).tys = true := by
  unfold F9w
  split
  . cases G2q all o.dst with
    | true => exact h
    | false => exact F1g h
  . exact h
theorem D8h {o : Oper} (h : Rel za w0 st E w Z B) (hmkd : za.b0 = 0 \/ F7q sp za.k0 st o.op = true) (hty : R2 cx.P cx.tys = true) (hsp : D8o cx.P sp) (hs : D1w cx sp all o k st) : U9 cx.P all o (NxE za w0 w (wrO sp st o) k) E w := by
  obtain ⟨dst, op, ty, pos, aft, gd⟩ := o
  unfold D1w at hs
  simp only at hs
  split at hs
  . have hwant : ∀ dst, G4 all ⟨dst, op, ty, pos, aft, none⟩ E = true := fun _ => rfl
    have nxw : ∀ {E' : Env} {w' : World}, NxE za w0 w (wrB op) k E' w' -> NxE za w0 w (wrO sp st ⟨dst, op, ty, pos, aft, none⟩) k E' w' := fun ⟨a, b⟩ => ⟨fun hh => a (by simp only [wrO, Bool.or_eq_false_iff] at hh; exact hh.1), b⟩
    split at hs
    . rename_i φ v hp
      split at hs
      . rename_i d
        replace hs := G8.1 hs
        obtain ⟨u, h1, h2, h3⟩ := B9m (ty := ty) h (F7i all _ hty) (K4 E) hp hs.1
        rw [G0h] at h1
        exact A0j (h1 w (fun _ => Ext.refl w)) (hwant _) ⟨fun _ => Ext.refl w, _, _, _, h.setS d (h2 _) h3, hs.2⟩
      . exact hs.elim
    . split at hs
      . split at hs
        . split at hs
          . rename_i φ st' hst
            replace hs := G8.1 hs
            refine O3 ?_ (D9y h hty hst hs.1 hs.2 (hwant _))
            rintro E' w' ⟨_, n⟩
            exact ⟨fun hh => (by simp [wrO, wrB] at hh), n⟩
          . exact hs.elim
        . exact hs.elim
      . split at hs
        . split at hs
          . rename_i st' hst
            obtain ⟨w', g1, _, Z', B', g2⟩ := E1i (ty := ty) h hty hst
            exact C8p g1 (hwant _) ⟨fun hh => (by simp [wrO, wrB] at hh), _, _, _, g2, hs⟩
          . exact hs.elim
        . exact hs.elim
      . split at hs
        . split at hs
          . rename_i st' hst
            obtain ⟨w', _, g1, Z', B', g2⟩ := E1i (ty := ty) h hty hst
            exact C8p g1 (hwant _) ⟨fun hh => (by simp [wrO, wrB] at hh), _, _, _, g2, hs⟩
          . exact hs.elim
        . exact hs.elim
      . split at hs
        . rename_i f args ts heq xx d
          have := E7y (ty := ty) (pos := pos) (aft := aft) (all := all) (ts := ts) h hsp (hmkd.imp id fun hh => by simp only [F7q, Bool.and_eq_true, Bool.not_eq_true'] at hh; simpa using hh.2) hs (by rfl)
          simpa using this
        . exact hs.elim
      . split at hs
        . rename_i x str heq yy d
          cases str with
          | true => exact hs.elim
          | false => exact O3 (fun _ _ ⟨a, b⟩ => ⟨fun hh => (by simp [wrO, wrB] at hh), b⟩) (E7w h hs (hwant _))
        . exact hs.elim
      . split at hs
        . split at hs
          . rename_i st' hst
            exact O3 (fun _ _ ⟨a, b⟩ => ⟨fun hh => (by simp [wrO, wrB] at hh), b⟩) (F0e h hty hst hs (hwant _))
          . exact hs.elim
        . exact hs.elim
      . split at hs
        . split at hs
          . rename_i st' hst
            obtain ⟨w', g1, Z', B', g2⟩ := F1e (cx := cx) (ty := ty) h hst
            exact C8p g1 (hwant _) ⟨fun hh => (by simp [wrO, wrB] at hh), _, _, _, g2, hs⟩
          . exact hs.elim
        . exact hs.elim
      . rename_i args ts _
        split at hs
        . rename_i x T hargs hts _
          split at hs
          . rename_i st' hst
            obtain ⟨v, w', g1, g2⟩ := F2e (cx := cx) (ty := ty) h hty hst
            have ha : args = #[x] := by rw [<- Array.toArray_toList (xs := args), hargs]
            have ht : ts = #[T] := by rw [<- Array.toArray_toList (xs := ts), hts]
            subst ha ht
            exact F7h g1 (hwant _) ⟨fun hh => (by simp [wrO, wrB] at hh), _, _, _, g2, hs⟩
          . exact hs.elim
        . exact hs.elim
      . split at hs
        . split at hs
          . rename_i heff
            replace hs := G8.1 hs
            exact O3 (fun _ _ => nxw) (F7v h (hmkd.imp id fun hh op e => by subst e; simp only [F7q, Bool.and_eq_true] at hh; exact hh.1) hty heff hs.1 hs.2 (hwant _))
          . exact hs.elim
        . exact hs.elim
  . rename_i j b
    split at hs
    . rename_i t hj
      cases hfull : B2o st 20 t with
      | false => simp [hfull] at hs
      | true =>
        simp only [hfull, cond_true] at hs
        split at hs
        . rename_i d
          obtain ⟨htd', hs⟩ := B4 hs
          . have htd : t ≠ d := Nat.ne_of_beq_eq_false (by simpa using htd')
            split at hs
            . rename_i φ s hp
              cases hrb : s.cs.all (G0t st.nx) with
              | false => simp [hrb] at hs
              | true =>
              simp only [hrb, cond_true] at hs
              replace hs := G8.1 hs
              rw [E5k] at hs
              by_cases hw : E t = .bool b
              . have hctx := h.gctx (n := 20) hw
                obtain ⟨u, h1, h2, h3⟩ := B9m (ty := ty) h hty hctx hp (hs.1 (h.ctxP hctx))
                refine A0j (h1 w (fun _ => Ext.refl w)) (E3o hj hw) ⟨fun _ => Ext.refl w, _, _, _, h.setS d (x := .cnd t b s) (.inl ⟨?_, h2 E⟩) h3, hs.2⟩
                rw [D4 _ _ _ _ htd]; exact hw
              . have hoff : G4 all ⟨some d, op, ty, pos, aft, some (j, b)⟩ E = false := by
                  unfold G4 A0s
                  simp only [hj]
                  cases hEt : E t with
                  | bool b' => simp only [beq_eq_false_iff_ne, ne_eq, Option.some.injEq]; intro hh; exact hw (by rw [hEt, hh])
                  | _ => rfl
                refine B3b hoff ⟨fun _ => Ext.refl w, _, _, _, h.setS d (x := .cnd t b s) (.inr ⟨?_, rfl⟩) ?_, hs.2⟩
                . rw [D4 _ _ _ _ htd]; exact hw
                . exact fun c hc => E3y (List.all_eq_true.1 hrb c hc)
            . exact hs.elim
            . split at hs
              . rename_i f args ts _ heq
                have := E3x (ty := ty) (pos := pos) (aft := aft) (d := d) (all := all) (ts := ts) h hsp hj hfull htd hs
                simpa using this
              . rename_i T len parts _
                split at hs
                . rename_i st1 hb1
                  have := F0a (ty := ty) (pos := pos) (aft := aft) (d := d) (all := all) h hty hj hfull htd hb1 hs
                  refine O3 (next := NxE za w0 w false k) ?_ (by simpa using this)
                  rintro _ _ ⟨a, b⟩
                  exact ⟨fun _ => a rfl, b⟩
                . exact hs.elim
              . exact hs.elim
        . exact hs.elim
    . exact hs.elim
theorem E1f (hb0 : za.b0 = 0) (hty : R2 cx.P cx.tys = true) (hsp : D8o cx.P sp) : ∀ {rest : List Oper} {st : St} {E : Env} {w : World} {Z : Nat -> Prop} {B : Nat -> Value}, Rel za w0 st E w Z B -> D8v cx sp all rest k st -> G1z cx.P all (Nx za w0 k) rest E w
  | [], _, _, _, _, _, h, hs => ⟨_, _, _, h, hs⟩
  | o :: r, _, _, _, _, _, h, hs => by
    refine O3 ?_ (D8h h (.inl hb0) hty hsp hs)
    rintro E' w' ⟨_, st', Z', B', h', hk⟩
    exact E1f hb0 hty hsp h' hk
end
theorem Evo.trans {a b c : St} (h : Evo a b) (k : Evo b c) : Evo a c := by
  refine ⟨Nat.le_trans h.ct k.ct, fun s h0 h1 => ?_, fun q h0 h1 => ?_, ?_⟩
  . have e := k.s s h0 (Nat.le_trans h1 h.ct)
    rw [e] at h0 h1 ⊢
    exact h.s s h0 h1
  . have e := k.l q h0 (Nat.le_trans h1 h.ct)
    rw [e] at h0 h1 ⊢
    exact h.l q h0 h1
  . exact h.f.trans h.ct k.f
theorem Evo.setS (st : St) (d : Nat) (x : DV) : Evo st (st.setS d x) := by
  refine ⟨Nat.le_succ _, fun s h0 h1 => ?_, fun _ _ _ => rfl, A2y.refl _ _⟩
  rw [St.eS_setS] at h0 h1 ⊢
  split at h1
  . simp only at h1; omega
  . rename_i hs
    rw [if_neg hs]
    cases hc : D2v d (st.S s) with
    | true => simp only [hc, cond_true] at h1; omega
    | false => rfl
theorem Evo.setL (st : St) (k : Nat) (x : LC) : Evo st (st.setL k x) := by
  refine ⟨Nat.le_succ _, fun _ _ _ => rfl, fun q h0 h1 => ?_, A2y.refl _ _⟩
  rw [St.eL_setL] at h0 h1 ⊢
  split at h1
  . simp only at h1; omega
  . rename_i hs; rw [if_neg hs]
theorem Evo.newL (st : St) (x : LC) : Evo st (st.newL x) := by
  refine ⟨Nat.le_succ _, fun _ _ _ => rfl, fun q h0 h1 => ?_, A2y.refl _ _⟩
  rw [St.eL_newL] at h0 h1 ⊢
  split at h1
  . simp only at h1; omega
  . rename_i hs; rw [if_neg hs]
theorem R7.mapV (n : Nat) (p : DV -> Bool) (f : DV -> DV) : ∀ l, R7 n l (Vc.mapV p f (n + 1) l)
  | [] => trivial
  | (s, x) :: l => by
    refine ⟨rfl, fun h => ?_, R7.mapV n p f l⟩
    cases hp : p x.2 with
    | true => simp only [hp, cond_true] at h; omega
    | false => rfl
theorem A2y.mapV (n : Nat) (p : DV -> Bool) (f : DV -> DV) : ∀ l, A2y n l (l.map (Vc.mapV p f (n + 1)))
  | [] => trivial
  | x :: l => ⟨R7.mapV n p f x, A2y.mapV n p f l⟩
theorem Evo.freeze (st : St) (k : Nat) (c : C) : Evo st (st.freeze k c) := by
  refine ⟨Nat.le_succ _, fun s h0 h1 => ?_, fun q h0 h1 => ?_, A2y.mapV _ _ _ _⟩
  . rw [St.eS_freeze] at h0 h1 ⊢
    cases hc : C8l k (st.S s) with
    | true => simp only [hc, cond_true] at h1; omega
    | false => rfl
  . rw [St.eL_freeze] at h0 h1 ⊢
    cases hc : E8v k (if q = k then (st.ct + 1, LC.none) else st.eL q).2 with
    | true => simp only [hc, cond_true] at h1; omega
    | false =>
      simp only [hc, cond_false] at h1 ⊢
      split at h1
      . simp only at h1; omega
      . rename_i hq; rw [if_neg hq]
theorem Evo.settle (st : St) (cs : List C) : Evo st (settle st cs) := by
  induction cs generalizing st with
  | nil => exact Evo.refl _
  | cons c cs ih =>
    cases c with
    | row k =>
      simp only [Vc.settle]
      cases hk : st.L k with
      | row t e l =>
        cases Nat.ble st.nm k with
        | true => exact (Evo.freeze st k _).trans (ih _)
        | false => exact ih st
      | rows t e e' ls al ho =>
        cases ho with
        | some _ => exact ih st
        | none =>
          cases Nat.ble st.nm k with
          | true => exact (Evo.freeze st k _).trans (ih _)
          | false => exact ih st
      | _ => exact ih st
    | win k _ _ _ =>
      simp only [Vc.settle]
      cases hk : st.L k with
      | row t e l =>
        cases Nat.ble st.nm k with
        | true => exact (Evo.freeze st k _).trans (ih _)
        | false => exact ih st
      | _ => exact ih st
    | mp k =>
      simp only [Vc.settle]
      cases hk : st.L k with
      | map _ _ _ _ _ =>
        cases Nat.ble st.nm k with
        | true => exact (Evo.freeze st k _).trans (ih _)
        | false => exact ih st
      | _ => exact ih st
    | _ => exact ih st
theorem Evo.settleO (st : St) (x : Operand) : Evo st (settleO st x) := by
  unfold Vc.settleO
  split
  . exact Evo.settle _ _
  . exact Evo.refl _
theorem Evo.settleP (st : St) (ps : List (Nat × Operand)) : Evo st (settleP st ps) := by
  induction ps generalizing st with
  | nil => exact Evo.refl _
  | cons x ps ih => exact (Evo.settleO st x.2).trans (ih _)
theorem Evo.thawS (st : St) (s : SV) : Evo st (thawS st s) := by
  unfold Vc.thawS
  split
  . unfold thaw
    split
    . cases Nat.ble st.nm _ with
      | true => exact (Evo.setL st _ _).trans (Evo.setL _ _ _)
      | false => exact Evo.refl st
    . exact Evo.refl st
  . exact Evo.refl st
theorem Evo.stillB (cx : Cx) (st : St) (k : Nat) : Evo st (stillB cx st k) := by
  unfold Vc.stillB
  split
  . rename_i T cs _
    cases Nat.ble st.nm k with
    | false => exact Evo.refl _
    | true =>
      simp only [cond_true]
      split
      . split
        . split
          . exact ((Evo.settle st cs).trans (Evo.setL _ _ _)).trans (Evo.setL _ _ _)
          . exact Evo.refl _
        . exact Evo.refl _
      . exact Evo.refl _
  . exact Evo.refl _
theorem Evo.stillL (cx : Cx) : ∀ (ks : List Nat) (st : St), Evo st (ks.foldl (Vc.stillB cx) st)
  | [], st => Evo.refl st
  | k :: ks, st => (Evo.stillB cx st k).trans (Evo.stillL cx ks _)
theorem Evo.stillF (cx : Cx) : ∀ (st : St) (as : List AM) (ss : List SV), Evo st (stillF cx st as ss)
  | st, [], _ => Evo.refl st
  | st, _ :: _, [] => Evo.refl st
  | st, a :: as, s :: ss => by
    simp only [Vc.stillF]
    split
    . exact (Evo.stillL cx _ st).trans (Evo.stillF cx _ as ss)
    . exact Evo.stillF cx st as ss
theorem Evo.settleA : ∀ (as : List AM) (ss : List SV) (st : St), Evo st (settleA st as ss)
  | [], _, st => Evo.refl st
  | .val _ _ :: as, s :: ss, st => (Evo.settle st s.cs).trans (Evo.settleA as ss _)
  | .row _ _ :: as, s :: ss, st => (Evo.thawS st s).trans (Evo.settleA as ss _)
  | .rows _ _ _ :: as, _ :: ss, st => Evo.settleA as ss st
  | .rows _ _ _ :: _, [], st => Evo.refl st
  | .box _ _ :: as, _ :: ss, st => Evo.settleA as ss st
  | .fn _ _ _ :: as, _ :: ss, st => Evo.settleA as ss st
  | .val _ _ :: _, [], st => Evo.refl st
  | .row _ _ :: _, [], st => Evo.refl st
  | .box _ _ :: _, [], st => Evo.refl st
  | .fn _ _ _ :: _, [], st => Evo.refl st
theorem Evo.dropM : ∀ (ks : List Nat) (st : St), Evo st (dropM st ks)
  | [], st => Evo.refl st
  | k :: ks, st => (Evo.setL st k _).trans (Evo.dropM ks _)
theorem Evo.addM : ∀ (as : List AM) (o : D2s as) (ks : List Nat) (st : St), Evo st (addM as o ks st)
  | [], _, ks, st => by cases ks <;> exact Evo.refl st
  | .row t e :: as, o, [], st => Evo.refl st
  | .box t e :: as, o, [], st => Evo.refl st
  | .row t e :: as, o, k :: ks, st => (Evo.setL st k _).trans (Evo.addM as o.2 ks _)
  | .box t e :: as, o, k :: ks, st => (Evo.setL st k _).trans (Evo.addM as o.2 ks _)
  | .val _ _ :: as, o, ks, st => Evo.addM as o ks st
  | .fn _ _ _ :: as, o, ks, st => Evo.addM as o ks st
  | .rows _ _ _ :: as, o, [], st => Evo.refl st
  | .rows _ _ _ :: as, o, k :: ks, st => (Evo.setL st k _).trans (Evo.addM as o.2 ks _)
theorem Evo.place : ∀ (rs : List RT) (r : A5f rs) (st : St), Evo st (H3 rs r st).2
  | [], _, st => Evo.refl st
  | .val _ _ :: rs, r, st => Evo.place rs r.2 st
  | .own t e :: rs, r, st => (Evo.newL st (.row t e r.1)).trans (Evo.place rs r.2 _)
  | .obox T t :: rs, r, st => (Evo.newL st (.box T (explode t r.1))).trans (Evo.place rs r.2 _)
theorem Evo.boxS (st : St) (d : Tmp) (T : TypeId) (cs : List C) : Evo st (boxS st d T cs) := (Evo.newL _ _).trans (Evo.setS _ _ _)
theorem Evo.rowS (st : St) (d : Tmp) (t : Ty) (e : TypeId) (l : List t.den) : Evo st (rowS st d t e l) := (Evo.newL _ _).trans (Evo.setS _ _ _)
theorem Evo.dropR (st : St) (c : C) : Evo st (dropR st c) := by
  cases c with
  | row k => exact Evo.setL _ _ _
  | _ => exact Evo.refl _
section
variable {cx : Cx} {sp : B6} {all : List Oper} {k k' : St -> Prop} {st : St}
theorem Evo.detO (st : St) (x : Operand) : Evo st (detO st x) := by
  have hbif : ∀ (b : Bool) (s1 : St), Evo st s1 -> Evo st (bif b then s1 else st) := by
    intro b s1 h
    cases b
    . exact Evo.refl _
    . exact h
  unfold Vc.detO
  split
  . unfold G1u
    split
    . split
      . split
        . split
          . exact hbif _ _ ((Evo.setL _ _ _).trans (Evo.setL _ _ _))
          . exact Evo.refl _
        . exact Evo.refl _
      . exact Evo.refl _
    . exact Evo.refl _
  . exact Evo.refl _
theorem E0u {d : Tmp} {T : TypeId} {x : Operand} {st' : St} (h : E8o cx st d T x = some st') : Evo st st' := by
  simp only [E8o, Option.bind_eq_bind, bind_some] at h
  obtain ⟨ti, _, c, _, h⟩ := h
  split at h
  . split at h
    . obtain ⟨_, h⟩ := E6 h
      cases h
      exact ((Evo.newL _ _).trans (Evo.setL _ _ _)).trans (Evo.setS _ _ _)
    . cases h
  . cases h
theorem F1h {d : Tmp} {T : TypeId} {x y : Operand} {st' : St} (h : F1c cx st d T x y = some st') : Evo st st' := by
  simp only [F1c, Option.bind_eq_bind, bind_some] at h
  obtain ⟨ti, _, t, _, a, _, b, _, ys, _, h⟩ := h
  cases a with
  | row k =>
    simp only at h
    split at h
    . split at h
      . obtain ⟨_, h⟩ := E6 h
        cases h
        exact (Evo.setL _ _ _).trans (Evo.setS _ _ _)
      . cases h
    . cases h
  | _ => simp at h
theorem F4e {d : Tmp} {op : Op} {φ : Option Prop} {st' : St} (h : G1s cx st d op = some (φ, st')) : Evo st st' := by
  unfold G1s at h
  split at h
  . simp only [Option.bind_eq_bind, bind_some] at h
    obtain ⟨s, _, h⟩ := h
    obtain ⟨_, h⟩ := E6 h
    cases h
    exact Evo.boxS _ _ _ _
  . simp only [Option.bind_eq_bind, bind_some] at h
    obtain ⟨s, _, h⟩ := h
    cases h
    exact Evo.boxS _ _ _ _
  . simp only [Option.bind_eq_bind, bind_some] at h
    obtain ⟨ti, _, t, _, ps, _, xs, _, h⟩ := h
    obtain ⟨_, h⟩ := E6 h
    cases h
    exact (Evo.settleP _ _).trans (Evo.rowS _ _ _ _ _)
  . simp only [Option.bind_eq_bind, bind_some] at h
    obtain ⟨ti, _, t, _, l, _, c, _, h⟩ := h
    cases hr : ti.rows with
    | true =>
      simp only [hr, cond_true, Option.map_eq_some_iff] at h
      obtain ⟨st2, hm, h⟩ := h
      cases h
      unfold D5x at hm
      split at hm
      . simp only [Option.map_eq_some_iff] at hm
        obtain ⟨_, _, hm⟩ := hm
        subst hm
        exact (Evo.newL _ _).trans (Evo.setS _ _ _)
      . cases hm
    | false =>
      simp only [hr, cond_false] at h
      obtain ⟨_, h⟩ := E6 h
      cases h
      exact Evo.rowS _ _ _ _ _
  . split at h
    . obtain ⟨_, h⟩ := E6 h
      simp only [G3f, Option.bind_eq_bind, bind_some] at h
      obtain ⟨ti, _, t, _, a, _, b, _, l, _, ys, _, h⟩ := h
      obtain ⟨_, h⟩ := E6 h
      cases h
      exact (Evo.detO _ _).trans ((Evo.dropR _ _).trans (Evo.rowS _ _ _ _ _))
    . cases h
  . simp only [Option.bind_eq_bind, bind_some] at h
    obtain ⟨ti, _, h⟩ := h
    split at h
    . cases h; exact (Evo.newL _ _).trans (Evo.setS _ _ _)
    . simp only [Option.map_eq_some_iff] at h
      obtain ⟨_, _, h⟩ := h
      cases h; exact (Evo.newL _ _).trans (Evo.setS _ _ _)
    . cases h
  . split at h
    . simp only [Option.bind_eq_bind, bind_some] at h
      obtain ⟨ti, _, h⟩ := h
      split at h
      . simp only [bind_some] at h
        obtain ⟨_, _, _, _, h⟩ := h
        cases h
        exact Evo.setS _ _ _
      . cases h
    . cases h
  . simp only [Option.map_eq_some_iff] at h
    obtain ⟨st2, hl, h⟩ := h
    cases h
    exact E0u hl
  . simp only [Option.bind_eq_bind, bind_some] at h
    obtain ⟨ti, _, h⟩ := h
    split at h
    . simp only [bind_some] at h
      obtain ⟨_, _, _, _, h⟩ := h
      cases h
      exact (Evo.settleO _ _).trans ((Evo.newL _ _).trans (Evo.setS _ _ _))
    . cases h
  . simp only [Option.bind_eq_bind, bind_some] at h
    obtain ⟨_, _, h⟩ := h
    split at h
    . split at h
      . obtain ⟨_, h⟩ := E6 h
        cases h
        exact Evo.setS _ _ _
      . cases h
    . cases h
  . split at h
    . simp only [Option.map_eq_some_iff] at h
      obtain ⟨st2, hl, h⟩ := h
      cases h
      exact F1h hl
    . cases h
  . cases h
theorem E8y {T : TypeId} {x : Operand} {st' : St} (h : E1h cx st T x = some st') : Evo st st' := by
  simp only [E1h, Option.bind_eq_bind, bind_some] at h
  obtain ⟨ti, _, t, _, c, _, h⟩ := h
  split at h
  . split at h
    . split at h
      . obtain ⟨_, h⟩ := E6 h
        cases h
        exact Evo.setL _ _ _
      . cases h
    . cases h
  . cases h
theorem D4k {T : TypeId} {m x y : Operand} {st' : St} (h : D4p cx st T m x y = some st') : Evo st st' := by
  simp only [D4p, Option.bind_eq_bind, bind_some] at h
  obtain ⟨ti, _, c, _, sk, _, sy, _, h⟩ := h
  split at h
  . simp only [bind_some] at h
    obtain ⟨_, _, _, _, _, _, h⟩ := h
    cases h
    exact (Evo.settleO _ _).trans (Evo.setL _ _ _)
  . cases h
theorem E7m {ti : TI} {s : SV} {k sz i off : Nat} {st' : St} (h : E4o ti st s k sz i off = some st') : Evo st st' := by
  unfold E4o at h
  split at h
  . obtain ⟨_, h⟩ := E6 h
    split at h
    . cases h; exact Evo.setL _ _ _
    . cases h
  . split at h
    . split at h
      . obtain ⟨_, h⟩ := E6 h
        split at h
        . cases h; exact Evo.setL _ _ _
        . cases h
      . cases h
    . cases h
  . cases h
theorem E7o {T : TypeId} {p v : Operand} {φ : Option Prop} {st' : St} (h : E0a cx st T p v = some (φ, st')) : Evo st st' := by
  simp only [E0a, Option.bind_eq_bind, bind_some] at h
  obtain ⟨ti, _, c, _, h⟩ := h
  split at h
  . simp only [bind_some] at h
    obtain ⟨s, _, h⟩ := h
    split at h
    . obtain ⟨_, h⟩ := E6 h
      cases h
      exact Evo.setL _ _ _
    . cases h
  . split at h
    . split at h
      . obtain ⟨_, h⟩ := E6 h
        unfold Vc.attach at h
        split at h
        . split at h
          . obtain ⟨_, h⟩ := E6 h
            cases h
            exact (((Evo.setL _ _ _).trans (Evo.setL _ _ _)).trans (Evo.setL _ _ _)).trans (Evo.setL _ _ _)
          . cases h
        . cases h
      . cases h
    . simp only [bind_some, Option.map_eq_some_iff] at h
      obtain ⟨s, _, st2, h2, h⟩ := h
      cases h
      exact (Evo.settleO _ _).trans (E7m h2)
  . cases h
theorem T7 {sh : Bool} {mu : List Nat} : ∀ {as : List AM} {ss : List SV} {k k' : A7 as -> Prop}, R8 cx sp st mu sh as ss k -> (∀ x, k x -> k' x) -> R8 cx sp st mu sh as ss k'
  | [], [], _, _, h, hk => hk _ h
  | [], _ :: _, _, _, h, _ => h.elim
  | a :: r, [], _, _, h, _ => by cases a <;> exact h.elim
  | .val a t :: r, s :: ss, _, _, h, hk => by
    simp only [R8] at h ⊢
    split at h
    . exact T7 h fun y => hk _
    . exact h.elim
  | .row t e0 :: r, s :: ss, _, _, h, hk => by
    simp only [R8] at h ⊢
    split at h
    . split at h
      . obtain ⟨hb, h⟩ := B4 h
        simp only [hb, cond_true]
        exact T7 h fun y => hk _
      . exact h.elim
    . exact h.elim
  | .box t e0 :: r, s :: ss, _, _, h, hk => by
    simp only [R8] at h ⊢
    split at h
    . split at h
      . obtain ⟨hb, h⟩ := B4 h
        simp only [hb, cond_true]
        exact T7 h fun y => hk _
      . exact h.elim
    . exact h.elim
  | .rows t e0 e1 :: r, s :: ss, _, _, h, hk => by
    simp only [R8] at h ⊢
    split at h
    . split at h
      . obtain ⟨hb, h⟩ := B4 h
        simp only [hb, cond_true]
        exact T7 h fun y => hk _
      . exact h.elim
    . exact h.elim
  | .fn as' ra' r' :: r, s :: ss, _, _, h, hk => by
    simp only [R8] at h ⊢
    split at h
    . split at h
      . obtain ⟨hb, h⟩ := B4 h
        simp only [hb, cond_true]
        obtain ⟨ok, φ, hp, h⟩ := h
        exact ⟨ok, φ, hp, T7 h fun y => hk _⟩
      . exact h.elim
    . split at h
      . rename_i hh
        rw [dif_pos hh]
        exact ⟨h.1, h.2.1, T7 h.2.2 fun y => hk _⟩
      . exact h.elim
    . exact h.elim
theorem C8g {d : Tmp} {s : B9} {ss : List SV} (h : D1e cx sp st d s ss k) (hk : ∀ st', Evo st st' -> k st' -> k' st') : D1e cx sp st d s ss k' := by
  unfold D1e at h ⊢
  split at h
  . obtain ⟨hb, h⟩ := B4 h
    simp only [hb, cond_true]
    cases hm : T2 s.args <;> simp only [hm, cond_false, cond_true] at h ⊢
    . exact T7 h fun x hx => ⟨hx.1, fun r hr hp => hk _ ((Evo.place _ _ _).trans (Evo.setS _ _ _)) (hx.2 r hr hp)⟩
    . exact T7 h fun x hx => ⟨hx.1, fun r o hr ho hp hq => hk _ ((Evo.dropM _ _).trans ((Evo.place _ _ _).trans ((Evo.addM _ _ _ _).trans (Evo.setS _ _ _)))) (hx.2 r o hr ho hp hq)⟩
  . exact h
theorem D9f {d : Tmp} {f : Operand} {args : List Operand} (h : C3y cx sp st d f args k) (hk : ∀ st', Evo st st' -> k st' -> k' st') : C3y cx sp st d f args k' := by
  unfold C3y at h ⊢
  split at h
  . split at h
    . split at h
      . exact ⟨h.1, h.2.1, fun hw => hk _ (Evo.setS _ _ _) (h.2.2 hw)⟩
      . exact h
    . exact h
  . split at h
    . split at h
      . obtain ⟨hen, h⟩ := B4 h
        simp only [hen, cond_true]
        rename_i s _ _
        cases hin : s.inl with
        | some run =>
          simp only [hin] at h ⊢
          exact run.step h fun st' ss' ev hh => hk _ (ev.trans (Evo.setS _ _ _)) hh
        | none =>
        simp only [hin] at h ⊢
        cases hsh : s.shared <;> simp only [hsh, cond_false, cond_true] at h ⊢
        . exact C8g h hk
        . split at h
          . obtain ⟨hgg, h⟩ := B4 h
            simp only [hgg, cond_true]
            exact C8g h fun st' ev => hk st' (((Evo.stillF _ _ _ _).trans (Evo.settleA _ _ _)).trans ev)
          . exact h
      . exact h
    . exact h
theorem D5n {ctx : Ctx} {t : Tmp} {b : Bool} {d : Tmp} {f : Operand} {args : List Operand} (h : B3c cx sp st ctx t b d f args k) (hk : ∀ st', Evo st st' -> k st' -> k' st') : B3c cx sp st ctx t b d f args k' := by
  unfold B3c at h ⊢
  split at h
  . split at h
    . split at h
      . exact ⟨h.1, h.2.1, fun hw => hk _ (Evo.setS _ _ _) (h.2.2 hw)⟩
      . exact h
    . exact h
  split at h
  . split at h
    . split at h
      . split at h
        . obtain ⟨hen, h⟩ := B4 h
          simp only [hen, cond_true]
          exact hk _ (Evo.setS _ _ _) h
        . exact h
      obtain ⟨hen, h⟩ := B4 h
      simp only [hen, cond_true]
      rename_i s _ _ _ _
      cases hm : T2 s.args <;> simp only [hm, cond_false, cond_true] at h ⊢
      case true =>
        obtain ⟨hfi, h⟩ := B4 h
        simp only [hfi, cond_true]
        unfold E2d at h ⊢
        split at h
        . obtain ⟨hb, h⟩ := B4 h
          simp only [hb, cond_true]
          refine T7 h fun x hx => ⟨fun hc => ⟨(hx.1 hc).1, fun r o hr ho hp hq => ?_⟩, fun hc => ?_⟩
          . have := (hx.1 hc).2 r o hr ho hp hq
            split at this
            . exact hk _ ((Evo.dropM _ _).trans ((Evo.place _ _ _).trans ((Evo.addM _ _ _ _).trans (Evo.setS _ _ _)))) this
            . exact this
          . have := hx.2 hc
            split at this
            . exact hk _ (Evo.setS _ _ _) this
            . exact this
        . exact h
      refine T7 h fun x h => ⟨h.1, fun r hr => ?_⟩
      have := h.2 r hr
      split at this
      . exact hk _ (Evo.setS _ _ _) this
      . exact this
    . exact h
  . exact h
theorem E6s {d : Tmp} {T : TypeId} {m x : Operand} {st' : St} (h : E0c cx st d T m x = some st') : Evo st st' := by
  simp only [E0c, Option.bind_eq_bind, bind_some] at h
  obtain ⟨ti, _, c, _, sk, _, h⟩ := h
  split at h
  . simp only [bind_some] at h
    obtain ⟨_, _, _, _, h⟩ := h
    obtain ⟨_, h⟩ := E6 h
    cases h
    exact ((Evo.newL _ _).trans (Evo.setL _ _ _)).trans (Evo.setS _ _ _)
  . cases h
theorem E7t {m s y : Operand} {st' : St} (h : E0o st m s y = some st') : Evo st st' := by
  simp only [E0o, Option.bind_eq_bind, bind_some] at h
  obtain ⟨c, _, cs, _, sy, _, h⟩ := h
  split at h
  . rename_i k q _ _
    split at h
    . rename_i ka kt va vt es j q' hk
      cases hqq : Nat.beq q q' with
      | false => simp [hqq] at h
      | true =>
        cases hv : B4c va vt sy with
        | none => simp [hqq, hv] at h
        | some v => simp [hqq, hv] at h; subst h; exact (Evo.settleO _ _).trans (Evo.setL _ _ _)
    . cases h
  . cases h
theorem E0f {d : Tmp} {x : Operand} (h : C2z st d x k) (hk : ∀ st', Evo st st' -> k st' -> k' st') : C2z st d x k' := by
  unfold C2z at h ⊢
  split at h
  . split at h
    . exact ⟨fun hl => hk _ (Evo.setS _ _ _) (h.1 hl), fun l1 y l2 hl => hk _ ((Evo.setL _ _ _).trans (Evo.setS _ _ _)) (h.2 l1 y l2 hl)⟩
    . exact h
  . exact h
theorem C3b {o : Oper} (h : D1w cx sp all o k st) (hk : ∀ st', Evo st st' -> k st' -> k' st') : D1w cx sp all o k' st := by
  obtain ⟨dst, op, ty, pos, aft, gd⟩ := o
  unfold D1w at h ⊢
  simp only at h ⊢
  split at h
  . split at h
    . split at h
      . exact G8.2 ⟨(G8.1 h).1, hk _ (Evo.setS _ _ _) (G8.1 h).2⟩
      . exact h
    . split at h
      . split at h
        . split at h
          . rename_i hst; exact G8.2 ⟨(G8.1 h).1, hk _ (E7o hst) (G8.1 h).2⟩
          . exact h
        . exact h
      . split at h
        . split at h
          . rename_i hst; exact hk _ (D4k hst) h
          . exact h
        . exact h
      . split at h
        . split at h
          . rename_i hst; exact hk _ (D4k hst) h
          . exact h
        . exact h
      . split at h
        . exact D9f h hk
        . exact h
      . split at h
        . rename_i x str heq yy d
          cases str with
          | true => exact h
          | false => exact E0f h hk
        . exact h
      . split at h
        . split at h
          . rename_i hst; exact hk _ (E6s hst) h
          . exact h
        . exact h
      . split at h
        . split at h
          . rename_i hst; exact hk _ (E7t hst) h
          . exact h
        . exact h
      . split at h
        . split at h
          . rename_i hst; exact hk _ (E8y hst) h
          . exact h
        . exact h
      . split at h
        . split at h
          . rename_i heff; exact G8.2 ⟨(G8.1 h).1, hk _ (F4e heff) (G8.1 h).2⟩
          . exact h
        . exact h
  . split at h
    . obtain ⟨hfull, h⟩ := B4 h
      simp only [hfull, cond_true]
      split at h
      . obtain ⟨htd, h⟩ := B4 h
        simp only [htd, cond_true]
        split at h
        . obtain ⟨hrb, h⟩ := B4 h
          simp only [hrb, cond_true]
          exact G8.2 ⟨(G8.1 h).1, hk _ (Evo.setS _ _ _) (G8.1 h).2⟩
        . exact h
        . split at h
          . exact D5n h hk
          . split at h
            . rename_i hb1
              refine hk _ ?_ h
              simp only [E6l, Option.bind_eq_bind, bind_some] at hb1
              obtain ⟨_, _, _, _, _, _, _, _, hb1⟩ := hb1
              obtain ⟨_, hb1⟩ := E6 hb1
              cases hb1
              exact Evo.setS _ _ _
            . exact h
          . exact h
      . exact h
    . exact h
theorem D0w : ∀ {ops : List Oper} {k k' : St -> Prop} {st : St}, D8v cx sp all ops k st -> (∀ st', Evo st st' -> k st' -> k' st') -> D8v cx sp all ops k' st
  | [], _, _, st, h, hk => hk st (Evo.refl st) h
  | _ :: _, _, _, _, h, hk => C3b h fun st1 e1 h1 => D0w h1 fun st2 e2 h2 => hk st2 (e1.trans e2) h2
end
inductive CSh where
  | val (t : Ty)
  | own (t : Ty) (e : TypeId)
@[reducible] def CSh.den : CSh -> Type
  | .val t => t.den
  | .own t _ => List t.den
@[reducible] def shD : List CSh -> Type -> Type
  | [], T => T
  | c :: r, T => c.den × shD r T
inductive LT where
  | row (t : Ty) (e : TypeId)
  | map (ka : Bool) (kt : Ty) (va : Bool) (vt : Ty)
  | rows (t : Ty) (e e' : TypeId)
  | iter (ka : Bool) (kt : Ty) (va : Bool) (vt : Ty)
@[reducible] def LT.den : LT -> Type
  | .row t _ => List t.den
  | .map _ kt _ vt => List (kt.den × vt.den)
  | .rows t _ _ => List (List t.den)
  | .iter _ kt _ vt => List (kt.den × vt.den)
def LT.wf : (l : LT) -> l.den -> Prop
  | .row t _, x => (Ty.sl t).wf x
  | .map ka kt va vt, x => (Ty.mp ka kt va vt).wf x
  | .rows t _ _, x => (Ty.sl (Ty.sl t)).wf x
  | .iter ka kt va vt, x => (Ty.mp ka kt va vt).wf x
def LT.lc : (l : LT) -> l.den -> LC
  | .row t e, x => .row t e x
  | .map ka kt va vt, x => .map ka kt va vt x
  | .rows t e e', x => .rows t e e' x [] none
  | .iter ka kt va vt, x => .iter ka kt va vt x none
def G1x (st : St) (k : Nat) : (l : LT) -> Option l.den
  | .row t e => E0p st t e k
  | .map ka kt va vt => mapM st ka kt va vt k
  | .rows t e e' => E1r st t e e' k
  | .iter ka kt va vt => match st.L k with
    | .iter ka' kt' va' vt' es _ => if h : Ty.mp ka' kt' va' vt' = Ty.mp ka kt va vt then some (h ▸ (show (Ty.mp ka' kt' va' vt').den from es) : (Ty.mp ka kt va vt).den) else none
    | _ => none
@[reducible] def F6i : List (Nat × LT) -> Type
  | [] => Unit
  | (_, t) :: r => t.den × F6i r
structure Ann where
  keepS : List Nat
  keepL : List Nat
  modS : List (Nat × Bool × List CSh)
  boxL : List (Nat × TypeId × List CSh)
  rowL : List (Nat × LT)
def G4b : List (Nat × Bool × List CSh) -> List CSh -> List CSh
  | [], r => r
  | (_, _, cs) :: l, r => cs ++ G4b l r
def G3w : List (Nat × TypeId × List CSh) -> List CSh
  | [] => []
  | (_, _, cs) :: l => cs ++ G3w l
def Ann.shs (A : Ann) : List CSh := G4b A.modS (G3w A.boxL)
@[reducible] def Ann.den (A : Ann) : Type := shD A.shs (F6i A.rowL)
def CSh.wf : (c : CSh) -> c.den -> Prop
  | .val t, x => t.wf x
  | .own t _, l => (Ty.sl t).wf l
def shW : (shs : List CSh) -> {T : Type} -> (T -> Prop) -> shD shs T -> Prop
  | [], _, q, x => q x
  | c :: r, _, q, x => c.wf x.1 /\ shW r q x.2
def G2x : (l : List (Nat × LT)) -> F6i l -> Prop
  | [], _ => True
  | (_, t) :: r, x => t.wf x.1 /\ G2x r x.2
def Ann.wf (A : Ann) (p : A.den) : Prop := shW A.shs (G2x A.rowL) p
def E6o (st : St) : List (Nat × Bool × List CSh) -> List C -> Option (List C)
  | [], r => some r
  | (s, agg, shs) :: l, r => match st.S s with
    | .one ⟨a, cs⟩ => bif (a == agg) && Nat.beq cs.length shs.length then (E6o st l r).map (cs ++ ·) else none
    | _ => none
def E5h (st : St) : List (Nat × TypeId × List CSh) -> Option (List C)
  | [] => some []
  | (k, T, shs) :: l => match st.L k with
    | .box T' cs => bif Nat.beq T' T && Nat.beq cs.length shs.length then (E5h st l).map (cs ++ ·) else none
    | _ => none
def Ann.cells (A : Ann) (st : St) : Option (List C) := (E5h st A.boxL).bind (E6o st A.modS)
def settleSh : St -> List CSh -> List C -> St
  | st, .val _ :: r, c :: cs => settleSh (settle st [c]) r cs
  | st, .own _ _ :: r, _ :: cs => settleSh st r cs
  | st, _, _ => st
def B2j (st : St) : (shs : List CSh) -> {T : Type} -> T -> List C -> Option (shD shs T)
  | [], _, x, [] => some x
  | .val t :: r, _, x, c :: cs => (E8z t c).bind fun y => (B2j st r x cs).map fun z => (y, z)
  | .own t e :: r, _, x, c :: cs => (D4b st t e c).bind fun y => (B2j st r x cs).map fun z => (y, z)
  | _, _, _, _ => none
def F9v (st : St) : (l : List (Nat × LT)) -> Option (F6i l)
  | [] => some ()
  | (k, t) :: r => (G1x st k t).bind fun y => (F9v st r).map fun z => (y, z)
def A3n : List CSh -> List C -> List Nat
  | .own _ _ :: r, .row k :: cs => k :: A3n r cs
  | _ :: r, _ :: cs => A3n r cs
  | _, _ => []
def F1s {α : Type} (d : α) (l : List (Nat × α)) : List Nat -> List (Nat × α)
  | [] => []
  | s :: r => (s, find d s l) :: F1s d l r
def gath (A : Ann) (st : St) : Option (St × A.den) := do
  let cs <- A.cells st
  let st1 := settleSh st A.shs cs
  let cs1 <- A.cells st1
  let tl <- F9v st1 A.rowL
  let p <- B2j st1 A.shs tl cs1
  bif C8q (A.keepL ++ (A3n A.shs cs1 ++ ((A.rowL.map fun x => x.1) ++ (A.boxL.map fun x => x.1)))) then some (st1, p) else none
def G3o : (t : Ty) -> t.den -> C
  | .ptr t, x => .pf t x 0
  | t, x => .val t x
def placeSh : (shs : List CSh) -> {T : Type} -> shD shs T -> St -> List C × St × T
  | [], _, x, st => ([], st, x)
  | .val t :: r, _, x, st => (fun p => (G3o t x.1 :: p.1, p.2)) (placeSh r x.2 st)
  | .own t e :: r, _, x, st => (fun p => (C.row st.nx :: p.1, p.2)) (placeSh r x.2 (st.newL (.row t e x.1)))
def putRows : (l : List (Nat × LT)) -> F6i l -> St -> St
  | [], _, st => st
  | (k, t) :: r, x, st => putRows r x.2 (st.setL k (t.lc x.1))
def putS : List (Nat × Bool × List CSh) -> List C -> St -> List C × St
  | [], cs, st => (cs, st)
  | (s, agg, shs) :: r, cs, st => putS r (cs.drop shs.length) (st.setS s (.one ⟨agg, cs.take shs.length⟩))
def putB : List (Nat × TypeId × List CSh) -> List C -> St -> St
  | [], _, st => st
  | (k, T, shs) :: r, cs, st => putB r (cs.drop shs.length) (st.setL k (.box T (cs.take shs.length)))
def kept (A : Ann) (st : St) : St := ⟨F1s (0, .dead) st.sl A.keepS, F1s (0, .none) st.lc A.keepL, st.nx, st.ct + 1, st.nm, st.fr⟩
def reflect (A : Ann) (st0 : St) (p : A.den) : St :=
  (fun q => (fun r => putB A.boxL r.1 r.2) (putS A.modS q.1 (putRows A.rowL q.2.2 q.2.1))) (placeSh A.shs p (kept A st0))
def E4t (n : Nat) (g : Nat) : Bool := Nat.ble 1 g && Nat.ble g n
def F6a (A : Ann) (st0 st : St) : Bool := (A.keepS.all fun s => E4t st0.ct (st.eS s).1) && (A.keepL.all fun k => E4t st0.ct (st.eL k).1) && (A.rowL.all fun x => Nat.blt x.1 st0.nx) && (A.boxL.all fun x => Nat.blt x.1 st0.nx) && G2r st0.ct st.fr
def D5b (A : Ann) (st0 : St) (J : A.den -> Prop) (st : St) : Prop :=
  match gath A st with
  | some (st1, p) => bif F6a A st0 st1 then J p else False
  | none => False
section
variable {za : Zn} {w0 w : World} {Z : Nat -> Prop} {B : Nat -> Value} {st st0 : St} {E : Env}
theorem Evo.settleSh : ∀ (shs : List CSh) (cs : List C) (st : St), Evo st (settleSh st shs cs)
  | .val _ :: r, c :: cs, st => (Evo.settle st [c]).trans (Evo.settleSh r cs _)
  | .own _ _ :: r, _ :: cs, st => Evo.settleSh r cs st
  | [], _, st => Evo.refl st
  | .val _ :: _, [], st => Evo.refl st
  | .own _ _ :: _, [], st => Evo.refl st
theorem Rel.settleSh : ∀ {shs : List CSh} {cs : List C} {st : St} {Z : Nat -> Prop}, Rel za w0 st E w Z B -> ∃ Z', Rel za w0 (settleSh st shs cs) E w Z' B
  | .val _ :: r, c :: cs, st, Z, h => by
    obtain ⟨Z1, h1⟩ := h.settle [c]
    exact Rel.settleSh (shs := r) (cs := cs) h1
  | .own _ _ :: r, _ :: cs, st, Z, h => Rel.settleSh (shs := r) (cs := cs) h
  | [], _, st, Z, h => ⟨Z, h⟩
  | .val _ :: _, [], st, Z, h => ⟨Z, h⟩
  | .own _ _ :: _, [], st, Z, h => ⟨Z, h⟩
theorem Evo.putRows : ∀ (l : List (Nat × LT)) (x : F6i l) (st : St), Evo st (putRows l x st)
  | [], _, st => Evo.refl st
  | (k, t) :: r, x, st => (Evo.setL st k _).trans (Evo.putRows r x.2 _)
theorem Evo.placeSh : ∀ (shs : List CSh) {T : Type} (x : shD shs T) (st : St), Evo st (placeSh shs x st).2.1
  | [], _, _, st => Evo.refl st
  | .val t :: r, _, x, st => Evo.placeSh r x.2 st
  | .own t e :: r, _, x, st => (Evo.newL st (.row t e x.1)).trans (Evo.placeSh r x.2 _)
theorem Evo.putS : ∀ (l : List (Nat × Bool × List CSh)) (cs : List C) (st : St), Evo st (putS l cs st).2
  | [], _, st => Evo.refl st
  | (s, agg, shs) :: r, cs, st => (Evo.setS st s _).trans (Evo.putS r _ _)
theorem Evo.putB : ∀ (l : List (Nat × TypeId × List CSh)) (cs : List C) (st : St), Evo st (putB l cs st)
  | [], _, st => Evo.refl st
  | (k, T, shs) :: r, cs, st => (Evo.setL st k _).trans (Evo.putB r _ _)
theorem Evo.reflect (A : Ann) (st0 : St) (p : A.den) : Evo (kept A st0) (reflect A st0 p) :=
  (Evo.placeSh A.shs p _).trans ((Evo.putRows _ _ _).trans ((Evo.putS _ _ _).trans (Evo.putB _ _ _)))
theorem C1p {α : Type} (d : α) (l : List (Nat × α)) (q : Nat) : ∀ ks : List Nat, find d q (F1s d l ks) = if q ∈ ks then find d q l else d
  | [] => rfl
  | s :: r => by
    simp only [F1s, find, C1p d l q r]
    cases hb : Nat.beq s q with
    | true => have := Nat.eq_of_beq_eq_true hb; subst this; simp
    | false =>
      have : q ≠ s := fun h => by subst h; simp at hb
      simp [this]
theorem E4n (A : Ann) (st : St) (s : Nat) : (kept A st).eS s = if s ∈ A.keepS then st.eS s else (0, .dead) := C1p ..
theorem E4m (A : Ann) (st : St) (k : Nat) : (kept A st).eL k = if k ∈ A.keepL then st.eL k else (0, .none) := C1p ..
theorem E2m {A : Ann} {p : A.den} {s : Nat} (h0 : ((reflect A st0 p).eS s).1 ≠ 0) (h1 : ((reflect A st0 p).eS s).1 <= st0.ct) : (reflect A st0 p).eS s = st0.eS s := by
  have e := (Evo.reflect A st0 p).s s h0 (Nat.le_succ_of_le h1)
  rw [e] at h0 ⊢
  rw [E4n] at h0 ⊢
  split
  . rfl
  . rename_i hn; rw [if_neg hn] at h0; exact absurd rfl h0
theorem E0d {A : Ann} {p : A.den} {k : Nat} (h0 : ((reflect A st0 p).eL k).1 ≠ 0) (h1 : ((reflect A st0 p).eL k).1 <= st0.ct) : (reflect A st0 p).eL k = st0.eL k := by
  have e := (Evo.reflect A st0 p).l k h0 (Nat.le_succ_of_le h1)
  rw [e] at h0 ⊢
  rw [E4m] at h0 ⊢
  split
  . rfl
  . rename_i hn; rw [if_neg hn] at h0; exact absurd rfl h0
structure G2e (n : Nat) (st : St) : Prop where
  nms : st.nm = n /\ n <= st.nx
  refs : ∀ s, E5f st.nx (st.S s)
  refl : ∀ k, E2v st.nx (st.L k)
  fresh : ∀ k, st.nx <= k -> st.L k = .none
  frf : F5y st.nx st.fr
theorem Rel.pure (h : Rel za w0 st E w Z B) : G2e za.n st := ⟨h.nms, h.refs, h.refl, h.fresh, h.frf⟩
structure B6l (za : Zn) (w0 : World) (st2 : St) (E : Env) (w : World) (Z : Nat -> Prop) (B : Nat -> Value) (used : List Nat) (st : St) (BX : Nat -> Value) : Prop where
  rel : Rel za w0 st E w Z BX
  own : ∀ j b, D8 w (BX j) (st.L j) b -> ∃ q, q ∈ used /\ D8 w (B q) (st2.L q) b
theorem B6l.disj {st2 : St} {used : List Nat} {BX : Nat -> Value} (h2 : Rel za w0 st2 E w Z B) (c : B6l za w0 st2 E w Z B used st BX) {q : Nat} (hq : q ∉ used) : ∀ k b, D8 w (B q) (st2.L q) b -> ¬ D8 w (BX k) (st.L k) b := fun k b hb hb' => by
  obtain ⟨q', hu, hl'⟩ := c.own k b hb'
  exact h2.disj q q' b (fun hh => hq (hh ▸ hu)) hb hl'
end
section
variable {za : Zn} {w0 w : World} {Z : Nat -> Prop} {B : Nat -> Value} {st st0 st2 : St} {E : Env}
theorem Rel.setSame (h : Rel za w0 st E w Z B) (s : Nat) {x : DV} (hx : RD w Z B E x (E s)) (hr : E5f st.nx x) : Rel za w0 (st.setS s x) E w Z B := by
  have e : upd E s (E s) = E := by
    funext t
    by_cases ht : t = s
    . subst ht; exact E3 _ _ _
    . exact D4 _ _ _ _ ht
  have := h.setS s (x := x) (v := E s) (by rw [e]; exact hx) hr
  rwa [e] at this
theorem G1q {A : Ann} (h2 : Rel za w0 st2 E w Z B) (pk : G2e za.n st0) (hS : ∀ s ∈ A.keepS, st2.eS s = st0.eS s) (hL : ∀ k ∈ A.keepL, st2.eL k = st0.eL k) (hF : st2.fr = st0.fr) : B6l za w0 st2 E w Z B A.keepL (kept A st0) B := by
  have eS : ∀ s, (kept A st0).S s = if s ∈ A.keepS then st2.S s else .dead := fun s => by
    show ((kept A st0).eS s).2 = _
    rw [E4n]
    split
    . rename_i hs; rw [<- hS s hs]; rfl
    . rfl
  have eL : ∀ k, (kept A st0).L k = if k ∈ A.keepL then st2.L k else .none := fun k => by
    show ((kept A st0).eL k).2 = _
    rw [E4m]
    split
    . rename_i hs; rw [<- hL k hs]; rfl
    . rfl
  have e0S : ∀ s, (kept A st0).S s = if s ∈ A.keepS then st0.S s else .dead := fun s => by
    show ((kept A st0).eS s).2 = _
    rw [E4n]; split <;> rfl
  have e0L : ∀ k, (kept A st0).L k = if k ∈ A.keepL then st0.L k else .none := fun s => by
    show ((kept A st0).eL s).2 = _
    rw [E4m]; split <;> rfl
  have lv : ∀ k b, D8 w (B k) ((kept A st0).L k) b -> k ∈ A.keepL /\ D8 w (B k) (st2.L k) b := fun k b hk => by
    rw [eL] at hk
    split at hk
    . rename_i hm; exact ⟨hm, hk⟩
    . exact hk.elim
  refine ⟨⟨h2.ext, h2.zlt, fun s => ?_, fun k => ?_, fun k k' b hne l1 l2 => h2.disj k k' b hne (lv k b l1).2 (lv k' b l2).2, fun s => ?_, fun k => ?_, fun k hk => ?_, h2.bone, h2.zin, pk.nms, h2.bfix, ⟨h2.mrk.1, fun k b hk hl => h2.mrk.2 k b hk (lv k b hl).2⟩, (by have := h2.frs; rw [hF] at this; exact this), pk.frf⟩, fun j b hj => ⟨j, (lv j b hj).1, (lv j b hj).2⟩⟩
  . rw [eS]; split
    . exact h2.slots s
    . trivial
  . rw [eL]; split
    . exact h2.locs k
    . trivial
  . rw [e0S]; split
    . exact pk.refs s
    . trivial
  . rw [e0L]; split
    . exact pk.refl k
    . trivial
  . rw [e0L]; split
    . exact pk.fresh k hk
    . rfl
theorem C7z (h2 : Rel za w0 st2 E w Z B) {t : Ty} {e : TypeId} {c : C} {l : List t.den} {v : Value} (hc : RC w Z B c v) (hr : D4b st2 t e c = some l) :
    ∃ xs, w.ownsRow w0.heap.size e t.size v l.length xs /\ Q3 (Rep t w Z) xs l /\ (∀ b, v.ownBlock = some b -> ¬ Z b) /\ ((∃ q, c = .row q /\ live (st2.L q) /\ v = B q) \/ (root v = none /\ ∀ q, c ≠ .row q)) := by
  unfold D4b at hr
  split at hr
  . rename_i q
    split at hr
    . rename_i t' e' l' hq
      split at hr
      . rename_i heq; subst heq
        obtain ⟨he, hr⟩ := E6 hr
        cases hr
        simp only [Bool.and_eq_true] at he
        have hqn := Nat.le_of_ble_eq_true he.2
        have hee := Nat.eq_of_beq_eq_true he.1
        subst hee
        have hL := h2.locs q
        rw [hq] at hL
        obtain ⟨xs, h1, h3, h4⟩ := hL
        have hv : v = B q := hc
        subst hv
        have hup : ∀ b, (B q).ownBlock = some b -> w0.heap.size <= b := fun b hb => by
          rcases (h4 b hb).1 with g | g
          . exact g.2
          . have := h2.nms.1; omega
        exact ⟨xs, F6d h1 hup, h3, fun b hb => (h4 b hb).2, .inl ⟨q, rfl, by rw [hq]; trivial, rfl⟩⟩
      . cases hr
    . cases hr
  . obtain ⟨hn, hr⟩ := E6 hr
    cases hr
    have hv : v = .slice none 0 0 := by rw [hc.1]; exact B1u hn
    subst hv
    exact ⟨[], World.ownsRow_nil _ _ _ _, rfl, fun b hb => (by cases hb), .inr ⟨rfl, fun q hq => (by cases hq)⟩⟩
  . cases hr
theorem F9j {t : Ty} {v : Value} {x : t.den} (h : Rep t w Z [v] x) : RC w Z B (G3o t x) v := by
  cases t with
  | ptr t =>
    obtain ⟨b, o, ec, e, r⟩ := h
    simp only [List.cons.injEq, and_true] at e
    exact ⟨b, o, ec, by rw [e]; rfl, r⟩
  | _ => exact h
theorem F4a {n : Nat} {t : Ty} {x : t.den} : B0s n (G3o t x) := by cases t <;> trivial
theorem D6j (hb0 : za.b0 = 0) (h2 : Rel za w0 st2 E w Z B) : ∀ {shs : List CSh} {T : Type} {tl : T} {cs : List C} {vs : List Value} {p : shD shs T} {st : St} {BX : Nat -> Value} {used : List Nat}, B6l za w0 st2 E w Z B used st BX -> RCs w Z B cs vs -> B2j st2 shs tl cs = some p -> (∀ q ∈ A3n shs cs, q ∉ used) -> (A3n shs cs).Nodup ->
    ∃ BX', B6l za w0 st2 E w Z B (A3n shs cs ++ used) (placeSh shs p st).2.1 BX' /\ RCs w Z BX' (placeSh shs p st).1 vs /\ (∀ c ∈ (placeSh shs p st).1, B0s (placeSh shs p st).2.1.nx c) /\ (∀ k, k < st.nx -> BX' k = BX k) /\ st.nx <= (placeSh shs p st).2.1.nx /\ (placeSh shs p st).2.2 = tl
  | [], _, tl, [], vs, p, st, BX, used, c, hv, hp, _, _ => by
    simp only [B2j, Option.some.injEq] at hp
    exact ⟨BX, c, hv, by simp [placeSh], fun _ _ => rfl, Nat.le_refl _, hp.symm⟩
  | [], _, _, _ :: _, _, _, _, _, _, _, _, hp, _, _ => by cases hp
  | .val t :: r, _, _, [], _, _, _, _, _, _, _, hp, _, _ => by cases hp
  | .own t e :: r, _, _, [], _, _, _, _, _, _, _, hp, _, _ => by cases hp
  | .val t :: r, T, tl, c0 :: cs, vs, p, st, BX, used, c, ⟨v, vs', e, hv1, hv2⟩, hp, hu, hn => by
    simp only [B2j, bind_some, Option.map_eq_some_iff] at hp
    obtain ⟨y, hy, z, hz, rfl⟩ := hp
    have hid : A3n (.val t :: r) (c0 :: cs) = A3n r cs := by cases c0 <;> rfl
    rw [hid] at hu hn ⊢
    obtain ⟨BX', g1, g2, g3, g4, g5, g6⟩ := D6j hb0 h2 c hv2 hz hu hn
    subst e
    refine ⟨BX', g1, ⟨v, vs', rfl, F9j (D5g hv1 hy), g2⟩, fun q hq => ?_, g4, g5, g6⟩
    rcases List.mem_cons.1 hq with rfl | hq
    . exact F4a
    . exact g3 q hq
  | .own t e0 :: r, T, tl, c0 :: cs, vs, p, st, BX, used, c, ⟨v, vs', e, hv1, hv2⟩, hp, hu, hn => by
    simp only [B2j, bind_some, Option.map_eq_some_iff] at hp
    obtain ⟨l, hl, z, hz, rfl⟩ := hp
    subst e
    obtain ⟨xs, o1, o2, o3, o4⟩ := C7z h2 hv1 hl
    have hv1' : v.oneCell' = true := by rcases o1.2 with ⟨hv, _⟩ | ⟨_, _, _, hv, _⟩ <;> rw [hv] <;> rfl
    have hro := H0 o1
    have key : ∃ used', B6l za w0 st2 E w Z B used' (st.newL (.row t e0 l)) (upd BX st.nx v) /\ (∀ q ∈ A3n r cs, q ∉ used') /\ (A3n r cs).Nodup /\ (∀ q, q ∈ A3n (.own t e0 :: r) (c0 :: cs) ++ used ↔ q ∈ A3n r cs ++ used') := by
      have mk : ∀ used', (∀ q ∈ used, q ∈ used') -> (∀ b, root v = some b -> ∃ q, q ∈ used' /\ D8 w (B q) (st2.L q) b) -> (∀ k b, root v = some b -> ¬ D8 w (BX k) (st.L k) b) -> B6l za w0 st2 E w Z B used' (st.newL (.row t e0 l)) (upd BX st.nx v) := by
        intro used' hsub hq hd
        refine ⟨c.rel.new (v := v) (lc := .row t e0 l) ⟨xs, by rw [E3]; exact C7k o1 (Nat.zero_le _), o2, fun b hb => by rw [E3] at hb; exact ⟨.inl ⟨c.rel.nms.2, (World.ownsRow.lt o1 b hb).1⟩, o3 b hb⟩⟩ hd trivial hv1' (fun b _ _ => by rw [hb0]; exact Nat.zero_le _), fun j b hj => ?_⟩
        rw [St.L_newL] at hj
        by_cases hjn : j = st.nx
        . subst hjn
          rw [E3, if_pos rfl] at hj
          exact hq b hj
        . rw [if_neg hjn, D4 _ _ _ _ hjn] at hj
          obtain ⟨q, h1, h3⟩ := c.own j b hj
          exact ⟨q, hsub q h1, h3⟩
      rcases o4 with ⟨q, rfl, hlq, hvq⟩ | ⟨hnr, hnq⟩
      . have hid : A3n (.own t e0 :: r) (.row q :: cs) = q :: A3n r cs := rfl
        rw [hid] at hu hn ⊢
        have hn' := List.nodup_cons.1 hn
        refine ⟨q :: used, mk _ (fun x hx => List.mem_cons_of_mem _ hx) (fun b hb => ⟨q, by simp, D8.of hlq (by rw [<- hvq]; exact hb)⟩) (fun k b hb => ?_), fun x hx => ?_, hn'.2, fun x => by grind⟩
        . rw [hvq] at hb; exact c.disj h2 (hu q (by simp)) k b (D8.of hlq hb)
        . intro hxu
          rcases List.mem_cons.1 hxu with rfl | hxu
          . exact hn'.1 hx
          . exact hu x (List.mem_cons_of_mem _ hx) hxu
      . have hid : A3n (.own t e0 :: r) (c0 :: cs) = A3n r cs := by cases c0 <;> first | rfl | exact absurd rfl (hnq _)
        rw [hid] at hu hn ⊢
        exact ⟨used, mk _ (fun x hx => hx) (fun b hb => by rw [hnr] at hb; cases hb) (fun k b hb => by rw [hnr] at hb; cases hb), hu, hn, fun x => Iff.rfl⟩
    obtain ⟨used', c', hu', hn', hiff⟩ := key
    obtain ⟨BX', g1, g2, g3, g4, g5, g6⟩ := D6j hb0 h2 c' hv2 hz hu' hn'
    have hBn : BX' st.nx = v := by rw [g4 st.nx (Nat.lt_succ_self _), E3]
    refine ⟨BX', ⟨g1.rel, fun j b hj => ?_⟩, ⟨v, vs', rfl, hBn.symm, g2⟩, fun q hq => ?_, fun k hk => ?_, Nat.le_trans (Nat.le_succ _) g5, g6⟩
    . obtain ⟨q, h1, h3⟩ := g1.own j b hj
      exact ⟨q, (hiff q).2 h1, h3⟩
    . rcases List.mem_cons.1 hq with rfl | hq
      . exact Nat.lt_of_lt_of_le (Nat.lt_succ_self _) g5
      . exact g3 q hq
    . rw [g4 k (Nat.lt_succ_of_lt hk), D4 _ _ _ _ (Nat.ne_of_lt hk)]
end
section
variable {za : Zn} {w0 w : World} {Z : Nat -> Prop} {B : Nat -> Value} {st st0 st2 : St} {E : Env}
def D6i (E : Env) : List (Nat × Bool × List CSh) -> List Value -> List Value -> Prop
  | [], vs, vr => vs = vr
  | (s, agg, shs) :: l, vs, vr => ∃ v1 v2, vs = v1 ++ v2 /\ v1.length = shs.length /\ (agg = true -> E s = .agg v1.toArray) /\ (agg = false -> v1 = [E s]) /\ D6i E l v2 vr
def E3d (za : Zn) (w0 : World) (w : World) (Z : Nat -> Prop) (B : Nat -> Value) (st2 : St) : List (Nat × TypeId × List CSh) -> List Value -> Prop
  | [], vs => vs = []
  | (k, T, shs) :: l, vs => ∃ v1 v2, vs = v1 ++ v2 /\ v1.length = shs.length /\ live (st2.L k) /\ (∃ b, B k = .pointer (some ⟨b, 0, none⟩) /\ up za w0 k b /\ ¬ Z b /\ Blk w b v1.toArray T) /\ E3d za w0 w Z B st2 l v2
theorem E0i (h2 : Rel za w0 st2 E w Z B) : ∀ {l : List (Nat × Bool × List CSh)} {r cs : List C} {vr : List Value}, RCs w Z B r vr -> E6o st2 l r = some cs -> ∃ vs, RCs w Z B cs vs /\ D6i E l vs vr
  | [], r, cs, vr, hr, h => by cases h; exact ⟨vr, hr, rfl⟩
  | (s, agg, shs) :: l, r, cs, vr, hr, h => by
    simp only [E6o] at h
    split at h
    . rename_i a cs1 hs
      obtain ⟨hb, h⟩ := E6 h
      simp only [Option.map_eq_some_iff] at h
      obtain ⟨cs2, h3, rfl⟩ := h
      simp only [Bool.and_eq_true, beq_iff_eq] at hb
      obtain ⟨ha, hb⟩ := hb
      subst ha
      have hlen := Nat.eq_of_beq_eq_true hb
      obtain ⟨v2, h4, h5⟩ := E0i h2 hr h3
      have hv := h2.slots s
      rw [hs] at hv
      cases a with
      | true =>
        obtain ⟨v1, e, hv⟩ := hv
        exact ⟨v1 ++ v2, hv.append h4, v1, v2, rfl, by rw [<- hlen, hv.len], fun _ => e, fun hh => (by cases hh), h5⟩
      | false =>
        have hv : RCs w Z B cs1 [E s] := hv
        exact ⟨[E s] ++ v2, hv.append h4, [E s], v2, rfl, by rw [<- hlen, hv.len], fun hh => (by cases hh), fun _ => rfl, h5⟩
    . cases h
theorem E1o (h2 : Rel za w0 st2 E w Z B) : ∀ {l : List (Nat × TypeId × List CSh)} {cs : List C}, E5h st2 l = some cs -> ∃ vs, RCs w Z B cs vs /\ E3d za w0 w Z B st2 l vs
  | [], cs, h => by cases h; exact ⟨[], rfl, rfl⟩
  | (k, T, shs) :: l, cs, h => by
    simp only [E5h] at h
    split at h
    . rename_i T' cs1 hk
      obtain ⟨hb, h⟩ := E6 h
      simp only [Option.map_eq_some_iff] at h
      obtain ⟨cs2, h3, rfl⟩ := h
      simp only [Bool.and_eq_true] at hb
      have hT := Nat.eq_of_beq_eq_true hb.1
      subst hT
      have hlen := Nat.eq_of_beq_eq_true hb.2
      obtain ⟨v2, h4, h5⟩ := E1o h2 h3
      have hL := h2.locs k
      rw [hk] at hL
      obtain ⟨b, vs, e, h6, h7, h8, h9⟩ := hL
      exact ⟨vs.toList ++ v2, h9.append h4, vs.toList, v2, rfl, by rw [<- hlen, h9.len], by rw [hk]; trivial, ⟨b, e, h6, h7, by simpa using h8⟩, h5⟩
    . cases h
theorem D0a (h2 : Rel za w0 st2 E w Z B) {k : Nat} {t : LT} {x : t.den} (hl : G1x st2 k t = some x) : live (st2.L k) /\ RL (up za w0 k) w Z B k (t.lc x) /\ t.wf x := by
  cases t with
  | row t e =>
    have hk := C0g hl
    have hL := h2.locs k
    rw [hk] at hL
    refine ⟨by rw [hk]; trivial, hL, ?_⟩
    obtain ⟨xs, o1, o2, _⟩ := hL
    exact Rep.wf (A0x (Z := fun _ => True) o1 (o2.mono fun _ _ => Rep.mono (fun _ _ => trivial) (fun _ _ => rfl)) (fun _ _ => trivial))
  | map ka kt va vt =>
    have hk := F1x hl
    have hL := h2.locs k
    rw [hk] at hL
    refine ⟨by rw [hk]; trivial, hL, ?_⟩
    obtain ⟨b, ents, cl, e, _, _, hb, hm, he⟩ := hL
    exact Rep.wf (E1w (Z := fun _ => True) hb hm (he.mono (fun _ _ => trivial) (fun _ _ => rfl)) trivial)
  | rows t e e' =>
    obtain ⟨al, hk⟩ := A7g hl
    have hL := h2.locs k
    have hR := hL
    rw [hk] at hR
    have hR := hR.rowsR
    refine ⟨by rw [hk]; trivial, hR.rl fun b hb => ?_, hR.wf⟩
    have hb' : D8 w (B k) (st2.L k) b := by rw [hk]; exact (X9 fun _ _ => rfl).1 hb
    obtain ⟨a1, a2, a3⟩ := hL.root hb'
    exact ⟨a1, a3, a2⟩
  | iter ka kt va vt =>
    simp only [G1x] at hl
    cases hk : st2.L k with
    | iter ka' kt' va' vt' es cur =>
      rw [hk] at hl
      simp only at hl
      split at hl
      . rename_i hh
        cases hh
        cases hl
        have hL := h2.locs k
        rw [hk] at hL
        obtain ⟨r, e, h1, h3, h4⟩ := hL
        refine ⟨trivial, ⟨r, e, h1, h3, h4.imp (fun h => ⟨h.1, h.2.1, rfl⟩) fun ⟨m, seen, ents, cl, i1, i2, i3, i4, i5, i6⟩ => ⟨m, seen, ents, cl, i1, i2, i3, i4, i5, fun x hx => by cases hx⟩⟩, ?_⟩
        rcases h4 with ⟨_, h, _⟩ | ⟨m, seen, ents, cl, i1, i2, i3, i4, i5, i6⟩
        . rw [h]; intro x hx; cases hx
        . intro x hx
          obtain ⟨m, _, g1, g2⟩ := X4.mem i5 hx
          exact ⟨A5z.wf' (fun _ _ => Rep.wf) g1, A5z.wf' (fun _ _ => Rep.wf) g2⟩
      . cases hl
    | _ => rw [hk] at hl; cases hl
theorem RL.setB {U : Nat -> Prop} {B' : Nat -> Value} {k : Nat} {t : LT} {x : t.den} (h : RL U w Z B k (t.lc x)) (e : B' k = B k) : RL U w Z B' k (t.lc x) := by
  cases t with
  | row t e0 => obtain ⟨xs, a, b, c⟩ := h; exact ⟨xs, by rw [e]; exact a, b, by rw [e]; exact c⟩
  | map ka kt va vt => obtain ⟨b, ents, cl, a, r⟩ := h; exact ⟨b, ents, cl, e.trans a, r⟩
  | iter ka kt va vt => obtain ⟨r, a, b⟩ := h; exact ⟨r, e.trans a, b⟩
  | rows t e0 e1 =>
    obtain ⟨xs, h1, ⟨h2, h3, h4⟩, h5, h6⟩ := h
    exact ⟨xs, by rw [e]; exact h1, ⟨fun p hp => (by cases hp), h3, h4⟩, by rw [e]; exact h5, by rw [e]; exact h6⟩
theorem F8h (h2 : Rel za w0 st2 E w Z B) {k b : Nat} {t : LT} {x : t.den} (hl : G1x st2 k t = some x) (h : D8 w (B k) (t.lc x) b) : D8 w (B k) (st2.L k) b := by
  cases t with
  | row t e => exact D8.of (D0a h2 hl).1 h
  | map ka kt va vt => exact D8.of (D0a h2 hl).1 h
  | iter ka kt va vt => exact D8.of (D0a h2 hl).1 h
  | rows t e e' =>
    obtain ⟨al, hk⟩ := A7g hl
    rw [hk]
    exact (X9 fun _ _ => rfl).1 h
theorem D5c (h2 : Rel za w0 st2 E w Z B) {BX : Nat -> Value} {n0 : Nat} (hB : ∀ k, k < n0 -> BX k = B k) : ∀ {l : List (Nat × LT)} {x : F6i l} {st : St} {used : List Nat}, B6l za w0 st2 E w Z B used st BX -> n0 <= st.nx -> F9v st2 l = some x -> (∀ y ∈ l, y.1 < n0) -> (∀ y ∈ l, y.1 ∉ used) -> (l.map fun y => y.1).Nodup ->
    B6l za w0 st2 E w Z B ((l.map fun y => y.1) ++ used) (putRows l x st) BX /\ (putRows l x st).nx = st.nx
  | [], _, st, used, c, _, _, _, _, _ => ⟨c, rfl⟩
  | (k, t) :: r, x, st, used, c, hn, hp, hlt, hu, hnd => by
    simp only [F9v, bind_some, Option.map_eq_some_iff] at hp
    obtain ⟨l, hl, z, hz, rfl⟩ := hp
    have hkl := hlt (k, t) (by simp)
    have hku := hu (k, t) (by simp)
    simp only at hkl hku
    obtain ⟨hlive, hRL, _⟩ := D0a h2 hl
    have hBk : BX k = B k := hB k hkl
    simp only [List.map_cons, List.nodup_cons] at hnd
    have hft : ∀ b, D8 w (BX k) (t.lc l) b -> D8 w (B k) (st2.L k) b := fun b hb => F8h h2 hl (by rw [<- hBk]; exact hb)
    have c1 : B6l za w0 st2 E w Z B (k :: used) (st.setL k (t.lc l)) BX := by
      refine ⟨c.rel.addL (by omega) (hRL.setB hBk) (fun j b _ hb hj => ?_) (by cases t <;> first | trivial | exact fun p hp => (by cases hp)) (fun b hk hb => h2.mrk.2 k b hk (hft b hb)), fun j b hj => ?_⟩
      . exact c.disj h2 hku j b (hft b hb) hj
      . rw [St.L_setL] at hj
        by_cases hjk : j = k
        . subst hjk; rw [if_pos rfl] at hj; exact ⟨j, by simp, hft b hj⟩
        . rw [if_neg hjk] at hj
          obtain ⟨q, h1, h3⟩ := c.own j b hj
          exact ⟨q, List.mem_cons_of_mem _ h1, h3⟩
    obtain ⟨c2, hnx⟩ := D5c h2 hB c1 hn hz (fun y hy => hlt y (List.mem_cons_of_mem _ hy)) (fun y hy => by
      intro hh
      rcases List.mem_cons.1 hh with hh | hh
      . exact hnd.1 (hh ▸ List.mem_map_of_mem hy)
      . exact hu y (List.mem_cons_of_mem _ hy) hh) hnd.2
    refine ⟨⟨c2.rel, fun j b hj => ?_⟩, hnx⟩
    obtain ⟨q, h1, h3⟩ := c2.own j b hj
    refine ⟨q, ?_, h3⟩
    simp only [List.map_cons]
    grind
theorem F2u {BX : Nat -> Value} : ∀ {l : List (Nat × Bool × List CSh)} {cs : List C} {vs vr : List Value} {st : St} {used : List Nat}, B6l za w0 st2 E w Z B used st BX -> RCs w Z BX cs vs -> D6i E l vs vr -> (∀ c ∈ cs, B0s st.nx c) ->
    B6l za w0 st2 E w Z B used (putS l cs st).2 BX /\ RCs w Z BX (putS l cs st).1 vr /\ (∀ c ∈ (putS l cs st).1, B0s st.nx c) /\ (putS l cs st).2.nx = st.nx
  | [], cs, vs, vr, st, used, c, hr, hv, hf => by rw [show vs = vr from hv] at hr; exact ⟨c, hr, hf, rfl⟩
  | (s, agg, shs) :: l, cs, vs, vr, st, used, c, hr, ⟨v1, v2, e, hl, ha, hna, hv⟩, hf => by
    subst e
    have h1 := hr.take shs.length
    have h2 := hr.drop shs.length
    rw [<- hl, List.take_left] at h1
    rw [<- hl, List.drop_left] at h2
    rw [hl] at h1 h2
    have hRS : RS w Z BX ⟨agg, cs.take shs.length⟩ (E s) := by
      cases agg with
      | true => exact ⟨v1, ha rfl, h1⟩
      | false => rw [hna rfl] at h1; exact h1
    have c1 : B6l za w0 st2 E w Z B used (st.setS s (.one ⟨agg, cs.take shs.length⟩)) BX := ⟨c.rel.setSame s hRS (fun x hx => hf x (List.mem_of_mem_take hx)), c.own⟩
    have := F2u (l := l) (cs := cs.drop shs.length) c1 h2 hv (fun x hx => hf x (List.mem_of_mem_drop hx))
    exact this
theorem F1y (h2 : Rel za w0 st2 E w Z B) {BX : Nat -> Value} {n0 : Nat} (hB : ∀ k, k < n0 -> BX k = B k) : ∀ {l : List (Nat × TypeId × List CSh)} {cs : List C} {vs : List Value} {st : St} {used : List Nat}, B6l za w0 st2 E w Z B used st BX -> n0 <= st.nx -> RCs w Z BX cs vs -> E3d za w0 w Z B st2 l vs -> (∀ c ∈ cs, B0s st.nx c) -> (∀ y ∈ l, y.1 < n0) -> (∀ y ∈ l, y.1 ∉ used) -> (l.map fun y => y.1).Nodup ->
    Rel za w0 (putB l cs st) E w Z BX
  | [], _, _, st, used, c, _, _, _, _, _, _, _ => c.rel
  | (k, T, shs) :: l, cs, vs, st, used, c, hn, hr, ⟨v1, v2, e, hl, hlv, ⟨b, hBk, hb0, hnz, hblk⟩, hv⟩, hf, hlt, hu, hnd => by
    subst e
    have h1 := hr.take shs.length
    have h3 := hr.drop shs.length
    rw [<- hl, List.take_left] at h1
    rw [<- hl, List.drop_left] at h3
    rw [hl] at h1 h3
    have hkl := hlt (k, T, shs) (by simp)
    have hku := hu (k, T, shs) (by simp)
    simp only at hkl hku
    have hBX : BX k = B k := hB k hkl
    simp only [List.map_cons, List.nodup_cons] at hnd
    have hft : ∀ q, D8 w (BX k) (.box T (cs.take shs.length)) q -> D8 w (B k) (st2.L k) q := fun q hq => D8.of hlv (by rw [<- hBX]; exact hq)
    have c1 : B6l za w0 st2 E w Z B (k :: used) (st.setL k (.box T (cs.take shs.length))) BX := by
      refine ⟨c.rel.addL (by omega) ⟨b, v1.toArray, hBX.trans hBk, hb0, hnz, hblk, by simpa using h1⟩ (fun j q _ hq hj => ?_) (fun x hx => hf x (List.mem_of_mem_take hx)) (fun q hk hb => h2.mrk.2 k q hk (hft q hb)), fun j q hj => ?_⟩
      . exact c.disj h2 hku j q (hft q hq) hj
      . rw [St.L_setL] at hj
        by_cases hjk : j = k
        . subst hjk; rw [if_pos rfl] at hj; exact ⟨j, by simp, hft q hj⟩
        . rw [if_neg hjk] at hj
          obtain ⟨q', h1, h3⟩ := c.own j q hj
          exact ⟨q', List.mem_cons_of_mem _ h1, h3⟩
    have := F1y (l := l) (cs := cs.drop shs.length) h2 hB c1 hn h3 hv (fun x hx => hf x (List.mem_of_mem_drop hx)) (fun y hy => hlt y (List.mem_cons_of_mem _ hy)) (fun y hy => by
      intro hh
      rcases List.mem_cons.1 hh with hh | hh
      . exact hnd.1 (hh ▸ List.mem_map_of_mem hy)
      . exact hu y (List.mem_cons_of_mem _ hy) hh) hnd.2
    exact this
theorem D0q (h2 : Rel za w0 st2 E w Z B) : ∀ {shs : List CSh} {T : Type} {tl : T} {q : T -> Prop} {cs : List C} {vs : List Value} {p : shD shs T}, q tl -> RCs w Z B cs vs -> B2j st2 shs tl cs = some p -> shW shs q p
  | [], _, tl, q, [], vs, p, hq, _, hp => by simp only [B2j, Option.some.injEq] at hp; subst hp; exact hq
  | [], _, _, _, _ :: _, _, _, _, _, hp => by cases hp
  | .val t :: r, _, _, _, [], _, _, _, _, hp => by cases hp
  | .own t e :: r, _, _, _, [], _, _, _, _, hp => by cases hp
  | .val t :: r, _, tl, q, c :: cs, vs, p, hq, ⟨v, vs', e, h1, h3⟩, hp => by
    simp only [B2j, bind_some, Option.map_eq_some_iff] at hp
    obtain ⟨y, hy, z, hz, rfl⟩ := hp
    exact ⟨Rep.wf (D5g h1 hy), D0q h2 hq h3 hz⟩
  | .own t e :: r, _, tl, q, c :: cs, vs, p, hq, ⟨v, vs', _, h1, h3⟩, hp => by
    simp only [B2j, bind_some, Option.map_eq_some_iff] at hp
    obtain ⟨l, hl, z, hz, rfl⟩ := hp
    obtain ⟨xs, o1, o2, _⟩ := C7z h2 h1 hl
    exact ⟨Rep.wf (A0x (Z := fun _ => True) o1 (o2.mono fun _ _ => Rep.mono (fun _ _ => trivial) (fun _ _ => rfl)) (fun _ _ => trivial)), D0q h2 hq h3 hz⟩
theorem F0b (h2 : Rel za w0 st2 E w Z B) : ∀ {l : List (Nat × LT)} {x : F6i l}, F9v st2 l = some x -> G2x l x
  | [], _, _ => trivial
  | (k, t) :: r, x, hp => by
    simp only [F9v, bind_some, Option.map_eq_some_iff] at hp
    obtain ⟨l, hl, z, hz, rfl⟩ := hp
    exact ⟨(D0a h2 hl).2.2, F0b h2 hz⟩
theorem E9r {A : Ann} {p : A.den} {st1 : St} (hb0 : za.b0 = 0) (h : Rel za w0 st E w Z B) (hg : gath A st = some (st1, p)) (pk : G2e za.n st0) (hS : ∀ s ∈ A.keepS, st1.eS s = st0.eS s) (hL : ∀ k ∈ A.keepL, st1.eL k = st0.eL k) (hR : ∀ y ∈ A.rowL, y.1 < st0.nx) (hBx : ∀ y ∈ A.boxL, y.1 < st0.nx) (hF : st1.fr = st0.fr) :
    A.wf p /\ ∃ Z' B', Rel za w0 (reflect A st0 p) E w Z' B' := by
  simp only [gath, Option.bind_eq_bind, bind_some] at hg
  obtain ⟨cs0, _, cs, hcs, tl, htl, p', hp, hg⟩ := hg
  obtain ⟨hnd, hg⟩ := E6 hg
  cases hg
  obtain ⟨Z1, h2⟩ := Rel.settleSh (shs := A.shs) (cs := cs0) h
  generalize settleSh st A.shs cs0 = st2 at *
  have hnd := A4z hnd
  simp only [Ann.cells, bind_some] at hcs
  obtain ⟨cb, hcb, hcs⟩ := hcs
  obtain ⟨vb, hb1, hb2⟩ := E1o h2 hcb
  obtain ⟨vs, hs1, hs2⟩ := E0i h2 hb1 hcs
  refine ⟨D0q h2 (F0b h2 htl) hs1 hp, ?_⟩
  have c0 := G1q h2 pk hS hL hF
  rw [List.nodup_append] at hnd
  obtain ⟨n1, n2, n3⟩ := hnd
  rw [List.nodup_append] at n2
  obtain ⟨n4, n5, n6⟩ := n2
  rw [List.nodup_append] at n5
  obtain ⟨n7, n8, n9⟩ := n5
  obtain ⟨BX, g1, g2, g3, g4, g5, g6⟩ := D6j hb0 h2 c0 hs1 hp (fun q hq hk => n3 q hk q (by simp [hq]) rfl) n4
  have hB : ∀ k, k < st0.nx -> BX k = B k := g4
  have q1 := D5c h2 hB (x := (placeSh A.shs p (kept A st0)).2.2) g1 g5 (by rw [g6]; exact htl) hR (fun y hy hh => by
    rcases List.mem_append.1 hh with hh | hh
    . exact n6 y.1 hh y.1 (by simp only [List.mem_append, List.mem_map]; exact .inl ⟨y, hy, rfl⟩) rfl
    . exact n3 y.1 hh y.1 (by simp only [List.mem_append, List.mem_map]; exact .inr (.inl ⟨y, hy, rfl⟩)) rfl) n7
  have q2 := F2u (l := A.modS) q1.1 g2 hs2 (by rw [q1.2]; exact g3)
  refine ⟨Z1, BX, ?_⟩
  exact F1y h2 hB q2.1 (by rw [q2.2.2.2, q1.2]; exact g5) q2.2.1 hb2 (by rw [q2.2.2.2]; exact q2.2.2.1) hBx (fun y hy hh => by
    rcases List.mem_append.1 hh with hh | hh
    . exact n9 y.1 hh y.1 (List.mem_map_of_mem hy) rfl
    . rcases List.mem_append.1 hh with hh | hh
      . exact n6 y.1 hh y.1 (by simp only [List.mem_append, List.mem_map]; exact .inr ⟨y, hy, rfl⟩) rfl
      . exact n3 y.1 hh y.1 (by simp only [List.mem_append, List.mem_map]; exact .inr (.inr ⟨y, hy, rfl⟩)) rfl) n8
end
structure K where
  n : St -> Prop
  x : Nat -> St -> Prop
  r : St -> Prop
def K.at (k : K) : Exit -> St -> Prop
  | .normal => k.n
  | .exit i => k.x i
  | .ret => k.r
  | _ => fun _ => False
structure An where
  join : List (Nat × Ann) := []
  loop : List (Nat × Ann) := []
  plan : List (Nat × List Nat × List Nat × Bool × Pl) := []
def F6o : Code -> Option Nat
  | .region id _ _ => some id
  | .seq a b => match F6o a with
    | some i => some i
    | none => F6o b
  | .cond _ a b => match F6o a with
    | some i => some i
    | none => F6o b
  | .block _ c => F6o c
  | .loop c => F6o c
  | _ => none
def G0q (l : List (Nat × Ann)) : Option Nat -> Option Ann
  | some i => A8n i l
  | none => none
def G4h (A : Ann) (st : St) (body : (St -> Prop) -> Prop) (rest : St -> Prop) : Prop :=
  ∃ J : A.den -> Prop, body (D5b A st J) /\ ∀ p, A.wf p -> J p -> rest (reflect A st p)
def G3d (A : Ann) (st : St) (body : (St -> Prop) -> St -> Prop) : Prop :=
  match gath A st with
  | some (st1, p0) => bif (A.rowL.all fun x => Nat.blt x.1 st1.nx) && (A.boxL.all fun x => Nat.blt x.1 st1.nx) then
      (∃ (I : A.den -> Prop) (μ : A.den -> Nat), I p0 /\ ∀ p, A.wf p -> I p -> body (D5b A st1 fun p' => I p' /\ μ p' < μ p) (reflect A st1 p)) else False
  | none => False
def B7l (cx : Cx) (all : List Oper) (o : Oper) (k : St -> Prop) (st : St) : Prop :=
  match o.guard with
  | none => match C5f cx st [] o.op with
    | some (φ, v) => match o.dst with
      | some d => F6w φ (k (st.setS d v))
      | none => False
    | none => match o.op with
      | .load T x => match o.dst with
        | some d => (match E8o cx st d T x with
          | some st' => k st'
          | none => False)
        | none => False
      | _ => False
  | some (j, b) => match (all[j]?).bind (·.dst) with
    | some t => bif B2o st 20 t then (match o.dst with
      | some d => bif !(Nat.beq t d) then (match C5f cx st (gctx st 20 t b) o.op with
        | some (φ, .one s) => bif s.cs.all (G0t st.nx) then F6w (G1w (ctxP st (gctx st 20 t b)) φ) (k (st.setS d (.cnd t b s))) else False
        | _ => False) else False
      | none => False) else False
    | none => False
def V3 (cx : Cx) (sp : B6) (all : List Oper) (tails : List Nat) (n0 : Nat) (nw : Bool) : Pl -> Bool -> Bool -> (St -> Prop) -> St -> Prop
  | .done, _, _, k => k
  | .q i p, pre, t, k => fun st => match all[i]? with
    | some o => bif pre || !nw then B7l cx all o (V3 cx sp all tails n0 nw p pre t k) st else False
    | none => False
  | .p i p, pre, t, k => fun st => match all[i]? with
    | some o => bif !(G2c o.op) then B7l cx all o (V3 cx sp all tails n0 nw p pre t k) st else False
    | none => False
  | .e i p, _, t, k => fun st => match all[i]? with
    | some o => bif ((t || tails.contains i) || !(wrO sp st o) || (nw && frO n0 st o.op)) && (!nw || F7q sp n0 st o.op) then D1w cx sp all o (V3 cx sp all tails n0 nw p false (t || tails.contains i) k) st else False
    | none => False
  | .or i p q, pre, t, k => fun st =>
    (match all[i]? with
    | some o => bif ((t || tails.contains i) || !(wrO sp st o) || (nw && frO n0 st o.op)) && (!nw || F7q sp n0 st o.op) then D1w cx sp all o (V3 cx sp all tails n0 nw p false (t || tails.contains i) k) st else False
    | none => False) /\ V3 cx sp all tails n0 nw q pre t k st
def D1f (cx : Cx) (sp : B6) (an : An) : Code -> K -> St -> Prop
  | .skip, k => k.n
  | .label _, k => k.n
  | .region id ops draw, k => fun st => bif draw then (match A8n id an.plan with
      | some (heads, tails, nw, p) => bif G1l ops.toList heads tails p && cx.P.follows .mixedOrders then V3 cx sp ops.toList tails st.nx nw p true false k.n st else False
      | none => False) else D8v cx sp ops.toList ops.toList k.n st
  | .seq a b, k => fun st => match G0q an.join (F6o b) with
    | some A => G4h A st (fun j => D1f cx sp an a { k with n := j } st) (D1f cx sp an b k)
    | none => D1f cx sp an a { k with n := D1f cx sp an b k } st
  | .cond c a b, k => fun st => match (st.ev [] c).bind D9l with
    | some e => (e = true -> D1f cx sp an a k st) /\ (e = false -> D1f cx sp an b k st)
    | none => False
  | .block id c, k => D1f cx sp an c { k with x := fun i st => bif Nat.beq i id then k.n st else k.x i st }
  | .loop c, k => fun st => match G0q an.loop (F6o c) with
    | some A => G3d A st fun j => D1f cx sp an c { k with n := j }
    | none => False
  | .exit i, k => k.x i
  | .ret, k => k.r
  | _, _ => fun _ => False
section
variable {za : Zn} {w0 : World} {cx : Cx} {sp : B6} {an : An} {all : List Oper}
theorem C5l {o : Oper} {k k' : St -> Prop} {st : St} (h : B7l cx all o k st) (hk : ∀ st', Evo st st' -> k st' -> k' st') : B7l cx all o k' st := by
  unfold B7l at h ⊢
  split at h
  . split at h
    . split at h
      . exact G8.2 ⟨(G8.1 h).1, hk _ (Evo.setS _ _ _) (G8.1 h).2⟩
      . exact h
    . split at h
      . split at h
        . split at h
          . rename_i hl; exact hk _ (E0u hl) h
          . exact h
        . exact h
      . exact h
  . split at h
    . obtain ⟨hf, h⟩ := B4 h
      simp only [hf, cond_true]
      split at h
      . obtain ⟨htd, h⟩ := B4 h
        simp only [htd, cond_true]
        split at h
        . obtain ⟨hrb, h⟩ := B4 h
          simp only [hrb, cond_true]
          exact G8.2 ⟨(G8.1 h).1, hk _ (Evo.setS _ _ _) (G8.1 h).2⟩
        . exact h
      . exact h
    . exact h
theorem A0b {tails : List Nat} {n0 : Nat} {nw : Bool} : ∀ {p : Pl} {pre t : Bool} {k k' : St -> Prop} {st : St}, V3 cx sp all tails n0 nw p pre t k st -> (∀ st', Evo st st' -> k st' -> k' st') -> V3 cx sp all tails n0 nw p pre t k' st
  | .done, _, _, _, _, st, h, hk => hk st (Evo.refl st) h
  | .q i p, pre, t, _, _, st, h, hk => by
    simp only [V3] at h ⊢
    split at h
    . obtain ⟨hp, h⟩ := B4 h
      simp only [hp, cond_true] at h ⊢
      exact C5l h fun st1 e1 h1 => A0b h1 fun st2 e2 h2 => hk st2 (e1.trans e2) h2
    . exact h
  | .p i p, pre, t, _, _, st, h, hk => by
    simp only [V3] at h ⊢
    split at h
    . obtain ⟨hp, h⟩ := B4 h
      simp only [hp, cond_true]
      exact C5l h fun st1 e1 h1 => A0b h1 fun st2 e2 h2 => hk st2 (e1.trans e2) h2
    . exact h
  | .e i p, pre, t, _, _, st, h, hk => by
    simp only [V3] at h ⊢
    split at h
    . obtain ⟨hp, h⟩ := B4 h
      simp only [hp, cond_true]
      exact C3b h fun st1 e1 h1 => A0b h1 fun st2 e2 h2 => hk st2 (e1.trans e2) h2
    . exact h
  | .or i p q, pre, t, _, _, st, h, hk => by
    simp only [V3] at h ⊢
    refine ⟨?_, A0b h.2 hk⟩
    have h := h.1
    split at h
    . obtain ⟨hp, h⟩ := B4 h
      simp only [hp, cond_true]
      exact C3b h fun st1 e1 h1 => A0b h1 fun st2 e2 h2 => hk st2 (e1.trans e2) h2
    . exact h
theorem Evo.told (A : Ann) (st0 : St) (p : A.den) : Evo st0 (Vc.reflect A st0 p) :=
  ⟨Nat.le_trans (Nat.le_succ _) (Evo.reflect A st0 p).ct, fun _ h0 h1 => E2m h0 h1, fun _ h0 h1 => E0d h0 h1, (Evo.reflect A st0 p).f.le (Nat.le_succ _)⟩
theorem Evo.gath {A : Ann} {st st1 : St} {p : A.den} (h : gath A st = some (st1, p)) : Evo st st1 := by
  simp only [Vc.gath, Option.bind_eq_bind, bind_some] at h
  obtain ⟨cs0, _, cs, _, tl, _, p', _, h⟩ := h
  obtain ⟨_, h⟩ := E6 h
  cases h
  exact Evo.settleSh _ _ _
theorem C8u : ∀ {c : Code} {k k' : K} {st : St}, D1f cx sp an c k st -> (∀ e st', Evo st st' -> k.at e st' -> k'.at e st') -> D1f cx sp an c k' st := by
  intro c
  induction c with
  | skip => intro k k' st h hk; exact hk .normal st (Evo.refl st) h
  | label l => intro k k' st h hk; exact hk .normal st (Evo.refl st) h
  | region id ops draw =>
    intro k k' st h hk
    simp only [D1f] at h ⊢
    cases draw with
    | true =>
      simp only [cond_true] at h ⊢
      split at h
      . obtain ⟨hp, h⟩ := B4 h
        simp only [hp, cond_true]
        exact A0b h fun st' e => hk .normal st' e
      . exact h
    | false =>
      simp only [cond_false] at h ⊢
      exact D0w h fun st' e => hk .normal st' e
  | seq a b iha ihb =>
    intro k k' st h hk
    simp only [D1f] at h ⊢
    split at h
    . rename_i A _
      obtain ⟨J, h1, h2⟩ := h
      refine ⟨J, iha h1 fun e st' ev hh => ?_, fun p hw hJ => ihb (h2 p hw hJ) fun e st' ev hh => ?_⟩
      . cases e with
        | normal => exact hh
        | exit i => exact hk (.exit i) st' ev hh
        | ret => exact hk .ret st' ev hh
        | _ => exact hh
      . exact hk e st' ((Evo.told A st p).trans ev) hh
    . refine iha h fun e st1 e1 hh => ?_
      cases e with
      | normal => exact ihb hh fun e st2 e2 h2 => hk e st2 (e1.trans e2) h2
      | exit i => exact hk (.exit i) st1 e1 hh
      | ret => exact hk .ret st1 e1 hh
      | _ => exact hh
  | cond c a b iha ihb =>
    intro k k' st h hk
    simp only [D1f] at h ⊢
    split at h
    . exact ⟨fun e => iha (h.1 e) hk, fun e => ihb (h.2 e) hk⟩
    . exact h
  | block id c ih =>
    intro k k' st h hk
    simp only [D1f] at h ⊢
    refine ih h fun e st' ev hh => ?_
    cases e with
    | exit i =>
      simp only [K.at] at hh ⊢
      cases hb : Nat.beq i id with
      | true => simp only [hb, cond_true] at hh ⊢; exact hk .normal st' ev hh
      | false => simp only [hb, cond_false] at hh ⊢; exact hk (.exit i) st' ev hh
    | normal => exact hk .normal st' ev hh
    | ret => exact hk .ret st' ev hh
    | _ => exact hh
  | loop c ih =>
    intro k k' st h hk
    simp only [D1f] at h ⊢
    split at h
    . rename_i A _
      unfold G3d at h ⊢
      split at h
      . rename_i st1 p0 hg
        obtain ⟨hb, h⟩ := B4 h
        simp only [hb, cond_true]
        obtain ⟨I, μ, h0, h1⟩ := h
        refine ⟨I, μ, h0, fun p hw hI => ih (h1 p hw hI) fun e st' ev hh => ?_⟩
        cases e with
        | normal => exact hh
        | exit i => exact hk (.exit i) st' ((Evo.gath hg).trans ((Evo.told A st1 p).trans ev)) hh
        | ret => exact hk .ret st' ((Evo.gath hg).trans ((Evo.told A st1 p).trans ev)) hh
        | _ => exact hh
      . exact h
    . exact h
  | exit i => intro k k' st h hk; exact hk (.exit i) st (Evo.refl st) h
  | ret => intro k k' st h hk; exact hk .ret st (Evo.refl st) h
  | _ => intro k k' st h hk; exact h
theorem E0q {A : Ann} (hb0 : za.b0 = 0) {st0 st : St} {J : A.den -> Prop} {E : Env} {w : World} {Z : Nat -> Prop} {B : Nat -> Value} (h : Rel za w0 st E w Z B) (ha : D5b A st0 J st) (pk : G2e za.n st0) (ev : Evo st0 st) : ∃ p, A.wf p /\ J p /\ ∃ Z' B', Rel za w0 (reflect A st0 p) E w Z' B' := by
  unfold D5b at ha
  split at ha
  . rename_i st1 p hg
    obtain ⟨hk, ha⟩ := B4 ha
    simp only [F6a, Bool.and_eq_true, List.all_eq_true] at hk
    obtain ⟨⟨⟨⟨k1, k2⟩, k3⟩, k4⟩, k5⟩ := hk
    have e1 := ev.trans (Evo.gath hg)
    have tm : ∀ {n g : Nat}, E4t n g = true -> g ≠ 0 /\ g <= n := fun hh => by
      simp only [E4t, Bool.and_eq_true] at hh
      have a := Nat.le_of_ble_eq_true hh.1
      have b := Nat.le_of_ble_eq_true hh.2
      omega
    obtain ⟨hw, Z', B', hr⟩ := E9r hb0 h hg pk (fun s hs => e1.s s (tm (k1 s hs)).1 (tm (k1 s hs)).2) (fun q hq => e1.l q (tm (k2 q hq)).1 (tm (k2 q hq)).2) (fun y hy => B4k (k3 y hy)) (fun y hy => B4k (k4 y hy)) (e1.f.old k5)
    exact ⟨p, hw, ha, Z', B', hr⟩
  . exact ha.elim
variable (hty : R2 cx.P cx.tys = true) (hsp : D8o cx.P sp)
include hty in
theorem D3o {S : World -> Prop} {o : Oper} {k : St -> Prop} {st : St} {E : Env} {w : World} {Z : Nat -> Prop} {B : Nat -> Value} (hS : ∀ w', S w' -> (G2c o.op = true -> Ext w w')) (h : Rel za w0 st E w Z B) (hs : B7l cx all o k st) : D0o cx.P S all o (Nx za w0 k) E w := by
  obtain ⟨dst, op, ty, pos, aft, gd⟩ := o
  unfold B7l at hs
  simp only at hs hS
  split at hs
  . split at hs
    . rename_i φ v hp
      split at hs
      . rename_i d
        replace hs := G8.1 hs
        obtain ⟨u, h1, h2, h3⟩ := B9m (ty := ty) h hty (K4 E) hp hs.1
        exact .inl ⟨rfl, u, fun w' hw' => h1 w' (hS w' hw') _ _ _ _, _, _, _, h.setS d (h2 _) h3, hs.2⟩
      . exact hs.elim
    . split at hs
      . rename_i T x _
        split at hs
        . rename_i d
          split at hs
          . rename_i st' hl
            obtain ⟨u, B', h1, h2⟩ := E6i (ty := ty) h hty hl
            exact .inl ⟨rfl, u, fun w' hw' => h1 w' (hS w' hw' rfl) _ _ _ _, _, _, _, h2, hs⟩
          . exact hs.elim
        . exact hs.elim
      . exact hs.elim
  . rename_i j b
    split at hs
    . rename_i t hj
      have hfull := (B4 hs).1
      replace hs := (B4 hs).2
      split at hs
      . rename_i d
        have htd' := (B4 hs).1
        replace hs := (B4 hs).2
        have htd : t ≠ d := Nat.ne_of_beq_eq_false (by simpa using htd')
        split at hs
        . rename_i φ s hp
          obtain ⟨hrb, hs⟩ := B4 hs
          replace hs := G8.1 hs
          rw [E5k] at hs
          by_cases hw : E t = .bool b
          . have hctx := h.gctx (n := 20) hw
            obtain ⟨u, h1, h2, h3⟩ := B9m (ty := ty) h hty hctx hp (hs.1 (h.ctxP hctx))
            refine .inl ⟨E3o hj hw, u, fun w' hw' => h1 w' (hS w' hw') _ _ _ _, _, _, _, h.setS d (x := .cnd t b s) (.inl ⟨?_, h2 E⟩) h3, hs.2⟩
            rw [D4 _ _ _ _ htd]; exact hw
          . have hoff : G4 all ⟨some d, op, ty, pos, aft, some (j, b)⟩ E = false := by
              unfold G4 A0s
              simp only [hj]
              cases hEt : E t with
              | bool b' => simp only [beq_eq_false_iff_ne, ne_eq, Option.some.injEq]; intro hh; exact hw (by rw [hEt, hh])
              | _ => rfl
            refine .inr ⟨hoff, _, _, _, h.setS d (x := .cnd t b s) (.inr ⟨?_, rfl⟩) (fun c hc => E3y (List.all_eq_true.1 hrb c hc)), hs.2⟩
            rw [D4 _ _ _ _ htd]; exact hw
        . exact hs.elim
      . exact hs.elim
    . exact hs.elim
theorem D4n {P : Program} {S : World -> Prop} {o : Oper} {n n' : Env -> World -> Prop} {E : Env} {w : World} (h : D0o P S all o n E w) (hn : ∀ E', n E' w -> n' E' w) : D0o P S all o n' E w := by
  rcases h with ⟨h1, v, h2, h3⟩ | ⟨h1, h2⟩
  . exact .inl ⟨h1, v, h2, hn _ h3⟩
  . exact .inr ⟨h1, hn _ h2⟩
def RW (nw : Bool) (b0 : Nat) (w w' : World) : Prop := bif nw then (Below b0 w w' /\ True) else Ext w w'
theorem RW.of {nw : Bool} {b0 : Nat} {w w' : World} (hb : b0 <= w.heap.size) (h : Ext w w') : RW nw b0 w w' := by
  cases nw with
  | true => exact ⟨⟨h.os, h.tape, h.output, h.size, fun k hk => h.block k (Nat.lt_of_lt_of_le hk hb)⟩, h.drw⟩
  | false => exact h
theorem RW.refl (nw : Bool) (b0 : Nat) (w : World) : RW nw b0 w w := by
  cases nw with
  | true => exact ⟨Below.refl _ _, trivial⟩
  | false => exact Ext.refl _
theorem RW.trans {nw : Bool} {b0 : Nat} {a b c : World} (h : RW nw b0 a b) (h' : RW nw b0 b c) : RW nw b0 a c := by
  cases nw with
  | true => exact ⟨Below.trans h.1 h'.1, trivial⟩
  | false => exact Ext.trans h h'
include hty hsp in
theorem F2f {nw tl : Bool} {n0 : Nat} {k : St -> Prop} {o : Oper} {st : St} {E : Env} {w : World} {Z : Nat -> Prop} {B : Nat -> Value} (hk0 : nw = true -> za.k0 = n0) (hb0 : nw = false -> za.b0 = 0) (h : Rel za w0 st E w Z B)
    (hm : ((tl || !(wrO sp st o) || (nw && frO n0 st o.op)) && (!nw || F7q sp n0 st o.op)) = true) (hs : D1w cx sp all o k st) : U9 cx.P all o (fun E' w' => (tl = true \/ RW nw za.b0 w w') /\ Nx za w0 k E' w') E w := by
  simp only [Bool.and_eq_true, Bool.or_eq_true, Bool.not_eq_true'] at hm
  obtain ⟨hm, hom⟩ := hm
  have hmk : za.b0 = 0 \/ F7q sp za.k0 st o.op = true := by
    cases hn : nw with
    | false => exact .inl (hb0 hn)
    | true => rw [hn] at hom; exact .inr (by rw [hk0 hn]; simpa using hom)
  rcases hm with (hm | hm) | hm
  . refine O3 ?_ (D8h h hmk hty hsp hs)
    rintro E' w' ⟨_, n⟩
    exact ⟨.inl hm, n⟩
  . refine O3 ?_ (D8h h hmk hty hsp hs)
    rintro E' w' ⟨hx, n⟩
    exact ⟨.inr (RW.of h.mrk.1 (hx hm)), n⟩
  . obtain ⟨hnw, hm⟩ := hm
    subst hnw
    obtain ⟨dst, op, ty, pos, aft, gd⟩ := o
    have hfr := hm
    unfold frO at hm
    split at hm
    . rename_i T p v heq
      simp only at heq
      subst heq
      unfold D1w at hs
      simp only at hs
      cases gd with
      | none =>
        simp only [C5f] at hs
        cases dst with
        | none =>
          simp only at hs
          split at hs
          . rename_i φ st' hst
            refine O3 ?_ (D9y h hty hst (G8.1 hs).1 (G8.1 hs).2 rfl)
            rintro E' w' ⟨hb, n⟩
            exact ⟨.inr (hb (by rw [hk0 rfl]; exact hfr)), n⟩
          . exact hs.elim
        | some d => exact hs.elim
      | some jb =>
        obtain ⟨j, b⟩ := jb
        simp only [C5f] at hs
        split at hs
        . obtain ⟨_, hs⟩ := B4 hs
          split at hs
          . obtain ⟨_, hs⟩ := B4 hs
            exact hs.elim
          . exact hs.elim
        . exact hs.elim
    . cases hm
include hty hsp in
theorem A2c {za0 : Zn} {tails : List Nat} {n0 : Nat} {nw : Bool} {k : St -> Prop} (hk0 : nw = true -> za.k0 = n0) (hb0 : nw = false -> za.b0 = 0) (hun : ∀ {st : St} {E : Env} {w : World} {Z : Nat -> Prop} {B : Nat -> Value}, Rel za w0 st E w Z B -> Rel za0 w0 st E w Z B) : ∀ {p : Pl} {pre t : Bool} {st : St} {E : Env} {w : World} {Z : Nat -> Prop} {B : Nat -> Value}, (nw = true -> pre = true -> za.b0 = w.heap.size) -> Rel za w0 st E w Z B -> V3 cx sp all tails n0 nw p pre t k st -> F2x cx.P (RW nw za.b0) all tails (Nx za0 w0 k) p t E w
  | .done, _, _, _, _, _, _, _, _, h, hs => ⟨_, _, _, hun h, hs⟩
  | .q i p, pre, t, st, E, w, Z, B, hp, h, hs => by
    simp only [V3] at hs
    split at hs
    . rename_i o ho
      obtain ⟨hpre, hs⟩ := B4 hs
      refine ⟨o, ho, D4n (D3o hty (fun w' hw' _ => ?_) h hs) ?_⟩
      . cases nw with
        | false => exact hw'
        | true =>
          have hw' : Below za.b0 w w' /\ True := hw'
          rw [hp rfl (by simpa using hpre)] at hw'
          exact ⟨hw'.1, hw'.2⟩
      . rintro E' ⟨st', Z', B', h', hk⟩
        exact A2c hk0 hb0 hun hp h' hk
    . exact hs.elim
  | .p i p, pre, t, st, E, w, Z, B, hp, h, hs => by
    simp only [V3] at hs
    split at hs
    . rename_i o ho
      obtain ⟨hm, hs⟩ := B4 hs
      refine ⟨o, ho, D4n (D3o hty (fun w' _ hh => by rw [hh] at hm; cases hm) h hs) ?_⟩
      rintro E' ⟨st', Z', B', h', hk⟩
      exact A2c hk0 hb0 hun hp h' hk
    . exact hs.elim
  | .e i p, pre, t, st, E, w, Z, B, hp, h, hs => by
    simp only [V3] at hs
    split at hs
    . rename_i o ho
      obtain ⟨hm, hs⟩ := B4 hs
      refine ⟨o, ho, O3 ?_ (F2f hty hsp hk0 hb0 (tl := t || tails.contains i) h hm hs)⟩
      rintro E' w' ⟨ht', st', Z', B', h', hk⟩
      exact ⟨ht', A2c hk0 hb0 hun (fun _ hh => by cases hh) h' hk⟩
    . exact hs.elim
  | .or i p q, pre, t, st, E, w, Z, B, hp, h, hs => by
    simp only [V3] at hs
    refine ⟨?_, A2c hk0 hb0 hun hp h hs.2⟩
    have hs := hs.1
    split at hs
    . rename_i o ho
      obtain ⟨hm, hs⟩ := B4 hs
      refine ⟨o, ho, O3 ?_ (F2f hty hsp hk0 hb0 (tl := t || tails.contains i) h hm hs)⟩
      rintro E' w' ⟨ht', st', Z', B', h', hk⟩
      exact ⟨ht', A2c hk0 hb0 hun (fun _ hh => by cases hh) h' hk⟩
    . exact hs.elim
theorem Rel.marked {st : St} {E : Env} {w : World} {Z : Nat -> Prop} {B : Nat -> Value} (h : Rel za w0 st E w Z B) : Rel { za with k0 := st.nx, b0 := w.heap.size } w0 st E w Z B :=
  ⟨h.ext, h.zlt, h.slots, h.locs, h.disj, h.refs, h.refl, h.fresh, h.bone, h.zin, h.nms, h.bfix, ⟨Nat.le_refl _, fun k b hk hl => by
    have : st.L k = .none := h.fresh k hk
    rw [this] at hl; exact hl.elim⟩, h.frs, h.frf⟩
theorem Rel.unmark {k0 b0 : Nat} (hb0 : za.b0 = 0) {st : St} {E : Env} {w : World} {Z : Nat -> Prop} {B : Nat -> Value} (h : Rel { za with k0 := k0, b0 := b0 } w0 st E w Z B) : Rel za w0 st E w Z B :=
  ⟨h.ext, h.zlt, h.slots, h.locs, h.disj, h.refs, h.refl, h.fresh, h.bone, h.zin, h.nms, h.bfix, ⟨by rw [hb0]; exact Nat.zero_le _, fun k b _ _ => by rw [hb0]; exact Nat.zero_le _⟩, h.frs, h.frf⟩
end
end Go.Vc
