/- Structs that are built, choices, and all operations that only compute together. -/
import Derived.Test.YtedfiemhfpcggaaVc6
namespace Go.Vc
open Go Go.RowKit Go.Gw
section
variable {za : Zn} {w0 w : World} {Z : Nat → Prop} {B : Nat → Value} {st : St} {E : Env} {P : Program}
def Parts (w : World) (Z : Nat → Prop) (B : Nat → Value) : List (Nat × List C) → List (Nat × Value) → Prop
  | [], vs => vs = []
  | (i, ps) :: r, vs => ∃ v vs', vs = (i, v) :: vs' ∧ RCs w Z B ps v.cells.toList ∧ Parts w Z B r vs'
theorem fill_ok {place : Nat → Option (Nat × Nat)} : ∀ {parts : List (Nat × List C)} {vals : List (Nat × Value)} {cs cs' : List C} {vs : Array Value}, Parts w Z B parts vals → RCs w Z B cs vs.toList → fillC place cs parts = some cs' → ∃ vs', Instr.fill place vs vals = some vs' ∧ RCs w Z B cs' vs'.toList
  | [], _, cs, cs', vs, hp, h, hf => by
    rw [show _ = _ from hp]
    simp only [fillC, Option.some.injEq] at hf
    subst hf
    exact ⟨vs, rfl, h⟩
  | (i, ps) :: r, _, cs, cs', vs, ⟨v, vals, e, h1, h2⟩, h, hf => by
    subst e
    simp only [fillC] at hf
    cases hpl : place i with
    | none => simp [hpl] at hf
    | some q =>
      obtain ⟨off, sz⟩ := q
      simp only [hpl] at hf
      cases hb : Nat.beq ps.length sz && Nat.ble (off + sz) cs.length with
      | false => simp [hb] at hf
      | true =>
        simp only [hb, cond_true] at hf
        simp only [Bool.and_eq_true] at hb
        have hl1 : ps.length = sz := Nat.eq_of_beq_eq_true hb.1
        have hl2 : off + sz ≤ cs.length := Nat.le_of_ble_eq_true hb.2
        have hsz : v.cells.size = sz := by rw [← hl1, h1.len]; simp
        have hcv : cs.length = vs.size := by rw [h.len]; simp
        have hfold := splice_foldl off v.cells.toList 0 vs (by simp; omega)
        simp only [Nat.add_zero] at hfold
        generalize hc' : (v.cells.toList.zipIdx 0).foldl (fun cs (x : Value × Nat) => cs.setIfInBounds (off + x.2) x.1) vs = vs1 at hfold
        have hr : RCs w Z B (cs.take off ++ ps ++ cs.drop (off + sz)) vs1.toList := by
          rw [hfold]
          have hvl : v.cells.toList.length = sz := by simpa using hsz
          rw [hvl]
          exact ((h.take off).append h1).append (h.drop (off + sz))
        obtain ⟨vs', h3, h4⟩ := fill_ok h2 hr hf
        refine ⟨vs', ?_, h4⟩
        unfold Instr.fill
        simp only [hpl]
        rw [if_neg (by simp; omega)]
        rw [← h3, ← hc', ← Array.foldl_toList]
        simp
theorem fillC_mem {place : Nat → Option (Nat × Nat)} {Q : C → Prop} : ∀ {parts : List (Nat × List C)} {cs cs' : List C}, (∀ x ∈ parts, ∀ c ∈ x.2, Q c) → (∀ c ∈ cs, Q c) → fillC place cs parts = some cs' → ∀ c ∈ cs', Q c
  | [], cs, cs', _, h, hf => by
    simp only [fillC, Option.some.injEq] at hf
    subst hf; exact h
  | (i, ps) :: r, cs, cs', hp, h, hf => by
    simp only [fillC] at hf
    cases hpl : place i with
    | none => simp [hpl] at hf
    | some q =>
      simp only [hpl] at hf
      cases hb : Nat.beq ps.length q.2 && Nat.ble (q.1 + q.2) cs.length with
      | false => simp [hb] at hf
      | true =>
        simp only [hb, cond_true] at hf
        refine fillC_mem (fun x hx => hp x (List.mem_cons_of_mem _ hx)) ?_ hf
        intro c hc
        simp only [List.mem_append] at hc
        rcases hc with (hc | hc) | hc
        · exact h c (List.mem_of_mem_take hc)
        · exact hp (i, ps) (by simp) c hc
        · exact h c (List.mem_of_mem_drop hc)
/-- the parts of a literal -/
def evParts (st : St) (ctx : Ctx) : List (Nat × Operand) → Option (List (Nat × List C))
  | [] => some []
  | (i, x) :: r => match st.ev ctx x with
    | some s => bif s.cs.all notDead then (evParts st ctx r).map fun l => (i, s.cs) :: l else none
    | none => none
theorem RS.cells (h : Rel za w0 st E w Z B) {s : SV} {v : Value} (hs : RS w Z B s v) (hd : s.cs.all notDead = true) : RCs w Z B s.cs v.cells.toList := by
  obtain ⟨a, cs⟩ := s
  cases a with
  | true => obtain ⟨vs, e, hs⟩ := hs; subst e; exact hs
  | false =>
    have hs : RCs w Z B cs [v] := hs
    match cs, hs with
    | [c], hs' =>
      obtain ⟨u, us, e, h1, h2⟩ := hs'
      cases e
      have hone := RC.one h (by simpa using hd) h1
      have : v.cells = #[v] := by cases v <;> simp [Value.cells, Value.oneCell'] at hone ⊢
      rw [this]; exact ⟨v, [], rfl, h1, h2⟩
    | [], hs' => cases hs'
    | c :: c' :: r, hs' => obtain ⟨u, us, e, h1, ⟨_, _, e2, _⟩⟩ := hs'; cases e; cases e2
theorem evParts_ok (h : Rel za w0 st E w Z B) {ctx : Ctx} (hc : CtxOk E ctx) : ∀ {parts : List (Nat × Operand)} {l : List (Nat × List C)}, evParts st ctx parts = some l → Parts w Z B l (parts.map fun x => (x.1, Gw.ev E x.2)) ∧ ∀ x ∈ l, ∀ c ∈ x.2, refC st.nx c
  | [], l, hl => by cases hl; exact ⟨rfl, by simp⟩
  | (i, x) :: r, l, hl => by
    simp only [evParts] at hl
    cases hv : st.ev ctx x with
    | none => simp [hv] at hl
    | some s =>
      simp only [hv] at hl
      cases hd : s.cs.all notDead with
      | false => simp only [hd, cond_false] at hl; cases hl
      | true =>
        simp only [hd, cond_true] at hl
        cases hr : evParts st ctx r with
        | none => simp [hr] at hl
        | some l' =>
          simp [hr] at hl
          subst hl
          obtain ⟨h1, h2⟩ := h.ev hc hv
          obtain ⟨h3, h4⟩ := evParts_ok h hc hr
          refine ⟨⟨Gw.ev E x, _, rfl, RS.cells h h1 hd, h3⟩, fun y hy => ?_⟩
          rcases List.mem_cons.1 hy with rfl | hy
          · exact h2
          · exact h4 y hy
def zeroCs (t : Ty) : List C := (zeroV t).map constC
theorem zeroOk_spec {T : TypeId} {t : Ty} (h : zeroOk P T t = true) : ∃ z, zeroT P T = some z ∧ z.cells.toList = zeroV t := by
  unfold zeroOk at h
  split at h
  · rename_i z hz
    split at h
    · rename_i hzc; exact ⟨z, hz, by rw [zc_spec hzc]; simp⟩
    · cases h
  · cases h
theorem build_ok (h : Rel za w0 st E w Z B) {ctx : Ctx} (hc : CtxOk E ctx) {T ty : TypeId} {t : Ty} {parts : List (Nat × Operand)} {l : List (Nat × List C)} {cs : List C} {pl : List (Nat × Nat)} (hz : zeroOk P T t = true) (hp : placesT P T = some pl)
    (hl : evParts st ctx parts = some l) (hf : fillC (fun i => pl[i]?) (zeroCs t) l = some cs) : POk P st E w Z B ty (.build T parts.toArray) (.one ⟨true, cs⟩) := by
  obtain ⟨z, hz1, hz2⟩ := zeroOk_spec hz
  obtain ⟨h1, h2⟩ := evParts_ok h hc hl
  have h3 := constCs_ok (w := w) (Z := Z) (B := B) (n := st.nx) (zeroV t)
  obtain ⟨vs', h4, h5⟩ := fill_ok (vs := z.cells) h1 (by rw [hz2]; exact h3.1) hf
  exact ⟨.agg vs', fun w' _ => y_build vs' hz1 hp h4, fun _ => ⟨vs'.toList, by simp, h5⟩, fillC_mem h2 h3.2 hf⟩
theorem build_arr_ok (h : Rel za w0 st E w Z B) {ctx : Ctx} (hc : CtxOk E ctx) {T ty e : TypeId} {t : Ty} {len sz : Nat} {parts : List (Nat × Operand)} {l : List (Nat × List C)} {cs : List C} (hz : zeroOk P T t = true) (hT : P.underlying T = some (.array len e)) (hs : sizeT P e sz = true)
    (hl : evParts st ctx parts = some l) (hf : fillC (fun i => some (i * sz, sz)) (zeroCs t) l = some cs) : POk P st E w Z B ty (.build T parts.toArray) (.one ⟨true, cs⟩) := by
  obtain ⟨z, hz1, hz2⟩ := zeroOk_spec hz
  obtain ⟨h1, h2⟩ := evParts_ok h hc hl
  have h3 := constCs_ok (w := w) (Z := Z) (B := B) (n := st.nx) (zeroV t)
  obtain ⟨vs', h4, h5⟩ := fill_ok (vs := z.cells) h1 (by rw [hz2]; exact h3.1) hf
  exact ⟨.agg vs', fun w' _ => y_build_arr vs' hz1 hT hs h4, fun _ => ⟨vs'.toList, by simp, h5⟩, fillC_mem h2 h3.2 hf⟩

/-! ### Functions -/
def capL : List SV → Option (List Nat)
  | [] => some []
  | ⟨false, [.box k 0]⟩ :: r => (capL r).map (k :: ·)
  | _ => none
def evL (st : St) (ctx : Ctx) : List Operand → Option (List SV)
  | [] => some []
  | x :: r => match st.ev ctx x with
    | some s => (evL st ctx r).map (s :: ·)
    | none => none
theorem evL_ok (h : Rel za w0 st E w Z B) {ctx : Ctx} (hc : CtxOk E ctx) : ∀ {xs : List Operand} {ss : List SV}, evL st ctx xs = some ss → RSs w Z B ss (xs.map (Gw.ev E)) ∧ ∀ s ∈ ss, refS st.nx s
  | [], ss, hs => by cases hs; exact ⟨rfl, by simp⟩
  | x :: r, ss, hs => by
    simp only [evL] at hs
    cases hv : st.ev ctx x with
    | none => simp [hv] at hs
    | some s =>
      simp only [hv] at hs
      cases hr : evL st ctx r with
      | none => simp [hr] at hs
      | some l =>
        simp [hr] at hs
        subst hs
        obtain ⟨h1, h2⟩ := h.ev hc hv
        obtain ⟨h3, h4⟩ := evL_ok h hc hr
        refine ⟨⟨_, _, rfl, h1, h3⟩, fun y hy => ?_⟩
        rcases List.mem_cons.1 hy with rfl | hy
        · exact h2
        · exact h4 y hy
theorem capL_ok {n : Nat} : ∀ {ss : List SV} {ks : List Nat} {vs : List Value}, RSs w Z B ss vs → (∀ s ∈ ss, refS n s) → capL ss = some ks → vs = ks.map B ∧ ∀ k ∈ ks, k < n
  | [], ks, vs, h, _, hk => by cases hk; exact ⟨h, by simp⟩
  | s :: r, ks, vs, ⟨v, vs', e, h1, h2⟩, hr, hk => by
    unfold capL at hk
    split at hk
    · rename_i heq; cases heq
    · rename_i k r' heq
      cases heq
      cases hr' : capL r with
      | none => simp [hr'] at hk
      | some l =>
        simp [hr'] at hk
        subst hk
        obtain ⟨h3, h4⟩ := capL_ok h2 (fun s hs => hr s (List.mem_cons_of_mem _ hs)) hr'
        obtain ⟨_, _, e1, ⟨b, hb, hv⟩, _⟩ := h1
        cases e1
        have hkn := hr ⟨false, [.box k 0]⟩ (by simp) (.box k 0) (by simp)
        refine ⟨by rw [e, h3, hv, ← hb]; rfl, fun q hq => ?_⟩
        rcases List.mem_cons.1 hq with rfl | hq
        · exact hkn
        · exact h4 q hq
    · cases hk
theorem mkf_ok (h : Rel za w0 st E w Z B) {ctx : Ctx} (hc : CtxOk E ctx) {ty : TypeId} {f : FuncId} {caps : List Operand} {ss : List SV} {ks : List Nat} (h1 : evL st ctx caps = some ss) (h2 : capL ss = some ks) :
    POk P st E w Z B ty (.makeFunc (.func f) #[] caps.toArray) (.one ⟨false, [.fn f ks]⟩) := by
  obtain ⟨h3, h4⟩ := evL_ok h hc h1
  obtain ⟨h5, h6⟩ := capL_ok h3 h4 h2
  exact pok1 (fun w' _ => y_mkf h5) rfl h6
/-! ### Choices -/
def pickC (e : Bool) : C → C → Option C
  | .val t x, .val t' y => if h : t' = t then some (.val t (sel e x (h ▸ y))) else none
  | _, _ => none
theorem pickC_ok {e : Bool} {c1 c2 c : C} {v1 v2 : Value} (h : pickC e c1 c2 = some c) (h1 : e = true → RC w Z B c1 v1) (h2 : e = false → RC w Z B c2 v2) : RC w Z B c (bif e then v1 else v2) ∧ ∀ n, refC n c := by
  unfold pickC at h
  split at h
  · split at h
    · rename_i t x t' y heq
      subst heq; cases h
      refine ⟨?_, fun _ => trivial⟩
      cases e with
      | true => exact h1 rfl
      | false => exact h2 rfl
    · cases h
  · cases h
end
end Go.Vc
