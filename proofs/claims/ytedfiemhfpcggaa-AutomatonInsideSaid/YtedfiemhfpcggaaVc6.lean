/- Slices of slices, conversions, structs, choices. -/
import Derived.Test.YtedfiemhfpcggaaVc5
namespace Go.Vc
open Go Go.RowKit Go.Gw
section
variable {za : Zn} {w0 w : World} {Z : Nat → Prop} {B : Nat → Value} {st : St} {E : Env} {P : Program}
theorem y_slice {T e ty : TypeId} {x : Operand} {lo hi : Option Operand} {a : Option Addr} {len cap size l h : Nat} (hx : Gw.ev E x = .slice a len cap) (ht : sliceT P T e size = true)
    (hlo : match lo with | none => l = 0 | some o => ∃ k, Gw.ev E o = .int k (l : Int)) (hhi : match hi with | none => h = len | some o => ∃ k, Gw.ev E o = .int k (h : Int)) (hlh : l ≤ h) (hhc : h ≤ cap) (w : World) :
    Gw.Yields P E ty (.slice T x lo hi none) w (.slice (if cap = l then a else a.map (·.add (l * size))) (h - l) (cap - l)) w := fun _ _ _ _ => by
  obtain ⟨hu, hz⟩ := sliceT_spec ht
  have h3 := Gw.run_sizeOf (P := P) (w := w) hz
  have b1 : (l : Int) ≤ (h : Int) := by omega
  have b2 : (h : Int) ≤ (cap : Int) := by omega
  have hb : (Instr.sliceBounds true len cap (lo.map (Gw.ev E)) (hi.map (Gw.ev E)) none).run P w = .ok (l, h, cap) w := by
    unfold Instr.sliceBounds
    cases hi with
    | none =>
      simp only at hhi; subst hhi
      cases lo with
      | none => simp only at hlo; subst hlo; simp [go_sem]
      | some o => obtain ⟨k, ho⟩ := hlo; simp [Instr.sliceBound, asIntOf, ho, b1, hlh, go_sem]
    | some o' =>
      obtain ⟨k', ho'⟩ := hhi
      cases lo with
      | none => simp only at hlo; subst hlo; simp [Instr.sliceBound, asIntOf, ho', b2, hhc, go_sem]
      | some o => obtain ⟨k, ho⟩ := hlo; simp [Instr.sliceBound, asIntOf, ho, ho', b1, b2, hlh, hhc, go_sem]
  simp only [execOp, hx]
  unfold Instr.sliceAt Instr.slice
  simp only [Sem.run_bind, run_underlying hu, Result.andThen_ok, Option.map_none, hb, h3, Sem.run_pure]
def OptOk (E : Env) : Option Operand → Option Int → Prop
  | none, i => i = none
  | some o, i => ∃ k j, i = some j ∧ Gw.ev E o = .int k j
theorem slice_ok {T ty e : TypeId} {x : Operand} {lo hi : Option Operand} {loI hiI : Option Int} {c c' : C} {φ : Option Prop} (hx : RC w Z B c (Gw.ev E x)) (hc : sliceC loI hiI c = some (φ, c')) (hφ : okP φ)
    (hlo : OptOk E lo loI) (hhi : OptOk E hi hiI)
    (ht : ∀ t y, c' = .val (.sl t) y → sliceT P T e t.size = true) : POk P st E w Z B ty (.slice T x lo hi none) (.one ⟨false, [c']⟩) := by
  unfold sliceC at hc
  split at hc
  · rename_i t l
    cases hc
    have hsl := ht t _ rfl
    obtain ⟨h0, h1, h2⟩ := hφ
    obtain ⟨a, cap, he, hcap, hmx, hnn, hh⟩ := hx
    simp only [List.cons.injEq, and_true] at he
    generalize hL : loI.getD 0 = L at *
    generalize hH : hiI.getD (l.length : Int) = H at *
    have hl2 : ((l.take H.toNat).drop L.toNat).length = H.toNat - L.toNat := by simp; omega
    refine pok1 (fun w' _ => y_slice (l := L.toNat) (h := H.toNat) he hsl ?_ ?_ (by omega) (by omega) w') ?_ trivial
    · cases lo with
      | none => rw [show loI = none from hlo] at hL; simp at hL; simp only; omega
      | some o => obtain ⟨k, i, e1, e2⟩ := hlo; subst e1; simp at hL; subst hL; exact ⟨k, by rw [e2]; congr 1; omega⟩
    · cases hi with
      | none => rw [show hiI = none from hhi] at hH; simp at hH; simp only; omega
      | some o => obtain ⟨k, i, e1, e2⟩ := hhi; subst e1; simp at hH; subst hH; exact ⟨k, by rw [e2]; congr 1; omega⟩
    · refine ⟨_, _, by rw [hl2], by rw [hl2]; omega, by omega, fun hz => ?_, ?_⟩
      · split at hz
        · omega
        · have := hnn (by simpa using hz); omega
      by_cases hemp : H.toNat = L.toNat
      · left; exact List.eq_nil_of_length_eq_zero (by rw [hl2]; omega)
      · right
        rcases hh with hh | ⟨b, o, ec, ha, hz, hcells, heach⟩
        · subst hh; simp at h2; omega
        · subst ha
          have e1 := Each.drop (fun _ _ h => Rep.length h) L.toNat (Each.take (fun _ _ h => Rep.length h) H.toNat heach)
          refine ⟨b, o + L.toNat * t.size, (ec.take (H.toNat * t.size)).drop (L.toNat * t.size), ?_, hz, ?_, e1⟩
          · rw [if_neg (by omega), Option.map_some, add_lit]
          · have hx1 := cells_sub hcells 0 (H.toNat * t.size)
            rw [List.drop_zero, Nat.add_zero] at hx1
            have hx2 := cells_sub hx1 (L.toNat * t.size) ((ec.take (H.toNat * t.size)).drop (L.toNat * t.size)).length
            rwa [List.take_length] at hx2
  · cases hc
/-! ### Conversions, signs -/
def intT (P : Program) (T : TypeId) (k : IntKind) : Bool := match P.underlying T with | some (.int k') => decide (k = k') | _ => false
theorem intT_spec {T : TypeId} {k : IntKind} (h : intT P T k = true) : P.underlying T = some (.int k) := by
  unfold intT at h; split at h
  · rename_i k' hk; have := of_decide_eq_true h; subst this; exact hk
  · cases h
theorem conv_ok {T T' ty : TypeId} {x : Operand} {k k' : IntKind} {a : Int} (hx : RC w Z B (.val (.int k) a) (Gw.ev E x)) (h1 : ∃ d, P.underlying T = some d) (h2 : intT P T' k' = true) : POk P st E w Z B ty (.convert T T' x) (.one ⟨false, [.val (.int k') (k'.wrap a)]⟩) := by
  obtain ⟨hx, _⟩ := hx
  simp only [List.cons.injEq, and_true] at hx
  obtain ⟨d, hd⟩ := h1
  have hu := intT_spec h2
  refine pok1 (v := .int k' (k'.wrap a)) (fun w' _ => ?_) ⟨rfl, wrap_inR _ _⟩ trivial
  intro _ _ _ _
  simp [execOp, convert, hx, run_underlying hd, run_underlying hu, Conv.intToInt, go_sem]
def unC (op : UnOp) : C → Option C
  | .val .bool b => match op with
    | .not => some (.val .bool (!b))
    | _ => none
  | .val (.int k) a => match op with
    | .neg => some (.val (.int k) (k.wrap (-a)))
    | .xor => some (.val (.int k) (k.wrap (BitVec.ofInt k.bits (if k.signed then -1 else k.max) ^^^ BitVec.ofInt k.bits a).toNat))
    | _ => none
  | _ => none
theorem un_ok {op : UnOp} {T ty : TypeId} {x : Operand} {c c' : C} (hx : RC w Z B c (Gw.ev E x)) (h : unC op c = some c') : POk P st E w Z B ty (.unOp op T x) (.one ⟨false, [c']⟩) := by
  unfold unC at h
  split at h
  · split at h
    · cases h
      rename_i b _
      have hx : Gw.ev E x = .bool b := by simpa [RC, Rep] using hx
      exact pok1 (fun w' _ => y_not hx) rfl trivial
    · cases h
  · obtain ⟨hx, _⟩ := hx
    simp only [List.cons.injEq, and_true] at hx
    split at h
    · cases h
      exact pok1 (fun w' _ => y_neg hx) ⟨rfl, wrap_inR _ _⟩ trivial
    · cases h
      refine pok1 (v := .int _ _) (fun w' _ _ _ _ _ => by simp [execOp, hx, Op.unary, Op.intBits, go_sem]) ⟨rfl, wrap_inR _ _⟩ trivial
    · cases h
  · cases h
/-! ### A struct is built -/
def fillC (place : Nat → Option (Nat × Nat)) : List C → List (Nat × List C) → Option (List C)
  | cs, [] => some cs
  | cs, (i, ps) :: r => match place i with
    | none => none
    | some (off, sz) => bif Nat.beq ps.length sz && Nat.ble (off + sz) cs.length then fillC place (cs.take off ++ ps ++ cs.drop (off + sz)) r else none
def notDead : C → Bool
  | .dead => false
  | _ => true
theorem Rep.one1 {t : Ty} {v : Value} {x : t.den} (h : Rep t w Z [v] x) : v.oneCell' = true := Rep.oneCell h v (by simp)
theorem RC.one (h : Rel za w0 st E w Z B) {c : C} {v : Value} (hd : notDead c = true) (hr : RC w Z B c v) : v.oneCell' = true := by
  cases c with
  | val t x => exact Rep.one1 hr
  | row k => rw [show v = _ from hr]; exact h.bone k
  | box k off => obtain ⟨b, _, e⟩ := hr; rw [e]; rfl
  | elp k sz i off => obtain ⟨b, _, _, _, _, e⟩ := hr; rw [e]; rfl
  | pf t x off => obtain ⟨b, _, _, e, _⟩ := hr; rw [e]; rfl
  | mp k => rw [show v = _ from hr]; exact h.bone k
  | fn f caps => rw [show v = _ from hr]; rfl
  | fv _ _ _ _ _ => obtain ⟨_, _, e, _⟩ := hr; rw [e]; rfl
  | raw v0 => rw [hr.1]; exact hr.2
  | dead => cases hd
end
end Go.Vc
