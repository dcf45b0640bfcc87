/- Packing and unpacking of values; arithmetic. -/
import Derived.Test.YtedfiemhfpcggaaVc3
namespace Go.Vc
open Go Go.RowKit Go.Gw

/-! ### A value as cells -/
def explode : (t : Ty) → t.den → List C
  | .pair a b, x => explode a x.1 ++ explode b x.2
  | .unit, _ => []
  | .int k, x => [.val (.int k) x]
  | .bool, x => [.val .bool x]
  | .str, x => [.val .str x]
  | .sl t, x => [.val (.sl t) x]
  | .ptr t, x => [.pf t x 0]
  | .mp ka kt va vt, x => [.val (.mp ka kt va vt) x]
def asTy (t : Ty) : C → Option t.den
  | .val t' x => if h : t' = t then some (h ▸ x) else none
  | .raw (.slice none 0 0) => match t with
    | .sl _ => some []
    | _ => none
  | .raw (.map none) => match t with
    | .mp _ _ _ _ => some []
    | _ => none
  | .pf t' x 0 => if h : Ty.ptr t' = t then some (h ▸ (show (Ty.ptr t').den from x)) else none
  | _ => none
def pack : (t : Ty) → List C → Option (t.den × List C)
  | .pair a b, cs => (pack a cs).bind fun x => (pack b x.2).map fun y => ((x.1, y.1), y.2)
  | .unit, cs => some ((), cs)
  | .int k, c :: r => (asTy (.int k) c).map fun x => (x, r)
  | .bool, c :: r => (asTy .bool c).map fun x => (x, r)
  | .str, c :: r => (asTy .str c).map fun x => (x, r)
  | .sl t, c :: r => (asTy (.sl t) c).map fun x => (x, r)
  | .ptr t, c :: r => (asTy (.ptr t) c).map fun x => (x, r)
  | .mp ka kt va vt, c :: r => (asTy (.mp ka kt va vt) c).map fun x => (x, r)
  | _, _ => none
def packS (agg : Bool) (t : Ty) (s : SV) : Option t.den :=
  bif s.agg == agg then (match pack t s.cs with | some (x, []) => some x | _ => none) else none

section
variable {w : World} {Z : Nat → Prop} {B : Nat → Value} {n : Nat}
theorem RCs.append : ∀ {cs cs' : List C} {vs vs' : List Value}, RCs w Z B cs vs → RCs w Z B cs' vs' → RCs w Z B (cs ++ cs') (vs ++ vs')
  | [], _, _, _, h, h' => by rw [show _ = _ from h]; exact h'
  | _ :: _, _, _, vs', ⟨v, vs1, e, h1, h2⟩, h' => ⟨v, vs1 ++ vs', by rw [e]; rfl, h1, RCs.append h2 h'⟩
theorem explode_ok : ∀ {t : Ty} {cs : List Value} {x : t.den}, Rep t w Z cs x → RCs w Z B (explode t x) cs
  | .int k, _, _, h => ⟨_, [], h.1, ⟨rfl, h.2⟩, rfl⟩
  | .bool, _, _, h => ⟨_, [], h, rfl, rfl⟩
  | .str, _, _, h => ⟨_, [], h, rfl, rfl⟩
  | .unit, _, _, h => h
  | .pair a b, _, _, ⟨c1, c2, e, h1, h2⟩ => by rw [e]; exact (explode_ok h1).append (explode_ok h2)
  | .sl t, _, _, h => by
    obtain ⟨a, cap, e, r⟩ := h
    exact ⟨_, [], e, ⟨a, cap, rfl, r⟩, rfl⟩
  | .ptr t, _, _, h => by
    obtain ⟨b, o, ec, e, r⟩ := h
    exact ⟨_, [], e, ⟨b, o, ec, rfl, r⟩, rfl⟩
  | .mp ka kt va vt, _, _, h => by
    rcases h with ⟨e, h⟩ | ⟨b, es, cl, e, h⟩
    · exact ⟨_, [], e, .inl ⟨rfl, h⟩, rfl⟩
    · exact ⟨_, [], e, .inr ⟨b, es, cl, rfl, h⟩, rfl⟩
theorem explode_ref : ∀ {t : Ty} {x : t.den}, ∀ c ∈ explode t x, refC n c
  | .int k, _, c, h => by simp [explode] at h; subst h; trivial
  | .bool, _, c, h => by simp [explode] at h; subst h; trivial
  | .str, _, c, h => by simp [explode] at h; subst h; trivial
  | .unit, _, c, h => by simp [explode] at h
  | .pair a b, x, c, h => by
    simp only [explode, List.mem_append] at h
    rcases h with h | h
    · exact explode_ref c h
    · exact explode_ref c h
  | .sl t, _, c, h => by simp [explode] at h; subst h; trivial
  | .ptr t, _, c, h => by simp [explode] at h; subst h; trivial
  | .mp _ _ _ _, _, c, h => by simp [explode] at h; subst h; trivial
theorem asTy_ok {t : Ty} {c : C} {x : t.den} {v : Value} (h : RC w Z B c v) (ha : asTy t c = some x) : Rep t w Z [v] x := by
  unfold asTy at ha
  split at ha
  · rename_i t' x'
    split at ha
    · rename_i e; subst e; cases ha; exact h
    · cases ha
  · split at ha
    · cases ha
      rw [show v = _ from h.1]
      exact ⟨none, 0, rfl, Nat.le_refl _, Nat.zero_le _, fun _ => rfl, .inl rfl⟩
    · cases ha
  · split at ha
    · cases ha
      rw [show v = _ from h.1]
      exact .inl ⟨rfl, rfl⟩
    · cases ha
  · rename_i t' x'
    split at ha
    · rename_i e; subst e; cases ha
      obtain ⟨b, o, ec, e, hb, hc, hr⟩ := h
      exact ⟨b, o, ec, by rw [e]; rfl, hb, hc, hr⟩
    · cases ha
  · cases ha
theorem pack_ok : ∀ {t : Ty} {cs r : List C} {vs : List Value} {x : t.den}, RCs w Z B cs vs → pack t cs = some (x, r) → ∃ v1 v2, vs = v1 ++ v2 ∧ Rep t w Z v1 x ∧ RCs w Z B r v2 := by
  have one : ∀ (t : Ty) {cs r : List C} {vs : List Value} {x : t.den} (c : C), RCs w Z B (c :: cs) vs → (asTy t c).map (fun x => (x, cs)) = some (x, r) → ∃ v1 v2, vs = v1 ++ v2 ∧ Rep t w Z v1 x ∧ RCs w Z B r v2 := by
    intro t cs r vs x c h hp
    obtain ⟨v, vs', e, h1, h2⟩ := h
    cases ha : asTy t c with
    | none => simp [ha] at hp
    | some y =>
      simp [ha] at hp
      obtain ⟨rfl, rfl⟩ := hp
      exact ⟨[v], vs', e, asTy_ok h1 ha, h2⟩
  intro t
  induction t with
  | pair a b iha ihb =>
    intro cs r vs x h hp
    simp only [pack] at hp
    cases h1 : pack a cs with
    | none => simp [h1] at hp
    | some y =>
      simp only [h1, Option.bind_some] at hp
      cases h2 : pack b y.2 with
      | none => simp [h2] at hp
      | some z =>
        simp [h2] at hp
        obtain ⟨rfl, rfl⟩ := hp
        obtain ⟨v1, v2, e, r1, r2⟩ := iha h (by rw [h1])
        obtain ⟨v3, v4, e', r3, r4⟩ := ihb r2 (by rw [h2])
        exact ⟨v1 ++ v3, v4, by rw [e, e']; simp, ⟨v1, v3, rfl, r1, r3⟩, r4⟩
  | unit => intro cs r vs x h hp; simp [pack] at hp; subst hp; exact ⟨[], vs, rfl, rfl, h⟩
  | int k => intro cs r vs x h hp; cases cs with
    | nil => simp [pack] at hp
    | cons c cs => exact one _ c h hp
  | bool => intro cs r vs x h hp; cases cs with
    | nil => simp [pack] at hp
    | cons c cs => exact one _ c h hp
  | str => intro cs r vs x h hp; cases cs with
    | nil => simp [pack] at hp
    | cons c cs => exact one _ c h hp
  | sl t _ => intro cs r vs x h hp; cases cs with
    | nil => simp [pack] at hp
    | cons c cs => exact one _ c h hp
  | ptr t _ => intro cs r vs x h hp; cases cs with
    | nil => simp [pack] at hp
    | cons c cs => exact one _ c h hp
  | mp ka kt va vt _ _ => intro cs r vs x h hp; cases cs with
    | nil => simp [pack] at hp
    | cons c cs => exact one _ c h hp
theorem pack_all {t : Ty} {cs : List C} {vs : List Value} {x : t.den} (h : RCs w Z B cs vs) (hp : pack t cs = some (x, [])) : Rep t w Z vs x := by
  obtain ⟨v1, v2, e, h1, h2⟩ := pack_ok h hp
  rw [show v2 = [] from h2, List.append_nil] at e
  rw [e]; exact h1
theorem packS_ok {a : Bool} {t : Ty} {s : SV} {v : Value} {x : t.den} (h : RS w Z B s v) (hp : packS a t s = some x) : RepV a t w Z v x := by
  obtain ⟨sa, cs⟩ := s
  unfold packS at hp
  cases he : (sa == a) with
  | false => simp [he] at hp
  | true =>
    simp only [he, cond_true] at hp
    have : sa = a := by simpa using he
    subst this
    split at hp
    · rename_i y hy
      cases hp
      cases sa with
      | true => obtain ⟨vs, e, h⟩ := h; exact ⟨vs, e, pack_all h hy⟩
      | false => exact pack_all (vs := [v]) h hy
    · cases hp
theorem RepV.explode {a : Bool} {t : Ty} {v : Value} {x : t.den} (h : RepV a t w Z v x) : RS w Z B ⟨a, explode t x⟩ v := by
  cases a with
  | true => obtain ⟨cs, e, h⟩ := h; exact ⟨cs, e, explode_ok h⟩
  | false => exact explode_ok (cs := [v]) h
theorem RCs.len : ∀ {cs : List C} {vs : List Value}, RCs w Z B cs vs → cs.length = vs.length
  | [], _, h => by rw [show _ = _ from h]; rfl
  | _ :: _, _, ⟨v, vs', e, _, h2⟩ => by rw [e, List.length_cons, List.length_cons, RCs.len h2]
theorem RCs.drop : ∀ {cs : List C} {vs : List Value} (i : Nat), RCs w Z B cs vs → RCs w Z B (cs.drop i) (vs.drop i)
  | cs, vs, 0, h => h
  | [], _, i + 1, h => by rw [show _ = _ from h]; simp; rfl
  | _ :: _, _, i + 1, ⟨v, vs', e, _, h2⟩ => by rw [e]; simp only [List.drop_succ_cons]; exact RCs.drop i h2
theorem RCs.take : ∀ {cs : List C} {vs : List Value} (i : Nat), RCs w Z B cs vs → RCs w Z B (cs.take i) (vs.take i)
  | cs, vs, 0, h => by simp; rfl
  | [], _, i + 1, h => by rw [show _ = _ from h]; simp; rfl
  | _ :: _, _, i + 1, ⟨v, vs', e, h1, h2⟩ => by rw [e]; simp only [List.take_succ_cons]; exact ⟨v, _, rfl, h1, RCs.take i h2⟩
end

/-! ### Arithmetic -/
def intBin (op : BinOp) (k : IntKind) (a b : Int) : Option (Option Prop × C) :=
  match op with
  | .add => some (none, .val (.int k) (k.wrap (a + b)))
  | .sub => some (none, .val (.int k) (k.wrap (a - b)))
  | .mul => some (none, .val (.int k) (k.wrap (a * b)))
  | .quo => some (some (b ≠ 0), .val (.int k) (k.wrap (a.tdiv b)))
  | .rem => some (some (b ≠ 0), .val (.int k) (a.tmod b))
  | .and => some (none, .val (.int k) (k.wrap (BitVec.ofInt k.bits a &&& BitVec.ofInt k.bits b).toNat))
  | .or => some (none, .val (.int k) (k.wrap (BitVec.ofInt k.bits a ||| BitVec.ofInt k.bits b).toNat))
  | .xor => some (none, .val (.int k) (k.wrap (BitVec.ofInt k.bits a ^^^ BitVec.ofInt k.bits b).toNat))
  | .eql => some (none, .val .bool (decide (a = b)))
  | .neq => some (none, .val .bool (decide (a ≠ b)))
  | .lss => some (none, .val .bool (decide (a < b)))
  | .leq => some (none, .val .bool (decide (a ≤ b)))
  | .gtr => some (none, .val .bool (decide (b < a)))
  | .geq => some (none, .val .bool (decide (b ≤ a)))
  | _ => none
def binC (op : BinOp) : C → C → Option (Option Prop × C)
  | .val (.int k) a, .val (.int k') b =>
    match op with
    | .shl => some (some (0 ≤ b), .val (.int k) (k.wrap (a * 2 ^ (min b.toNat k.bits))))
    | .shr => some (some (0 ≤ b), .val (.int k) (a.fdiv (2 ^ (min b.toNat k.bits))))
    | op => bif decide (k = k') then intBin op k a b else none
  | .val .bool a, .val .bool b =>
    match op with
    | .eql => some (none, .val .bool (a == b))
    | .neq => some (none, .val .bool (a != b))
    | _ => none
  | _, _ => none
section
variable {za : Zn} {w0 w : World} {Z : Nat → Prop} {B : Nat → Value} {P : Program} {E : Env}
theorem y_eqb {ty : TypeId} {T T' : TypeId} {x y : Operand} {a b : Bool} (hx : Gw.ev E x = .bool a) (hy : Gw.ev E y = .bool b) (hT : P.underlying T = some .bool) : Gw.Yields P E ty (.binOp .eql T x y T') w (.bool (a == b)) w := fun _ _ _ _ => by
  have h1 := run_equalIn_bool' (P := P) w 9999 T a b hT
  have hg : (eqGuard .eql T x y (.bool a) (.bool b)).run P w = .ok () w := rfl
  have h2 : (binOp .eql T (.bool a) (.bool b)).run P w = .ok (.bool (a == b)) w := by
    show ((Op.equal T (.bool a) (.bool b)) >>= fun r => pure (Value.bool r)).run P w = _
    unfold Op.equal Op.maxDepth
    rw [Sem.run_bind, h1]
    rfl
  simp only [execOp, hx, hy]
  simp [hg, h2]
theorem isB_spec {T : TypeId} (h : isB P T = true) : P.underlying T = some .bool := by
  unfold isB at h; split at h
  · assumption
  · cases h
theorem intBin_ok {op : BinOp} {k : IntKind} {a b : Int} {φ : Option Prop} {c : C} (h : intBin op k a b = some (φ, c)) (hφ : okP φ) (ha : inR k a) : ∃ v, (∀ (w' : World) (T : TypeId), (binOp op T (.int k a) (.int k b)).run P w' = .ok v w') ∧ RC w Z B c v ∧ ∀ n, refC n c := by
  cases op <;> simp only [intBin, Option.some.injEq, Prod.mk.injEq, reduceCtorEq] at h <;> (try exact h.elim) <;> obtain ⟨rfl, rfl⟩ := h
  case rem => exact ⟨_, fun w' T => by simp [binOp, Op.intDiv, show b ≠ 0 from hφ, go_sem], ⟨rfl, tmod_inR ha⟩, fun _ => trivial⟩
  case quo => exact ⟨_, fun w' T => by simp [binOp, Op.intDiv, show b ≠ 0 from hφ, go_sem], ⟨rfl, wrap_inR _ _⟩, fun _ => trivial⟩
  case add | sub | mul => exact ⟨_, fun w' T => by simp [binOp, Op.intArith, go_sem], ⟨rfl, wrap_inR _ _⟩, fun _ => trivial⟩
  case and | or | xor => exact ⟨_, fun w' T => by simp [binOp, Op.intBits, go_sem], ⟨rfl, wrap_inR _ _⟩, fun _ => trivial⟩
  all_goals exact ⟨.bool _, fun w' T => by simp [binOp, Op.intCmp, go_sem]; try rfl, rfl, fun _ => trivial⟩
theorem binC_ok {op : BinOp} {x y : Operand} {cx cy c : C} {φ : Option Prop} {T T' ty : TypeId} (h : binC op cx cy = some (φ, c)) (hφ : okP φ) (hx : RC w Z B cx (Gw.ev E x)) (hy : RC w Z B cy (Gw.ev E y)) (hT : isB P T = true ∨ ∀ e, cx ≠ .val .bool e) :
    ∃ v, (∀ w', Gw.Yields P E ty (.binOp op T x y T') w' v w') ∧ RC w Z B c v ∧ ∀ n, refC n c := by
  unfold binC at h
  split at h
  · rename_i k a k' b
    obtain ⟨hx, ha⟩ := hx
    obtain ⟨hy, hb⟩ := hy
    simp only [List.cons.injEq, and_true] at hx hy
    split at h
    · cases h
      have hb0 : ¬ b < 0 := Int.not_lt.2 hφ
      have hv : ∀ w', Gw.Yields P E ty (.binOp .shl T x y T') w' (.int k (k.wrap (a * 2 ^ (min b.toNat k.bits)))) w' := fun w' => y_bin hx hy (by simp [binOp, Op.shift, hb0, go_sem])
      exact ⟨_, hv, ⟨rfl, wrap_inR _ _⟩, fun _ => trivial⟩
    · cases h
      have hb0 : ¬ b < 0 := Int.not_lt.2 hφ
      have hv : ∀ w', Gw.Yields P E ty (.binOp .shr T x y T') w' (.int k (a.fdiv (2 ^ (min b.toNat k.bits)))) w' := fun w' => y_bin hx hy (by simp [binOp, Op.shift, hb0, go_sem])
      exact ⟨_, hv, ⟨rfl, fdiv_inR _ ha⟩, fun _ => trivial⟩
    · cases hk : decide (k = k') with
      | false => simp [hk] at h
      | true =>
        simp only [hk, cond_true] at h
        have := of_decide_eq_true hk
        subst this
        obtain ⟨v, h1, h2⟩ := intBin_ok (P := P) (w := w) (Z := Z) (B := B) h hφ ha
        exact ⟨v, fun w' => y_bin hx hy (h1 w' T), h2⟩
  · rename_i a b
    have hx : Gw.ev E x = .bool a := by simpa [RC, Rep] using hx
    have hy : Gw.ev E y = .bool b := by simpa [RC, Rep] using hy
    have hu : P.underlying T = some .bool := by
      rcases hT with hT | hT
      · exact isB_spec hT
      · exact absurd rfl (hT a)
    split at h
    · cases h; exact ⟨_, fun w' => y_eqb hx hy hu, rfl, fun _ => trivial⟩
    · cases h; exact ⟨_, fun w' => y_neb hx hy hu, rfl, fun _ => trivial⟩
    · cases h
  · cases h
end
end Go.Vc
