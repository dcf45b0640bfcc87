/- The rules for the model's operations, one by one, over any program. -/
import Derived.Test.YtedfiemhfpcggaaGwCore
import Derived.WalkKit
namespace Go.Gw
open Go Go.RowKit

def Yields (P : Program) (E : Env) (ty : TypeId) (op : Op) (w : World) (v : Value) (w' : World) : Prop :=
  ∀ (d : Option Tmp) (pos : String) (aft : Array Edge) (g : Option (Nat × Bool)), (execOp (ev E) ⟨d, op, ty, pos, aft, g⟩).run P w = .ok (.value v) w'
def Skips (P : Program) (E : Env) (ty : TypeId) (op : Op) (w w' : World) : Prop :=
  ∀ (d : Option Tmp) (pos : String) (aft : Array Edge) (g : Option (Nat × Bool)), (execOp (ev E) ⟨d, op, ty, pos, aft, g⟩).run P w = .ok .skip w'
def Enters (P : Program) (E : Env) (ty : TypeId) (op : Op) (w : World) (f : FuncId) (args : List Value) : Prop :=
  ∀ (d : Option Tmp) (pos : String) (aft : Array Edge) (g : Option (Nat × Bool)), (execOp (ev E) ⟨d, op, ty, pos, aft, g⟩).run P w = .ok (.enter f args.toArray) w
/-- A call that returns. -/
def Ret (P : Program) (f : FuncId) (args : List Value) (w : World) (Φ : Value → World → Prop) : Prop :=
  Calls P f args.toArray w fun e w' => ∃ v, e = .returned v ∧ Φ v w'
theorem Ret.mono {P : Program} {f : FuncId} {args : List Value} {w : World} {Φ Φ' : Value → World → Prop} (h : Ret P f args w Φ) (hh : ∀ v w', Φ v w' → Φ' v w') : Ret P f args w Φ' :=
  Calls.mono h fun _ _ ⟨v, he, hv⟩ => ⟨v, he, hh _ _ hv⟩

theorem on_of {all : List Oper} {d : Option Tmp} {op : Op} {ty : TypeId} {pos : String} {aft : Array Edge} {j t : Nat} {b : Bool} {E : Env} (h1 : (all[j]?).bind (·.dst) = some t) (h2 : E t = .bool b) : wantedE all ⟨d, op, ty, pos, aft, some (j, b)⟩ E = true := by
  simp [wantedE, yieldedE, h1, h2]
theorem off_of {all : List Oper} {d : Option Tmp} {op : Op} {ty : TypeId} {pos : String} {aft : Array Edge} {j t : Nat} {b b' : Bool} {E : Env} (h1 : (all[j]?).bind (·.dst) = some t) (h2 : E t = .bool b') (hb : (b == b') = false) : wantedE all ⟨d, op, ty, pos, aft, some (j, b)⟩ E = false := by
  cases b <;> cases b' <;> simp_all [wantedE, yieldedE]
theorem off_undef {all : List Oper} {d : Option Tmp} {op : Op} {ty : TypeId} {pos : String} {aft : Array Edge} {j t : Nat} {b : Bool} {E : Env} (h1 : (all[j]?).bind (·.dst) = some t) (h2 : E t = undef) : wantedE all ⟨d, op, ty, pos, aft, some (j, b)⟩ E = false := by
  simp [wantedE, yieldedE, h1, h2, undef]
section frames
variable {P : Program} {n : Nat} {R : Env → World → Prop} {k : List Fr} {E : Env} {w : World} {all rest : List Oper} {d : Nat} {op : Op} {ty : TypeId} {pos : String} {aft : Array Edge} {g : Option (Nat × Bool)}

theorem go_y {v : Value} {w' : World} (hy : Yields P E ty op w v w') (hg : wantedE all ⟨some d, op, ty, pos, aft, g⟩ E = true) (h : Go P n R (.ops all rest :: k) (upd E d v) w') :
    Go P n R (.ops all (⟨some d, op, ty, pos, aft, g⟩ :: rest) :: k) E w := by
  refine ⟨?_⟩
  show stepI P all _ _ E w
  unfold stepI
  rw [if_pos hg, hy]
  exact h.out
theorem go_s {w' : World} (hy : Skips P E ty op w w') (hg : wantedE all ⟨none, op, ty, pos, aft, g⟩ E = true) (h : Go P n R (.ops all rest :: k) E w') :
    Go P n R (.ops all (⟨none, op, ty, pos, aft, g⟩ :: rest) :: k) E w := by
  refine ⟨?_⟩
  show stepI P all _ _ E w
  unfold stepI
  rw [if_pos hg, hy]
  exact h.out
theorem go_c {f : FuncId} {args : List Value} {Φ : Value → World → Prop} (he : Enters P E ty op w f args) (hc : Ret P f args w Φ) (hg : wantedE all ⟨some d, op, ty, pos, aft, g⟩ E = true)
    (h : ∀ v w', Φ v w' → Go P n R (.ops all rest :: k) (upd E d v) w') :
    Go P n R (.ops all (⟨some d, op, ty, pos, aft, g⟩ :: rest) :: k) E w := by
  refine ⟨?_⟩
  show stepI P all _ _ E w
  unfold stepI
  rw [if_pos hg, he]
  exact Calls.mono hc fun _ _ ⟨v, he, hv⟩ => ⟨v, he, (h _ _ hv).out⟩
theorem go_off (hg : wantedE all ⟨some d, op, ty, pos, aft, g⟩ E = false) (h : Go P n R (.ops all rest :: k) (upd E d undef) w) :
    Go P n R (.ops all (⟨some d, op, ty, pos, aft, g⟩ :: rest) :: k) E w := by
  refine ⟨?_⟩
  show stepI P all _ _ E w
  unfold stepI
  rw [if_neg (by rw [hg]; simp)]
  exact h.out
theorem go_off_n (hg : wantedE all ⟨none, op, ty, pos, aft, g⟩ E = false) (h : Go P n R (.ops all rest :: k) E w) :
    Go P n R (.ops all (⟨none, op, ty, pos, aft, g⟩ :: rest) :: k) E w := by
  refine ⟨?_⟩
  show stepI P all _ _ E w
  unfold stepI
  rw [if_neg (by rw [hg]; simp)]
  exact h.out

variable {S : World → Prop} {i : Nat} {p : Plan} {tails : List Nat} {t : Bool}
theorem go_dq {v : Value} (hi : all[i]? = some ⟨some d, op, ty, pos, aft, g⟩) (hy : ∀ w', S w' → Yields P E ty op w' v w') (hg : wantedE all ⟨some d, op, ty, pos, aft, g⟩ E = true) (h : Go P n R (.dops S all tails p t :: k) (upd E d v) w) :
    Go P n R (.dops S all tails (.q i p) t :: k) E w := ⟨⟨_, hi, .inl ⟨hg, v, fun w' hS => hy w' hS _ _ _ _, h.out⟩⟩⟩
theorem go_dq_off (hi : all[i]? = some ⟨some d, op, ty, pos, aft, g⟩) (hg : wantedE all ⟨some d, op, ty, pos, aft, g⟩ E = false) (h : Go P n R (.dops S all tails p t :: k) (upd E d undef) w) :
    Go P n R (.dops S all tails (.q i p) t :: k) E w := ⟨⟨_, hi, .inr ⟨hg, h.out⟩⟩⟩
theorem go_dp {v : Value} (hi : all[i]? = some ⟨some d, op, ty, pos, aft, g⟩) (hy : ∀ w', Yields P E ty op w' v w') (hg : wantedE all ⟨some d, op, ty, pos, aft, g⟩ E = true) (h : Go P n R (.dops S all tails p t :: k) (upd E d v) w) :
    Go P n R (.dops S all tails (.p i p) t :: k) E w := ⟨⟨_, hi, .inl ⟨hg, v, fun w' _ => hy w' _ _ _ _, h.out⟩⟩⟩
theorem go_dp_off (hi : all[i]? = some ⟨some d, op, ty, pos, aft, g⟩) (hg : wantedE all ⟨some d, op, ty, pos, aft, g⟩ E = false) (h : Go P n R (.dops S all tails p t :: k) (upd E d undef) w) :
    Go P n R (.dops S all tails (.p i p) t :: k) E w := ⟨⟨_, hi, .inr ⟨hg, h.out⟩⟩⟩
end frames

/-! ### Types -/
def scalarT (P : Program) (t : TypeId) : Bool := match P.underlying t with | some (.struct _) => false | some (.array _ _) => false | some _ => true | none => false
def aggT (P : Program) (t : TypeId) (s : Nat) : Bool :=
  (match P.underlying t with | some (.struct _) => true | some (.array _ _) => true | _ => false) && (match P.info? t with | some i => i.size == s | none => false)
def sizeT (P : Program) (t : TypeId) (s : Nat) : Bool := match P.info? t with | some i => i.size == s | none => false
def fieldT (P : Program) (t : TypeId) (f off : Nat) : Bool :=
  match P.underlying t with
  | some (.struct fs) => (match fs[f]? with | some x => x.offset == off && (match P.info? x.type with | some i => !(i.size == 0) | none => false) | none => false)
  | _ => false
def sliceT (P : Program) (t e : TypeId) (s : Nat) : Bool := (match P.underlying t with | some (.slice e') => e' == e | _ => false) && sizeT P e s
def enters (P : Program) (f : FuncId) : Bool := match P.funcs[f]? with | some fn => !(fn.name == "runtime.NumGoroutine") && fn.body.isSome | none => false
def zeroT (P : Program) (t : TypeId) : Option Value := (P.info? t).bind (·.zero)

section ops
variable {P : Program} {E : Env} {w : World} {ty : TypeId}

theorem y_move {x : Operand} : Yields P E ty (.move x) w (ev E x) w := fun _ _ _ _ => rfl
theorem y_assign {x : Operand} : Yields P E ty (.assign x) w (ev E x) w := fun _ _ _ _ => rfl
theorem y_pick {c a b : Operand} {t : Bool} (hc : ev E c = .bool t) : Yields P E ty (.pick c a b) w (bif t then ev E a else ev E b) w := fun _ _ _ _ => by
  cases t <;> simp [execOp, hc, asBool, go_sem]
theorem y_pick_t {c a b : Operand} (hc : ev E c = .bool true) : Yields P E ty (.pick c a b) w (ev E a) w := y_pick hc
theorem y_pick_f {c a b : Operand} (hc : ev E c = .bool false) : Yields P E ty (.pick c a b) w (ev E b) w := y_pick hc
theorem y_extract {x : Operand} {vs : Array Value} {v : Value} {i : Nat} (hx : ev E x = .tuple vs) (hv : vs[i]? = some v) : Yields P E ty (.extract x i) w v w := fun _ _ _ _ => by
  simp [execOp, hx, Instr.extract, hv, go_sem]
theorem y_not {T : TypeId} {x : Operand} {b : Bool} (hx : ev E x = .bool b) : Yields P E ty (.unOp .not T x) w (.bool !b) w := fun _ _ _ _ => by
  simp [execOp, hx, Op.unary, go_sem]
theorem y_not_t {T : TypeId} {x : Operand} (hx : ev E x = .bool true) : Yields P E ty (.unOp .not T x) w (.bool false) w := y_not hx
theorem y_not_f {T : TypeId} {x : Operand} (hx : ev E x = .bool false) : Yields P E ty (.unOp .not T x) w (.bool true) w := y_not hx
theorem y_neg {T : TypeId} {x : Operand} {k : IntKind} {a : Int} (hx : ev E x = .int k a) : Yields P E ty (.unOp .neg T x) w (.int k (k.wrap (-a))) w := fun _ _ _ _ => by
  simp [execOp, hx, Op.unary, Op.intArith, go_sem]

/-- integers -/
theorem eqGuard_int {op : BinOp} {T : TypeId} {x y : Operand} {k k' : IntKind} {a b : Int} : (eqGuard op T x y (.int k a) (.int k' b)).run P w = .ok () w := by
  unfold eqGuard
  cases op <;> rfl
theorem y_bin {op : BinOp} {T T' : TypeId} {x y : Operand} {k k' : IntKind} {a b : Int} {v : Value} (hx : ev E x = .int k a) (hy : ev E y = .int k' b) (h : (binOp op T (.int k a) (.int k' b)).run P w = .ok v w) : Yields P E ty (.binOp op T x y T') w v w := fun _ _ _ _ => by
  simp only [execOp, hx, hy]
  have h1 := eqGuard_int (P := P) (w := w) (op := op) (T := T) (x := x) (y := y) (k := k) (k' := k') (a := a) (b := b)
  simp [go_sem, h1, h]
theorem y_lt {T T' : TypeId} {x y : Operand} {k : IntKind} {a b : Int} (hx : ev E x = .int k a) (hy : ev E y = .int k b) : Yields P E ty (.binOp .lss T x y T') w (.bool (decide (a < b))) w := y_bin hx hy (by simp [binOp, Op.intCmp, go_sem])
theorem y_le {T T' : TypeId} {x y : Operand} {k : IntKind} {a b : Int} (hx : ev E x = .int k a) (hy : ev E y = .int k b) : Yields P E ty (.binOp .leq T x y T') w (.bool (decide (a ≤ b))) w := y_bin hx hy (by simp [binOp, Op.intCmp, go_sem])
theorem y_gt {T T' : TypeId} {x y : Operand} {k : IntKind} {a b : Int} (hx : ev E x = .int k a) (hy : ev E y = .int k b) : Yields P E ty (.binOp .gtr T x y T') w (.bool (decide (b < a))) w := y_bin hx hy (by simp [binOp, Op.intCmp, go_sem])
theorem y_ge {T T' : TypeId} {x y : Operand} {k : IntKind} {a b : Int} (hx : ev E x = .int k a) (hy : ev E y = .int k b) : Yields P E ty (.binOp .geq T x y T') w (.bool (decide (b ≤ a))) w := y_bin hx hy (by simp [binOp, Op.intCmp, go_sem])
theorem y_eq {T T' : TypeId} {x y : Operand} {k : IntKind} {a b : Int} (hx : ev E x = .int k a) (hy : ev E y = .int k b) : Yields P E ty (.binOp .eql T x y T') w (.bool (decide (a = b))) w := y_bin hx hy (by simp [binOp, Op.intCmp, go_sem]; rfl)
theorem y_ne {T T' : TypeId} {x y : Operand} {k : IntKind} {a b : Int} (hx : ev E x = .int k a) (hy : ev E y = .int k b) : Yields P E ty (.binOp .neq T x y T') w (.bool (decide (a ≠ b))) w := y_bin hx hy (by simp [binOp, Op.intCmp, go_sem]; rfl)
theorem y_addw {T T' : TypeId} {x y : Operand} {k : IntKind} {a b : Int} (hx : ev E x = .int k a) (hy : ev E y = .int k b) : Yields P E ty (.binOp .add T x y T') w (.int k (k.wrap (a + b))) w := y_bin hx hy (by simp [binOp, Op.intArith, go_sem])
theorem y_subw {T T' : TypeId} {x y : Operand} {k : IntKind} {a b : Int} (hx : ev E x = .int k a) (hy : ev E y = .int k b) : Yields P E ty (.binOp .sub T x y T') w (.int k (k.wrap (a - b))) w := y_bin hx hy (by simp [binOp, Op.intArith, go_sem])
theorem y_mulw {T T' : TypeId} {x y : Operand} {k : IntKind} {a b : Int} (hx : ev E x = .int k a) (hy : ev E y = .int k b) : Yields P E ty (.binOp .mul T x y T') w (.int k (k.wrap (a * b))) w := y_bin hx hy (by simp [binOp, Op.intArith, go_sem])
theorem y_rem {T T' : TypeId} {x y : Operand} {k : IntKind} {a b : Int} (hx : ev E x = .int k a) (hy : ev E y = .int k b) (hb : b ≠ 0) : Yields P E ty (.binOp .rem T x y T') w (.int k (a.tmod b)) w := y_bin hx hy (by simp [binOp, Op.intDiv, hb, go_sem])
theorem y_quow {T T' : TypeId} {x y : Operand} {k : IntKind} {a b : Int} (hx : ev E x = .int k a) (hy : ev E y = .int k b) (hb : b ≠ 0) : Yields P E ty (.binOp .quo T x y T') w (.int k (k.wrap (a.tdiv b))) w := y_bin hx hy (by simp [binOp, Op.intDiv, hb, go_sem])
def in64 (n : Int) : Prop := -9223372036854775808 ≤ n ∧ n ≤ 9223372036854775807
theorem wrap_in64 {n : Int} (h : in64 n) : IntKind.i64.wrap n = n := IntWalk.i64_in n (by unfold in64 at h; omega)
theorem y_add {T T' : TypeId} {x y : Operand} {a b : Int} (hx : ev E x = .int .i64 a) (hy : ev E y = .int .i64 b) (h : in64 (a + b)) : Yields P E ty (.binOp .add T x y T') w (.int .i64 (a + b)) w := by have := y_addw (P := P) (w := w) (ty := ty) (T := T) (T' := T') hx hy; rwa [wrap_in64 h] at this
theorem y_sub {T T' : TypeId} {x y : Operand} {a b : Int} (hx : ev E x = .int .i64 a) (hy : ev E y = .int .i64 b) (h : in64 (a - b)) : Yields P E ty (.binOp .sub T x y T') w (.int .i64 (a - b)) w := by have := y_subw (P := P) (w := w) (ty := ty) (T := T) (T' := T') hx hy; rwa [wrap_in64 h] at this
theorem y_mul {T T' : TypeId} {x y : Operand} {a b : Int} (hx : ev E x = .int .i64 a) (hy : ev E y = .int .i64 b) (h : in64 (a * b)) : Yields P E ty (.binOp .mul T x y T') w (.int .i64 (a * b)) w := by have := y_mulw (P := P) (w := w) (ty := ty) (T := T) (T' := T') hx hy; rwa [wrap_in64 h] at this

theorem ie {k : IntKind} {a b : Int} (h : a = b) : Value.int k a = .int k b := by rw [h]
theorem y_dec_t {op : Op} {c : Prop} [Decidable c] (h : Yields P E ty op w (.bool (decide c)) w) (hc : c) : Yields P E ty op w (.bool true) w := by rwa [decide_eq_true hc] at h
theorem y_dec_f {op : Op} {c : Prop} [Decidable c] (h : Yields P E ty op w (.bool (decide c)) w) (hc : ¬ c) : Yields P E ty op w (.bool false) w := by rwa [decide_eq_false hc] at h

/-- max, min of ints -/
theorem y_max2 {x y : Operand} {ts : Array TypeId} {k k' : IntKind} {a b : Int} (hx : ev E x = .int k a) (hy : ev E y = .int k' b) : Yields P E ty (.call ⟨.builtin .max, #[x, y], ts⟩) w (.int k (max a b)) w := fun _ _ _ _ => by
  have hm : (if b > a then b else a) = max a b := by by_cases h : a < b <;> simp only [gt_iff_lt, h, if_true, if_false] <;> omega
  simp [execOp, resolve, invoke, builtin, Builtin.max_, Builtin.max2, hx, hy, go_sem]
  exact hm
theorem y_max3 {x y z : Operand} {ts : Array TypeId} {k k' k'' : IntKind} {a b c : Int} (hx : ev E x = .int k a) (hy : ev E y = .int k' b) (hz : ev E z = .int k'' c) : Yields P E ty (.call ⟨.builtin .max, #[x, y, z], ts⟩) w (.int k (max (max a b) c)) w := fun _ _ _ _ => by
  have hm : ∀ a b : Int, (if b > a then b else a) = max a b := fun a b => by by_cases h : a < b <;> simp only [gt_iff_lt, h, if_true, if_false] <;> omega
  simp only [execOp, resolve, invoke, builtin, Builtin.max_, go_sem]
  simp [hx, hy, hz, Builtin.max2, hm, go_sem]
theorem y_min2 {x y : Operand} {ts : Array TypeId} {k k' : IntKind} {a b : Int} (hx : ev E x = .int k a) (hy : ev E y = .int k' b) : Yields P E ty (.call ⟨.builtin .min, #[x, y], ts⟩) w (.int k (min a b)) w := fun _ _ _ _ => by
  have hm : (if b < a then b else a) = min a b := by by_cases h : b < a <;> simp only [h, if_true, if_false] <;> omega
  simp [execOp, resolve, invoke, builtin, Builtin.min_, Builtin.min2, hx, hy, go_sem]
  exact hm
theorem y_len {x : Operand} {t e : TypeId} {s len cap : Nat} {a : Option Addr} (hx : ev E x = .slice a len cap) (ht : sliceT P t e s = true) : Yields P E ty (.call ⟨.builtin .len, #[x], #[t]⟩) w (.int .i64 len) w := fun _ _ _ _ => by
  have hu : P.underlying t = some (.slice e) := by
    unfold sliceT at ht
    simp only [Bool.and_eq_true] at ht
    obtain ⟨ht, _⟩ := ht
    split at ht
    · rename_i e' he; simp at ht; subst ht; exact he
    · cases ht
  simp [execOp, resolve, invoke, builtin, Builtin.len_, hx, run_underlying hu, goInt, go_sem]
end ops

/-! ### Calls -/
theorem enters_fn {P : Program} {E : Env} {w : World} {ty : TypeId} {fo : Operand} {f : FuncId} {cap args : List Value} {as : List Operand} {ts : Array TypeId} (hf : ev E fo = .func (.func f) #[] cap.toArray) (he : enters P f = true) (ha : as.map (ev E) ++ cap = args) :
    Enters P E ty (.call ⟨.value fo, as.toArray, ts⟩) w f args := fun _ _ _ _ => by
  unfold enters at he
  split at he
  · rename_i fn hfn
    simp only [Bool.and_eq_true, Bool.not_eq_true'] at he
    have h2 : ¬ fn.body = none := by intro hb; rw [hb] at he; simp at he
    have h1 : ¬ fn.name = "runtime.NumGoroutine" := by simpa using he.1
    subst ha
    simp [execOp, resolve, hf, Deferred.ofValue, invoke, callFunc, hfn, h1, h2, go_sem]
  · cases he
theorem enters_func {P : Program} {E : Env} {w : World} {ty : TypeId} {f : FuncId} {args : List Value} {as : List Operand} {ts : Array TypeId} (he : enters P f = true) (ha : as.map (ev E) = args) :
    Enters P E ty (.call ⟨.value (.func f), as.toArray, ts⟩) w f args := enters_fn (cap := []) rfl he (by simpa using ha)

theorem y_mkf {P : Program} {E : Env} {w : World} {ty : TypeId} {fn : Fn} {caps : List Operand} {vs : List Value} (hc : caps.map (ev E) = vs) : Yields P E ty (.makeFunc fn #[] caps.toArray) w (.func fn #[] vs.toArray) w := fun _ _ _ _ => by
  subst hc
  simp [execOp, Instr.makeFunc]

theorem y_neb {P : Program} {E : Env} {w : World} {ty : TypeId} {T T' : TypeId} {x y : Operand} {a b : Bool} (hx : ev E x = .bool a) (hy : ev E y = .bool b) (hT : P.underlying T = some .bool) : Yields P E ty (.binOp .neq T x y T') w (.bool (a != b)) w := fun _ _ _ _ => by
  have h1 := run_equalIn_bool' (P := P) w 9999 T a b hT
  have hg : (eqGuard .neq T x y (.bool a) (.bool b)).run P w = .ok () w := rfl
  have h2 : (binOp .neq T (.bool a) (.bool b)).run P w = .ok (.bool (a != b)) w := by
    show ((Op.equal T (.bool a) (.bool b)) >>= fun r => pure (Value.bool (!r))).run P w = _
    unfold Op.equal Op.maxDepth
    rw [Sem.run_bind, h1]
    rfl
  simp only [execOp, hx, hy]
  simp [hg, h2]

/-! ### Memory -/
/-- Block b is a row of cells that may be written. -/
def Blk (w : World) (b : Nat) (cs : Array Value) (t : TypeId) : Prop := w.heap[b]? = some (.cells cs t (0, 0))
/-- w' has all of w's blocks as they were. -/
abbrev Ext (w w' : World) : Prop := Below w.heap.size w w'
theorem Blk.lt {w : World} {b : Nat} {cs : Array Value} {t : TypeId} (h : Blk w b cs t) : b < w.heap.size := (Array.getElem?_eq_some_iff.1 h).1
theorem Blk.ext {w w' : World} {b : Nat} {cs : Array Value} {t : TypeId} (h : Blk w b cs t) (hx : Ext w w') : Blk w' b cs t := (hx.block b h.lt).trans h
theorem Blk.cell {w : World} {b o : Nat} {cs : Array Value} {t : TypeId} {v : Value} (h : Blk w b cs t) (hv : cs[o]? = some v) : w.cell? ⟨b, o, none⟩ = some v := by
  unfold Blk at h
  simp [World.cell?, h, hv]
theorem Ext.refl (w : World) : Ext w w := Below.refl _ _
theorem Ext.trans {a b c : World} (h : Ext a b) (k : Ext b c) : Ext a c := Below.trans h (Below.mono k h.size)
theorem Ext.drew {a b : World} (h : Ext a b) : Ext a b.drew := Below.drew h
theorem Ext.alloc (w : World) (o : Obj) : Ext w (w.alloc o) := (Below.refl _ _).alloc (Nat.le_refl _) o

section mem
variable {P : Program} {E : Env} {w : World} {ty : TypeId}

theorem run_isAgg_scalar {t : TypeId} (h : scalarT P t = true) : (isAgg t).run P w = .ok false w := by
  unfold scalarT at h
  cases hu : P.underlying t with
  | none => simp [hu] at h
  | some d => cases d <;> simp [hu] at h <;> simp [isAgg, run_underlying hu, go_sem]
theorem run_isAgg_agg {t : TypeId} {s : Nat} (h : aggT P t s = true) : (isAgg t).run P w = .ok true w ∧ (sizeOf t).run P w = .ok s w := by
  unfold aggT at h
  simp only [Bool.and_eq_true] at h
  obtain ⟨h1, h2⟩ := h
  constructor
  · cases hu : P.underlying t with
    | none => simp [hu] at h1
    | some d => cases d <;> simp [hu] at h1 <;> simp [isAgg, run_underlying hu, go_sem]
  · cases hi : P.info? t with
    | none => simp [hi] at h2
    | some i => simp [hi] at h2; simp [sizeOf, typeInfo, hi, h2, go_sem]
theorem run_sizeOf {t : TypeId} {s : Nat} (h : sizeT P t s = true) : (sizeOf t).run P w = .ok s w := by
  unfold sizeT at h
  cases hi : P.info? t with
  | none => simp [hi] at h
  | some i => simp [hi] at h; simp [sizeOf, typeInfo, hi, h, go_sem]

theorem y_load {T : TypeId} {x : Operand} {a : Addr} {v : Value} (hx : ev E x = .pointer (some a)) (hs : scalarT P T = true) (hc : w.cell? a = some v) : Yields P E ty (.load T x) w v w := fun _ _ _ _ => by
  have h1 := run_isAgg_scalar (P := P) (w := w) hs
  simp [execOp, hx, Instr.loadAt, Instr.sureAddr, loadVar, h1, hc, go_sem]
/-- The cells from a on. -/
def CellsAt (w : World) (a : Addr) (cs : List Value) : Prop := ∀ j v, cs[j]? = some v → w.cell? (a.add j) = some v
theorem y_load_agg {T : TypeId} {x : Operand} {a : Addr} {cs : List Value} {s : Nat} (hx : ev E x = .pointer (some a)) (hs : aggT P T s = true) (hl : cs.length = s) (hc : CellsAt w a cs) : Yields P E ty (.load T x) w (.agg cs.toArray) w := fun _ _ _ _ => by
  obtain ⟨h1, h2⟩ := run_isAgg_agg (P := P) (w := w) hs
  have h3 := run_loadCells_list (P := P) (w := w) a cs hc
  rw [hl] at h3
  unfold loadCells at h3
  simp [execOp, hx, Instr.loadAt, Instr.sureAddr, loadVar, h1, h2, h3, go_sem]
theorem Blk.cellsAt {w : World} {b : Nat} {cs : Array Value} {t : TypeId} (h : Blk w b cs t) : CellsAt w ⟨b, 0, none⟩ cs.toList := fun j v hv => by
  have : (⟨b, 0, none⟩ : Addr).add j = ⟨b, j, none⟩ := by unfold Addr.add; split <;> simp_all
  rw [this]
  exact h.cell (by simpa using hv)
theorem y_load_blk {T t : TypeId} {x : Operand} {b s : Nat} {cs : Array Value} (hx : ev E x = .pointer (some ⟨b, 0, none⟩)) (hb : Blk w b cs t) (hs : aggT P T s = true) (hl : cs.size = s) : Yields P E ty (.load T x) w (.agg cs) w := by
  have := y_load_agg (P := P) (w := w) (ty := ty) (cs := cs.toList) hx hs (by simpa using hl) hb.cellsAt
  simpa using this
theorem y_load_fld {T t : TypeId} {x : Operand} {b o : Nat} {cs : Array Value} {v : Value} (hx : ev E x = .pointer (some ⟨b, o, none⟩)) (hb : Blk w b cs t) (hs : scalarT P T = true) (hv : cs[o]? = some v) : Yields P E ty (.load T x) w v w :=
  y_load hx hs (hb.cell hv)

theorem add_lit (b o n : Nat) : (⟨b, o, none⟩ : Addr).add n = ⟨b, o + n, none⟩ := by unfold Addr.add; split <;> simp_all
theorem y_fieldAddr {T : TypeId} {x : Operand} {b o f off : Nat} (hx : ev E x = .pointer (some ⟨b, o, none⟩)) (hf : fieldT P T f off = true) : Yields P E ty (.fieldAddr T x f) w (.pointer (some ⟨b, o + off, none⟩)) w := fun _ _ _ _ => by
  unfold fieldT at hf
  split at hf
  · rename_i fs hu
    split at hf
    · rename_i fd hfd
      simp only [Bool.and_eq_true, beq_iff_eq] at hf
      obtain ⟨h1, h2⟩ := hf
      cases hi : P.info? fd.type with
      | none => simp [hi] at h2
      | some i =>
        simp [hi] at h2
        have hz : (sizeOf fd.type).run P w = .ok i.size w := by simp [sizeOf, typeInfo, hi, go_sem]
        subst h1
        simp [execOp, hx, Instr.fieldAt, Instr.sureAddr, run_underlying hu, hfd, fieldPlace, hz, h2, add_lit, go_sem]
    · cases hf
  · cases hf

theorem y_box {T : TypeId} {x : Operand} {v : Value} (hx : ev E x = v) : Yields P E ty (.box T x) w (.pointer (some ⟨w.heap.size, 0, none⟩)) (w.alloc (.cells v.cells T)) := fun _ _ _ _ => by
  subst hx
  simp [execOp, Instr.box, newVar, newRow, go_sem]
theorem y_alloc {T : TypeId} {z : Value} (hz : zeroT P T = some z) : Yields P E ty (.alloc T) w (.pointer (some ⟨w.heap.size, 0, none⟩)) (w.alloc (.cells z.cells T)) := fun _ _ _ _ => by
  unfold zeroT at hz
  cases hi : P.info? T with
  | none => simp [hi] at hz
  | some i =>
    simp [hi] at hz
    simp [execOp, Instr.alloc, zeroValue, typeInfo, hi, hz, newVar, newRow, go_sem]
theorem blk_alloc (w : World) (cs : Array Value) (t : TypeId) : Blk (w.alloc (.cells cs t)) w.heap.size cs t := heap_alloc_new w _
theorem Blk.alloc {w : World} {b : Nat} {cs : Array Value} {t : TypeId} (h : Blk w b cs t) (o : Obj) : Blk (w.alloc o) b cs t := h.ext (Ext.alloc w o)
end mem

theorem one_nil : ∀ u ∈ ([] : List Value), u.oneCell' = true := fun _ h => by cases h
theorem one_cons {v : Value} {l : List Value} (h : v.oneCell' = true) (t : ∀ u ∈ l, u.oneCell' = true) : ∀ u ∈ v :: l, u.oneCell' = true := fun u hu => by
  rcases List.mem_cons.1 hu with hu | hu
  · rw [hu]; exact h
  · exact t u hu

/-! ### Results -/
theorem res1 {P : Program} {fn : Func} {t : Tmp} (hr : fn.results = #[.tmp t]) {Φ : Value → World → Prop} : ∀ (E : Env) (w : World) (tmps : Array Value), (∀ t, tmps.getD t undef = E t) → Φ (E t) w → ∃ v, (results fn tmps).run P w = .ok v w ∧ Φ v w := fun E w tmps ht h => by
  refine ⟨E t, ?_, h⟩
  simp [results, hr, go_sem]
  simpa using ht t
theorem res2 {P : Program} {fn : Func} {t u : Tmp} (hr : fn.results = #[.tmp t, .tmp u]) {Φ : Value → World → Prop} : ∀ (E : Env) (w : World) (tmps : Array Value), (∀ t, tmps.getD t undef = E t) → Φ (.tuple #[E t, E u]) w → ∃ v, (results fn tmps).run P w = .ok v w ∧ Φ v w := fun E w tmps ht h => by
  refine ⟨_, ?_, h⟩
  have h1 := ht t
  have h2 := ht u
  simp [results, hr, go_sem] at *
  rw [h1, h2]
  exact ⟨rfl, rfl⟩
theorem res3 {P : Program} {fn : Func} {t u s : Tmp} (hr : fn.results = #[.tmp t, .tmp u, .tmp s]) {Φ : Value → World → Prop} : ∀ (E : Env) (w : World) (tmps : Array Value), (∀ t, tmps.getD t undef = E t) → Φ (.tuple #[E t, E u, E s]) w → ∃ v, (results fn tmps).run P w = .ok v w ∧ Φ v w := fun E w tmps ht h => by
  refine ⟨_, ?_, h⟩
  have h1 := ht t
  have h2 := ht u
  have h3 := ht s
  simp [results, hr, go_sem] at *
  rw [h1, h2, h3]
  exact ⟨rfl, rfl, rfl⟩
/-- A struct result in memory. -/
theorem resC {P : Program} {fn : Func} {t : Tmp} {T : TypeId} {s : Nat} (hr : fn.results = #[.cell t T]) (hs : aggT P T s = true) {Φ : Value → World → Prop} : ∀ (E : Env) (w : World) (tmps : Array Value), (∀ t, tmps.getD t undef = E t) →
    (∃ a cs, E t = .pointer (some a) ∧ cs.length = s ∧ CellsAt w a cs ∧ Φ (.agg cs.toArray) w) → ∃ v, (results fn tmps).run P w = .ok v w ∧ Φ v w := fun E w tmps ht ⟨a, cs, he, hl, hc, h⟩ => by
  refine ⟨_, ?_, h⟩
  have h1 := ht t
  rw [he] at h1
  obtain ⟨h2, h3⟩ := run_isAgg_agg (P := P) (w := w) hs
  have h4 := run_loadCells_list (P := P) (w := w) a cs hc
  rw [hl] at h4
  unfold loadCells at h4
  simp at h1
  simp [results, hr, h1, asAddr, loadVar, h2, h3, h4, go_sem]

end Go.Gw
