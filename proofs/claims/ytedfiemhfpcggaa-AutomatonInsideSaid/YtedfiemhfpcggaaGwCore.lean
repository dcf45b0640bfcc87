/- A small program logic over the model's 'Code.wp': frames as functions from slots to values, code as a stack of what is left to do. No program in sight. -/
import Derived.Orders
import Derived.OrdersHeld
import Derived.Below
import Derived.KernelRfl
import Derived.Deep.LoopGhost
namespace Go.Gw
open Go Go.RowKit

abbrev Env := Nat → Value
def upd (E : Env) (d : Nat) (v : Value) : Env := fun t => bif Nat.beq t d then v else E t
def updO (E : Env) : Option Tmp → Value → Env
  | some d, v => upd E d v
  | none, _ => E
def ev (E : Env) : Operand → Value
  | .tmp t => E t
  | .const v => v
  | .global g => .pointer (some ⟨g, 0, none⟩)
  | .func f => .func (.func f) #[] #[]

theorem beq_false_of {t d : Nat} (h : t ≠ d) : Nat.beq t d = false := by
  cases hb : Nat.beq t d with
  | false => rfl
  | true => exact absurd (Nat.eq_of_beq_eq_true hb) h
theorem upd_same (E : Env) (d : Nat) (v : Value) : upd E d v d = v := by simp [upd]
theorem upd_other (E : Env) (d t : Nat) (v : Value) (h : t ≠ d) : upd E d v t = E t := by
  have : Nat.beq t d = false := beq_false_of h
  simp [upd, this]

structure Rep (n : Nat) (a : Act) (E : Env) : Prop where
  size : a.tmps.size = n
  get : ∀ t, a.tmps.getD t undef = E t
  defers : a.defers = []

theorem Rep.ev {n : Nat} {a : Act} {E : Env} (h : Rep n a E) : a.eval = Gw.ev E := by
  funext x
  cases x with
  | tmp t => exact h.get t
  | _ => rfl

def dstOk (n : Nat) (l : List Oper) : Bool := l.all fun o => match o.dst with | some d => decide (d < n) | none => true

theorem Rep.put {n : Nat} {a : Act} {E : Env} (h : Rep n a E) (o : Option Tmp) (v : Value) (ho : ∀ d, o = some d → d < n) : Rep n (a.put o v) (updO E o v) := by
  cases o with
  | none => exact h
  | some d =>
    have hd := ho d rfl
    refine ⟨by simp [Act.put, h.size], fun t => ?_, h.defers⟩
    have hs := h.size
    have hg := h.get t
    by_cases htd : t = d
    · subst htd
      simp [Act.put, updO, upd_same, Array.getElem?_setIfInBounds, hs, hd]
    · simp only [updO, upd_other _ _ _ _ htd]
      rw [← hg]
      simp [Act.put, Array.getElem?_setIfInBounds, Ne.symm htd]

def yieldedE (all : List Oper) (E : Env) (j : Nat) : Option Bool :=
  match (all[j]?).bind (·.dst) with
  | some t => match E t with | .bool b => some b | _ => none
  | none => none
def wantedE (all : List Oper) (o : Oper) (E : Env) : Bool :=
  match o.guard with
  | none => true
  | some (j, want) => yieldedE all E j == some want

theorem Rep.yielded {n : Nat} {a : Act} {E : Env} (h : Rep n a E) (all : List Oper) (j : Nat) : yielded all.toArray a.tmps j = yieldedE all E j := by
  unfold Go.yielded yieldedE
  rw [List.getElem?_toArray]
  cases hq : (all[j]?).bind (·.dst) with
  | none => simp
  | some t =>
    simp only [Option.bind_some]
    have hg := h.get t
    cases ht : a.tmps[t]? with
    | none =>
      have : a.tmps.getD t undef = undef := by simp [ht]
      rw [this] at hg
      simp [← hg, undef]
    | some v =>
      have : a.tmps.getD t undef = v := by simp [ht]
      rw [this] at hg
      rw [← hg]
      cases v <;> rfl

theorem Rep.wanted {n : Nat} {a : Act} {E : Env} (h : Rep n a E) (all : List Oper) (o : Oper) : Region.wanted o (Go.yielded all.toArray a.tmps) = wantedE all o E := by
  unfold Region.wanted wantedE
  cases o.guard with
  | none => rfl
  | some g => simp only [h.yielded]

/-- One operation. -/
def stepI (P : Program) (all : List Oper) (o : Oper) (next : Env → World → Prop) (E : Env) (w : World) : Prop :=
  if wantedE all o E = true then
    match (execOp (ev E) o).run P w with
    | .ok (.value v) w' => next (updO E o.dst v) w'
    | .ok .skip w' => next (updO E o.dst undef) w'
    | .ok (.enter f args) w' => Calls P f args w' fun e w'' => ∃ v, e = .returned v ∧ next (updO E o.dst v) w''
    | _ => False
  else next (updO E o.dst undef) w

def opsI (P : Program) (all : List Oper) (next : Env → World → Prop) : List Oper → Env → World → Prop
  | [] => next
  | o :: r => stepI P all o (opsI P all next r)

def lift (n : Nat) (Q : Exit → Env → World → Prop) : Exit → Act → World → Prop := fun e a w => ∃ E, Rep n a E ∧ Q e E w

theorem stepI_mono {P : Program} {all : List Oper} {o : Oper} {next next' : Env → World → Prop} (h : ∀ E w, next E w → next' E w) {E : Env} {w : World} (hs : stepI P all o next E w) : stepI P all o next' E w := by
  unfold stepI at *
  split
  · rename_i hw
    simp only [hw, if_true] at hs
    generalize (execOp (ev E) o).run P w = r at *
    cases r with
    | ok m w' =>
      cases m <;> simp only at hs ⊢
      case value v => exact h _ _ hs
      case skip => exact h _ _ hs
      case enter f args => exact hs.mono fun e w'' ⟨v, he, hn⟩ => ⟨v, he, h _ _ hn⟩
    | halt x w' => exact hs
  · rename_i hw
    simp only [hw] at hs
    exact h _ _ hs

/-- One operation of mine is one of the model's. -/
theorem stepI_wpOp {P : Program} {n : Nat} {all : List Oper} (hn : dstOk n all = true) {i : Nat} {o : Oper} (hi : all[i]? = some o) {Q : Exit → Act → World → Prop} {K : Act → World → Prop} {next : Env → World → Prop}
    (hK : ∀ a E w, Rep n a E → next E w → K a w) {a : Act} {E : Env} {w : World} (hr : Rep n a E) (h : stepI P all o next E w) : wpOp P all.toArray Q i K a w := by
  have hd : ∀ d, o.dst = some d → d < n := fun d hd => by
    have := List.all_eq_true.1 hn o (List.mem_of_getElem? hi)
    simpa [hd] using this
  unfold wpOp
  simp only [List.getElem?_toArray, hi]
  rw [hr.wanted]
  unfold stepI at h
  split
  · rename_i hw
    simp only [hw, if_true] at h
    refine .inl ?_
    unfold Oper.wp
    rw [hr.ev]
    generalize (execOp (ev E) o).run P w = r at *
    cases r with
    | ok m w' =>
      cases m <;> simp only at h
      case value v => exact hK _ _ _ (hr.put _ _ hd) h
      case skip => exact hK _ _ _ (hr.put _ _ hd) h
      case enter f args =>
        refine h.mono fun e w'' ⟨v, he, hn⟩ => ?_
        subst he
        exact hK _ _ _ (hr.put _ _ hd) hn
    | halt x w' => exact h.elim
  · rename_i hw
    simp only [hw] at h
    exact hK _ _ _ (hr.put _ _ hd) h

theorem opsI_wpOps {P : Program} {n : Nat} {all : List Oper} (hn : dstOk n all = true) {Q : Exit → Env → World → Prop} :
    ∀ (rest : List Oper) (k : Nat), (∀ j, rest[j]? = all[k + j]?) → ∀ (a : Act) (E : Env) (w : World), Rep n a E → opsI P all (Q .normal) rest E w →
      wpOps P all.toArray (lift n Q) (List.range' k rest.length) a w
  | [], _, _, a, E, w, hr, h => ⟨E, hr, h⟩
  | o :: rest, k, hl, a, E, w, hr, h => by
    have h0 : all[k]? = some o := by simpa using (hl 0).symm
    rw [List.length_cons, List.range'_succ, wpOps_cons]
    refine stepI_wpOp hn h0 (fun a' E' w' hr' hh => ?_) hr h
    exact opsI_wpOps hn rest (k + 1) (fun j => by have := hl (j + 1); simpa [Nat.add_assoc, Nat.add_comm 1 j] using this) a' E' w' hr' hh


/-! ### A region that draws its order -/
/-- In which order the operations are looked at: 'q i': number i, which yields its value in every world of the class, is taken first; 'p i': number i, which yields its value in every world, is; 'e i': number i alone may come up; 'br': two may. -/
inductive Plan where
  | done
  | q (i : Nat) (p : Plan)
  | p (i : Nat) (p : Plan)
  | e (i : Nat) (p : Plan)
  | br (i : Nat) (p : Plan) (j : Nat) (p' : Plan)
/-- Has one of the tail come up? -/
def anyTail (tails : List Nat) (listed : Array Bool) : Bool := tails.any fun i => listed.getD i false
def planOk (all : List Oper) (heads tails : List Nat) : Nat → Plan → Array Bool → Bool
  | _, .done, listed => (Region.ready .any all.toArray listed).isEmpty
  | fuel + 1, .q i p, listed => heads.contains i && !tails.contains i && Region.free .any all.toArray listed i && (Region.ready .any all.toArray listed).contains i && planOk all heads tails fuel p (listed.setIfInBounds i true)
  | fuel + 1, .p i p, listed => !tails.contains i && Region.free .any all.toArray listed i && (Region.ready .any all.toArray listed).contains i && planOk all heads tails fuel p (listed.setIfInBounds i true)
  | fuel + 1, .e i p, listed => Region.ready .any all.toArray listed == [i] && planOk all heads tails fuel p (listed.setIfInBounds i true)
  | fuel + 1, .br i p j p', listed => Region.ready .any all.toArray listed == [i, j] && planOk all heads tails fuel p (listed.setIfInBounds i true) && planOk all heads tails fuel p' (listed.setIfInBounds j true)
  | _, _, _ => false
/-- Each of the tail waits for every head. -/
def tailsWait (all : List Oper) (heads tails : List Nat) : Bool :=
  tails.all fun j => match all[j]? with
    | some o => heads.all fun i => o.after.any fun e => Region.binds .any e && e.on == i
    | none => false
def planned (all : List Oper) (heads tails : List Nat) (p : Plan) : Bool := Region.noSelect all.toArray && tailsWait all heads tails && planOk all heads tails all.length p (Array.replicate all.length false)

/-- An operation that yields its value in every world of the class. -/
def quietI (P : Program) (S : World → Prop) (all : List Oper) (o : Oper) (next : Env → World → Prop) (E : Env) (w : World) : Prop :=
  (wantedE all o E = true ∧ ∃ v, (∀ w', S w' → (execOp (ev E) o).run P w' = .ok (.value v) w') ∧ next (updO E o.dst v) w) ∨
  (wantedE all o E = false ∧ next (updO E o.dst undef) w)

def dopsI (P : Program) (S : World → Prop) (all : List Oper) (tails : List Nat) (next : Env → World → Prop) : Plan → Bool → Env → World → Prop
  | .done, _ => next
  | .q i p, t => fun E w => ∃ o, all[i]? = some o ∧ quietI P S all o (dopsI P S all tails next p t) E w
  | .p i p, t => fun E w => ∃ o, all[i]? = some o ∧ quietI P (fun _ => True) all o (dopsI P S all tails next p t) E w
  | .e i p, t => fun E w => ∃ o, all[i]? = some o ∧ stepI P all o (fun E' w' => ((t || tails.contains i) = true ∨ S w') ∧ dopsI P S all tails next p (t || tails.contains i) E' w') E w
  | .br i p j p', t => fun E w => (∃ o, all[i]? = some o ∧ stepI P all o (fun E' w' => ((t || tails.contains i) = true ∨ S w') ∧ dopsI P S all tails next p (t || tails.contains i) E' w') E w) ∧
      (∃ o, all[j]? = some o ∧ stepI P all o (fun E' w' => ((t || tails.contains j) = true ∨ S w') ∧ dopsI P S all tails next p' (t || tails.contains j) E' w') E w)

section held
variable {P : Program} {ops : Array Oper} {Q : Exit → Act → World → Prop} {S : World → Prop} {heads tails : List Nat}
/-- Whatever order is picked; S holds till one of the tail has come up. -/
def wpAnyK (P : Program) (ops : Array Oper) (Q : Exit → Act → World → Prop) (S : World → Prop) (tails : List Nat) : Nat → Array Bool → Act → World → Prop
  | 0, listed, a, w => Region.ready .any ops listed = [] ∧ Q .normal a w
  | fuel + 1, listed, a, w =>
    (Region.ready .any ops listed = [] → Q .normal a w) ∧ ∀ i ∈ Region.ready .any ops listed, wpOp P ops Q i (fun a' w' => (anyTail tails (listed.setIfInBounds i true) = true ∨ S w') ∧ wpAnyK P ops Q S tails fuel (listed.setIfInBounds i true) a' w') a w
theorem wpAny_of_K : ∀ (fuel : Nat) (listed : Array Bool) (a : Act) (w : World), wpAnyK P ops Q S tails fuel listed a w → wpAny P .any ops Q fuel listed a w
  | 0, _, _, _, h => h
  | fuel + 1, _, _, _, h => ⟨h.1, fun i hi => wpOp_mono (fun a' w' h' => wpAny_of_K fuel _ a' w' h'.2) (h.2 i hi)⟩
/-- a state that can be come to -/
def Down (ops : Array Oper) (heads tails : List Nat) (listed : Array Bool) : Prop := anyTail tails listed = true → ∀ h ∈ heads, listed.getD h false = true
theorem getD_false_of {listed : Array Bool} {i : Nat} (h : listed.getD i true = false) : listed.getD i false = false := by
  rcases Nat.lt_or_ge i listed.size with h' | h'
  · simp [h'] at h ⊢; exact h
  · simp [Array.getElem?_eq_none h']
theorem anyTail_set_other {listed : Array Bool} {i : Nat} (hi : i ∉ tails) : anyTail tails (listed.setIfInBounds i true) = anyTail tails listed := by
  unfold anyTail
  rw [Bool.eq_iff_iff, List.any_eq_true, List.any_eq_true]
  constructor
  · rintro ⟨x, hx, h⟩
    have hne : i ≠ x := fun e => hi (by rw [e]; exact hx)
    exact ⟨x, hx, by rw [getD_set_ne false hne] at h; exact h⟩
  · rintro ⟨x, hx, h⟩
    have hne : i ≠ x := fun e => hi (by rw [e]; exact hx)
    exact ⟨x, hx, by rw [getD_set_ne false hne]; exact h⟩
theorem anyTail_set_mono {listed : Array Bool} {i : Nat} (h : anyTail tails listed = true) : anyTail tails (listed.setIfInBounds i true) = true := by
  unfold anyTail at *
  rw [List.any_eq_true] at *
  obtain ⟨x, hx, h⟩ := h
  exact ⟨x, hx, getD_set_true h⟩
theorem Down.set (hwait : ∀ (j : Nat) (oj : Oper), ops[j]? = some oj → j ∈ tails → ∀ h ∈ heads, ∃ e ∈ oj.after, Region.binds .any e = true ∧ e.on = h) {listed : Array Bool} {j : Nat} (hd : Down ops heads tails listed) (hj : j ∈ Region.ready .any ops listed) : Down ops heads tails (listed.setIfInBounds j true) := by
  intro ht h hh
  by_cases hjt : j ∈ tails
  · obtain ⟨_, oj, hoj, hall⟩ := mem_ready.1 hj
    obtain ⟨e, he, hb, hon⟩ := hwait j oj hoj hjt h hh
    have := hall e he hb
    rw [hon] at this
    exact getD_set_true this
  · rw [anyTail_set_other hjt] at ht
    exact getD_set_true (hd ht h hh)

/-- An operation that yields in every world of the class, and for which the tail waits, may be taken first. -/
theorem wpAnyK_first {i : Nat} {oi : Oper} {v : Value} (hi : ops[i]? = some oi) (hih : i ∈ heads) (hit : i ∉ tails) (hsel : ∀ (j : Nat) (o : Oper) cs b, ops[j]? = some o → o.op ≠ .select cs b)
    (hwait : ∀ (j : Nat) (oj : Oper), ops[j]? = some oj → j ∈ tails → ∀ h ∈ heads, ∃ e ∈ oj.after, Region.binds .any e = true ∧ e.on = h)
    (hQ : ∀ c a w, Q (.panic c) (a.put oi.dst v) w → Q (.panic c) a w) :
    ∀ (fuel : Nat) (listed : Array Bool) (a : Act) (w : World), Down ops heads tails listed →
      (∀ j oj, ops[j]? = some oj → j ≠ i → listed.getD j true = false → (∀ e ∈ oj.after, Region.binds .any e = true → e.on ≠ i) → oi.apart ops oj = true) →
      i ∈ Region.ready .any ops listed → YieldsIf P ops S oi v a → S w →
      wpAnyK P ops Q S tails fuel (listed.setIfInBounds i true) (a.put oi.dst v) w → wpAnyK P ops Q S tails (fuel + 1) listed a w := by
  intro fuel
  induction fuel with
  | zero =>
    intro listed a w _ _ hr hy hS H
    refine ⟨fun h => (by rw [h] at hr; cases hr), fun j hj => ?_⟩
    by_cases hji : j = i
    · subst hji; exact hy.wpOp hi hS ⟨.inr hS, H⟩
    · have := ready_mono hj hji
      rw [H.1] at this
      cases this
  | succ fuel ih =>
    intro listed a w hd hfree hr hy hS H
    have hli : listed.getD i false = false := getD_false_of (mem_ready.1 hr).1
    refine ⟨fun h => (by rw [h] at hr; cases hr), fun j hj => ?_⟩
    by_cases hji : j = i
    · subst hji; exact hy.wpOp hi hS ⟨.inr hS, H⟩
    · obtain ⟨hjun, oj, hoj, hall⟩ := mem_ready.1 hj
      have hnot : ∀ e ∈ oj.after, Region.binds .any e = true → e.on ≠ i := fun e he hb heq => by
        have h1 := hall e he hb
        rw [heq] at h1
        rw [hli] at h1
        cases h1
      have hjt : j ∉ tails := fun hjt => by
        obtain ⟨e, he, hb, hon⟩ := hwait j oj hoj hjt i hih
        exact absurd hon (hnot e he hb)
      have hnt : anyTail tails listed = false := by
        cases ht : anyTail tails listed with
        | false => rfl
        | true => have := hd ht i hih; rw [hli] at this; cases this
      have h1 := H.2 j (ready_mono hj hji)
      have h2 := wpOp_putIf hoj (hfree j oj hoj hji hjun hnot) (fun cs b => hsel i oi cs b hi) (fun cs b => hsel j oj cs b hoj) hQ hy h1
      have hfree' : ∀ k ok, ops[k]? = some ok → k ≠ i → (listed.setIfInBounds j true).getD k true = false →
          (∀ e ∈ ok.after, Region.binds .any e = true → e.on ≠ i) → oi.apart ops ok = true := fun k ok hk hki hun hno => by
        refine hfree k ok hk hki ?_ hno
        by_cases hjk : j = k
        · subst hjk; exact hjun
        · rw [getD_set_ne true hjk] at hun; exact hun
      refine wpOp_mono (fun a' w' h3 => ?_) h2
      have hS' : S w' := by
        rcases h3.2.1 with ht | hS'
        · rw [anyTail_set_other hjt, anyTail_set_other hit, hnt] at ht; cases ht
        · exact hS'
      refine ⟨.inr hS', ih (listed.setIfInBounds j true) a' w' (hd.set hwait hj) hfree' (ready_mono hr (Ne.symm hji)) h3.1 hS' ?_⟩
      rw [Array.setIfInBounds_comm _ _ hji]
      exact h3.2.2
/-- An operation that yields in every world may be taken first. -/
theorem wpAnyK_pure {i : Nat} {oi : Oper} {v : Value} (hi : ops[i]? = some oi) (hit : i ∉ tails) (hsel : ∀ (j : Nat) (o : Oper) cs b, ops[j]? = some o → o.op ≠ .select cs b)
    (hQ : ∀ c a w, Q (.panic c) (a.put oi.dst v) w → Q (.panic c) a w) :
    ∀ (fuel : Nat) (listed : Array Bool) (a : Act) (w : World),
      (∀ j oj, ops[j]? = some oj → j ≠ i → listed.getD j true = false → (∀ e ∈ oj.after, Region.binds .any e = true → e.on ≠ i) → oi.apart ops oj = true) →
      i ∈ Region.ready .any ops listed → YieldsIf P ops (fun _ => True) oi v a → (anyTail tails listed = true ∨ S w) →
      wpAnyK P ops Q S tails fuel (listed.setIfInBounds i true) (a.put oi.dst v) w → wpAnyK P ops Q S tails (fuel + 1) listed a w := by
  intro fuel
  induction fuel with
  | zero =>
    intro listed a w _ hr hy hS H
    refine ⟨fun h => (by rw [h] at hr; cases hr), fun j hj => ?_⟩
    by_cases hji : j = i
    · subst hji; exact hy.wpOp hi trivial ⟨hS.imp anyTail_set_mono id, H⟩
    · have := ready_mono hj hji
      rw [H.1] at this
      cases this
  | succ fuel ih =>
    intro listed a w hfree hr hy hS H
    have hli : listed.getD i false = false := getD_false_of (mem_ready.1 hr).1
    refine ⟨fun h => (by rw [h] at hr; cases hr), fun j hj => ?_⟩
    by_cases hji : j = i
    · subst hji; exact hy.wpOp hi trivial ⟨hS.imp anyTail_set_mono id, H⟩
    · obtain ⟨hjun, oj, hoj, hall⟩ := mem_ready.1 hj
      have hnot : ∀ e ∈ oj.after, Region.binds .any e = true → e.on ≠ i := fun e he hb heq => by
        have h1 := hall e he hb
        rw [heq] at h1
        rw [hli] at h1
        cases h1
      have h1 := H.2 j (ready_mono hj hji)
      have h2 := wpOp_putIf hoj (hfree j oj hoj hji hjun hnot) (fun cs b => hsel i oi cs b hi) (fun cs b => hsel j oj cs b hoj) hQ hy h1
      have hfree' : ∀ k ok, ops[k]? = some ok → k ≠ i → (listed.setIfInBounds j true).getD k true = false →
          (∀ e ∈ ok.after, Region.binds .any e = true → e.on ≠ i) → oi.apart ops ok = true := fun k ok hk hki hun hno => by
        refine hfree k ok hk hki ?_ hno
        by_cases hjk : j = k
        · subst hjk; exact hjun
        · rw [getD_set_ne true hjk] at hun; exact hun
      refine wpOp_mono (fun a' w' h3 => ?_) h2
      have hS' : anyTail tails (listed.setIfInBounds j true) = true ∨ S w' := by
        refine h3.2.1.imp (fun ht => ?_) id
        rw [Array.setIfInBounds_comm _ _ (Ne.symm hji), anyTail_set_other hit] at ht
        exact ht
      refine ⟨hS', ih (listed.setIfInBounds j true) a' w' hfree' (ready_mono hr (Ne.symm hji)) h3.1 hS' ?_⟩
      rw [Array.setIfInBounds_comm _ _ hji]
      exact h3.2.2
end held

theorem contains_false {l : List Nat} {i : Nat} (h : l.contains i = false) : i ∉ l := by
  intro hm
  have : l.contains i = true := by simpa using hm
  rw [h] at this
  cases this
theorem anyTail_set {tails : List Nat} {listed : Array Bool} {i : Nat} (hlt : i < listed.size) : anyTail tails (listed.setIfInBounds i true) = (anyTail tails listed || tails.contains i) := by
  cases hc : tails.contains i with
  | false => rw [anyTail_set_other (contains_false hc)]; simp
  | true =>
    rw [Bool.or_true]
    unfold anyTail
    rw [List.any_eq_true]
    exact ⟨i, by simpa using hc, by simp [Array.getElem?_setIfInBounds, hlt]⟩
theorem ready_lt {ops : Array Oper} {listed : Array Bool} {i : Nat} (h : i ∈ Region.ready .any ops listed) : i < listed.size := by
  have := (mem_ready.1 h).1
  rcases Nat.lt_or_ge i listed.size with h' | h'
  · exact h'
  · simp [Array.getElem?_eq_none h'] at this

theorem dopsI_any {P : Program} {S : World → Prop} {n : Nat} {all : List Oper} {heads tails : List Nat} (hn : dstOk n all = true) (hsel : Region.noSelect all.toArray = true) (hw : tailsWait all heads tails = true) {Q : Exit → Env → World → Prop} (hQ : ∀ c E w, ¬ Q (.panic c) E w) :
    ∀ (p : Plan) (fuel : Nat) (listed : Array Bool), planOk all heads tails fuel p listed = true → Down all.toArray heads tails listed → ∀ (t : Bool), t = anyTail tails listed → ∀ (a : Act) (E : Env) (w : World), Rep n a E → (t = true ∨ S w) → dopsI P S all tails (Q .normal) p t E w →
      wpAnyK P all.toArray (lift n Q) S tails fuel listed a w := by
  have hQ' : ∀ (c : List PanicEntry) (a a' : Act) (w : World), lift n Q (.panic c) a' w → lift n Q (.panic c) a w := fun c a a' w ⟨E, _, h⟩ => (hQ c E w h).elim
  have hdst : ∀ (i : Nat) (o : Oper), all[i]? = some o → ∀ d, o.dst = some d → d < n := fun i o hi d hd => by
    have := List.all_eq_true.1 hn o (List.mem_of_getElem? hi)
    simpa [hd] using this
  have hwait : ∀ (j : Nat) (oj : Oper), all.toArray[j]? = some oj → j ∈ tails → ∀ h ∈ heads, ∃ e ∈ oj.after, Region.binds .any e = true ∧ e.on = h := by
    intro j oj hj hjt h hh
    rw [List.getElem?_toArray] at hj
    have := List.all_eq_true.1 hw j hjt
    simp only [hj] at this
    have := List.all_eq_true.1 this h hh
    obtain ⟨e, he, hb⟩ := Array.any_eq_true'.1 this
    simp only [Bool.and_eq_true, beq_iff_eq] at hb
    exact ⟨e, he, hb.1, hb.2⟩
  intro p
  induction p with
  | done =>
    intro fuel listed hok _ t _ a E w hr _ h
    have hok' : Region.ready .any all.toArray listed = [] := by cases fuel <;> simpa [planOk] using hok
    cases fuel with
    | zero => exact ⟨hok', E, hr, h⟩
    | succ fuel => exact ⟨fun _ => ⟨E, hr, h⟩, by rw [hok']; simp⟩
  | q i p ih =>
    intro fuel listed hok hd t ht a E w hr hS h
    cases fuel with
    | zero => simp [planOk] at hok
    | succ fuel =>
      simp only [planOk, Bool.and_eq_true, Bool.not_eq_true'] at hok
      obtain ⟨⟨⟨⟨hih, hit⟩, hf⟩, hrd⟩, hok⟩ := hok
      have hih : i ∈ heads := by simpa using hih
      have hit := contains_false hit
      have hrd : i ∈ Region.ready .any all.toArray listed := by simpa using hrd
      have hSw : S w := by
        rcases hS with hS | hS
        · have hl := getD_false_of (mem_ready.1 hrd).1
          have := hd (ht ▸ hS) i hih
          rw [hl] at this; cases this
        · exact hS
      obtain ⟨o, hi, h⟩ := h
      have hi' : all.toArray[i]? = some o := by simpa using hi
      have ht' : t = anyTail tails (listed.setIfInBounds i true) := by rw [anyTail_set_other hit]; exact ht
      rcases h with ⟨hw, v, hv, h⟩ | ⟨hw, h⟩
      · refine wpAnyK_first (v := v) hi' hih hit (Region.noSelect_spec hsel) hwait (fun c a w hh => hQ' c a _ w hh) fuel listed a w hd (Region.free_spec hi' hf) hrd (.inl ⟨by rw [hr.wanted]; exact hw, fun w' hS' => by rw [hr.ev]; exact hv w' hS'⟩) hSw ?_
        exact ih fuel _ hok (hd.set hwait hrd) t ht' _ _ w (hr.put _ _ (hdst i o hi)) hS h
      · refine wpAnyK_first (v := undef) hi' hih hit (Region.noSelect_spec hsel) hwait (fun c a w hh => hQ' c a _ w hh) fuel listed a w hd (Region.free_spec hi' hf) hrd (.inr ⟨by rw [hr.wanted]; exact hw, rfl⟩) hSw ?_
        exact ih fuel _ hok (hd.set hwait hrd) t ht' _ _ w (hr.put _ _ (hdst i o hi)) hS h
  | p i p ih =>
    intro fuel listed hok hd t ht a E w hr hS h
    cases fuel with
    | zero => simp [planOk] at hok
    | succ fuel =>
      simp only [planOk, Bool.and_eq_true, Bool.not_eq_true'] at hok
      obtain ⟨⟨⟨hit, hf⟩, hrd⟩, hok⟩ := hok
      have hit := contains_false hit
      have hrd : i ∈ Region.ready .any all.toArray listed := by simpa using hrd
      obtain ⟨o, hi, h⟩ := h
      have hi' : all.toArray[i]? = some o := by simpa using hi
      have ht' : t = anyTail tails (listed.setIfInBounds i true) := by rw [anyTail_set_other hit]; exact ht
      rcases h with ⟨hw, v, hv, h⟩ | ⟨hw, h⟩
      · refine wpAnyK_pure (v := v) hi' hit (Region.noSelect_spec hsel) (fun c a w hh => hQ' c a _ w hh) fuel listed a w (Region.free_spec hi' hf) hrd (.inl ⟨by rw [hr.wanted]; exact hw, fun w' hS' => by rw [hr.ev]; exact hv w' hS'⟩) (ht ▸ hS) ?_
        exact ih fuel _ hok (hd.set hwait hrd) t ht' _ _ w (hr.put _ _ (hdst i o hi)) hS h
      · refine wpAnyK_pure (v := undef) hi' hit (Region.noSelect_spec hsel) (fun c a w hh => hQ' c a _ w hh) fuel listed a w (Region.free_spec hi' hf) hrd (.inr ⟨by rw [hr.wanted]; exact hw, rfl⟩) (ht ▸ hS) ?_
        exact ih fuel _ hok (hd.set hwait hrd) t ht' _ _ w (hr.put _ _ (hdst i o hi)) hS h
  | e i p ih =>
    intro fuel listed hok hd t ht a E w hr hS h
    cases fuel with
    | zero => simp [planOk] at hok
    | succ fuel =>
      simp only [planOk, Bool.and_eq_true, beq_iff_eq] at hok
      obtain ⟨hrd, hok⟩ := hok
      obtain ⟨o, hi, h⟩ := h
      have hmem : i ∈ Region.ready .any all.toArray listed := by rw [hrd]; simp
      have ht' : (t || tails.contains i) = anyTail tails (listed.setIfInBounds i true) := by rw [anyTail_set (ready_lt hmem), ht]
      refine ⟨fun h0 => by rw [hrd] at h0; simp at h0, ?_⟩
      intro j hj
      obtain rfl : j = i := by rw [hrd] at hj; simpa using hj
      exact stepI_wpOp hn hi (fun a' E' w' hr' hh => ⟨ht' ▸ hh.1, ih fuel _ hok (hd.set hwait hmem) _ ht' a' E' w' hr' hh.1 hh.2⟩) hr h
  | br i p j p' ih ih' =>
    intro fuel listed hok hd t ht a E w hr hS h
    cases fuel with
    | zero => simp [planOk] at hok
    | succ fuel =>
      simp only [planOk, Bool.and_eq_true, beq_iff_eq] at hok
      obtain ⟨⟨hrd, hok1⟩, hok2⟩ := hok
      obtain ⟨⟨o, hi, h⟩, ⟨o', hj, h'⟩⟩ := h
      have hmi : i ∈ Region.ready .any all.toArray listed := by rw [hrd]; simp
      have hmj : j ∈ Region.ready .any all.toArray listed := by rw [hrd]; simp
      have hti : (t || tails.contains i) = anyTail tails (listed.setIfInBounds i true) := by rw [anyTail_set (ready_lt hmi), ht]
      have htj : (t || tails.contains j) = anyTail tails (listed.setIfInBounds j true) := by rw [anyTail_set (ready_lt hmj), ht]
      refine ⟨fun h0 => by rw [hrd] at h0; simp at h0, ?_⟩
      intro m hm
      rcases (by rw [hrd] at hm; simpa using hm : m = i ∨ m = j) with rfl | rfl
      · exact stepI_wpOp hn hi (fun a' E' w' hr' hh => ⟨hti ▸ hh.1, ih fuel _ hok1 (hd.set hwait hmi) _ hti a' E' w' hr' hh.1 hh.2⟩) hr h
      · exact stepI_wpOp hn hj (fun a' E' w' hr' hh => ⟨htj ▸ hh.1, ih' fuel _ hok2 (hd.set hwait hmj) _ htj a' E' w' hr' hh.1 hh.2⟩) hr h'

/-- Every destination in the code is below n. -/
def codeOk (n : Nat) : Code → Bool
  | .region _ ops _ => dstOk n ops.toList
  | .seq a b => codeOk n a && codeOk n b
  | .cond _ a b => codeOk n a && codeOk n b
  | .block _ b => codeOk n b
  | .loop b => codeOk n b
  | .scope b => codeOk n b
  | .rangeFunc .. => false
  | _ => true

def Wp (P : Program) (n : Nat) (c : Code) (Q : Exit → Env → World → Prop) (E : Env) (w : World) : Prop :=
  codeOk n c = true → ∀ a, Rep n a E → c.wp P (lift n Q) a w

/-- What is left to do. -/
inductive Fr where
  | code (c : Code)
  | blk (id : Nat)
  | ops (all rest : List Oper)
  | dops (S : World → Prop) (all : List Oper) (tails : List Nat) (p : Plan) (t : Bool)
  | chk (S : World → Prop)
  | upto (I : Env → World → Prop)

/-- The stack as a continuation. -/
def Den (P : Program) (n : Nat) (R : Env → World → Prop) : List Fr → Exit → Env → World → Prop
  | [], .normal => R
  | [], .ret => R
  | [], _ => fun _ _ => False
  | .code c :: k, .normal => Wp P n c (Den P n R k)
  | .blk _ :: k, .normal => Den P n R k .normal
  | .ops all rest :: k, .normal => opsI P all (Den P n R k .normal) rest
  | .dops S all tails p t :: k, .normal => dopsI P S all tails (Den P n R k .normal) p t
  | .chk S :: k, .normal => fun E w => S w ∧ Den P n R k .normal E w
  | .upto I :: _, .normal => I
  | .blk id :: k, .exit j => if j = id then Den P n R k .normal else Den P n R k (.exit j)
  | _ :: k, e => Den P n R k e

/-- (A structure, so that no elaborator unfolds it.) -/
structure Go (P : Program) (n : Nat) (R : Env → World → Prop) (k : List Fr) (E : Env) (w : World) : Prop where
  out : Den P n R k .normal E w

section rules
variable {P : Program} {n : Nat} {R : Env → World → Prop} {k : List Fr} {E : Env} {w : World}

theorem go_nil (h : R E w) : Go P n R [] E w := ⟨h⟩
theorem go_upto {I : Env → World → Prop} (h : I E w) : Go P n R (.upto I :: k) E w := ⟨h⟩
theorem go_blk {id : Nat} (h : Go P n R k E w) : Go P n R (.blk id :: k) E w := ⟨h.out⟩
theorem go_ops_nil {all : List Oper} (h : Go P n R k E w) : Go P n R (.ops all [] :: k) E w := ⟨h.out⟩
theorem go_skip (h : Go P n R k E w) : Go P n R (.code .skip :: k) E w := ⟨fun _ a hr => wp_skip ⟨E, hr, h.out⟩⟩
theorem go_label {l : Nat} (h : Go P n R k E w) : Go P n R (.code (.label l) :: k) E w := ⟨fun _ a hr => wp_label ⟨E, hr, h.out⟩⟩

theorem den_ret : ∀ k : List Fr, R E w → Den P n R k .ret E w
  | [], h => h
  | .code _ :: k, h => den_ret k h
  | .blk _ :: k, h => den_ret k h
  | .ops _ _ :: k, h => den_ret k h
  | .dops _ _ _ _ _ :: k, h => den_ret k h
  | .chk _ :: k, h => den_ret k h
  | .upto _ :: k, h => den_ret k h
theorem go_ret (h : R E w) : Go P n R (.code .ret :: k) E w := ⟨fun _ a hr => wp_ret ⟨E, hr, den_ret k h⟩⟩

theorem go_seq {a b : Code} (h : Go P n R (.code a :: .code b :: k) E w) : Go P n R (.code (.seq a b) :: k) E w := by
  refine ⟨?_⟩
  intro hok act hr
  simp only [codeOk, Bool.and_eq_true] at hok
  refine wp_seq (wp_mono (h.out hok.1 act hr) ?_)
  rintro e a' w' ⟨E', hr', hq⟩
  cases e with
  | normal => exact hq hok.2 a' hr'
  | exit id => exact ⟨E', hr', hq⟩
  | goto l => exact ⟨E', hr', hq⟩
  | ret => exact ⟨E', hr', hq⟩
  | panic c => exact ⟨E', hr', hq⟩
  | outgrown => exact ⟨E', hr', hq⟩

theorem go_cond {c : Operand} {x y : Code} {t : Bool} (hc : ev E c = .bool t) (h : Go P n R (.code (bif t then x else y) :: k) E w) : Go P n R (.code (.cond c x y) :: k) E w := by
  refine ⟨?_⟩
  intro hok act hr
  simp only [codeOk, Bool.and_eq_true] at hok
  refine wp_cond (t := t) (by rw [hr.ev]; exact hc) ?_
  cases t
  · exact h.out hok.2 act hr
  · exact h.out hok.1 act hr
theorem go_cond_true {c : Operand} {x y : Code} (hc : ev E c = .bool true) (h : Go P n R (.code x :: k) E w) : Go P n R (.code (.cond c x y) :: k) E w := go_cond hc h
theorem go_cond_false {c : Operand} {x y : Code} (hc : ev E c = .bool false) (h : Go P n R (.code y :: k) E w) : Go P n R (.code (.cond c x y) :: k) E w := go_cond hc h

theorem go_block {id : Nat} {c : Code} (h : Go P n R (.code c :: .blk id :: k) E w) : Go P n R (.code (.block id c) :: k) E w := by
  refine ⟨?_⟩
  intro hok act hr
  refine wp_block (wp_mono (h.out hok act hr) ?_)
  rintro e a' w' ⟨E', hr', hq⟩
  cases e with
  | normal => exact ⟨E', hr', hq⟩
  | exit j =>
    simp only [Exit.inBlock]
    simp only [Den] at hq
    by_cases hj : j = id
    · simp only [hj, if_true] at hq ⊢; exact ⟨E', hr', hq⟩
    · simp only [hj, if_false] at hq ⊢; exact ⟨E', hr', hq⟩
  | goto l => exact ⟨E', hr', hq⟩
  | ret => exact ⟨E', hr', hq⟩
  | panic c => exact ⟨E', hr', hq⟩
  | outgrown => exact ⟨E', hr', hq⟩

/-- Leaving a block: the stack is popped. -/
def popTo (id : Nat) : List Fr → Option (List Fr)
  | [] => none
  | .blk j :: k => bif Nat.beq id j then some k else popTo id k
  | _ :: k => popTo id k
theorem den_exit {id : Nat} : ∀ {k k' : List Fr}, popTo id k = some k' → Den P n R k' .normal E w → Den P n R k (.exit id) E w
  | [], _, h, _ => by simp [popTo] at h
  | .blk j :: k, k', h, hd => by
    simp only [Den]
    by_cases hj : id = j
    · subst hj
      simp [popTo] at h
      subst h
      simpa using hd
    · have : Nat.beq id j = false := beq_false_of hj
      simp only [popTo, this, cond_false] at h
      simp only [hj, if_false]
      exact den_exit h hd
  | .code _ :: k, _, h, hd => den_exit (k := k) h hd
  | .ops _ _ :: k, _, h, hd => den_exit (k := k) h hd
  | .dops _ _ _ _ _ :: k, _, h, hd => den_exit (k := k) h hd
  | .chk _ :: k, _, h, hd => den_exit (k := k) h hd
  | .upto _ :: k, _, h, hd => den_exit (k := k) h hd
theorem go_exit {id : Nat} {k' : List Fr} (hp : popTo id k = some k') (h : Go P n R k' E w) : Go P n R (.code (.exit id) :: k) E w :=
  ⟨fun _ a hr => wp_exit ⟨E, hr, den_exit hp h.out⟩⟩

theorem go_region {id : Nat} {l : List Oper} (h : Go P n R (.ops l l :: k) E w) : Go P n R (.code (.region id l.toArray false) :: k) E w := by
  refine ⟨?_⟩
  intro hok act hr
  simp only [codeOk] at hok
  refine wp_region ?_
  have := opsI_wpOps (P := P) (Q := Den P n R k) hok l 0 (by simp) act E w hr h.out
  simpa [List.range_eq_range'] using this

theorem den_panic {c : List PanicEntry} : ∀ k : List Fr, ¬ Den P n R k (.panic c) E w
  | [] => fun h => h
  | .code _ :: k => den_panic k
  | .blk _ :: k => den_panic k
  | .ops _ _ :: k => den_panic k
  | .dops _ _ _ _ _ :: k => den_panic k
  | .chk _ :: k => den_panic k
  | .upto _ :: k => den_panic k
theorem go_dops_done {S : World → Prop} {all : List Oper} {tails : List Nat} {t : Bool} (h : Go P n R k E w) : Go P n R (.dops S all tails .done t :: k) E w := ⟨h.out⟩
theorem go_chk {S : World → Prop} (hS : S w) (h : Go P n R k E w) : Go P n R (.chk S :: k) E w := ⟨hS, h.out⟩
theorem go_de {S : World → Prop} {all : List Oper} {tails : List Nat} {t : Bool} {i : Nat} {p : Plan} {o : Oper} (hi : all[i]? = some o) (ht : (t || tails.contains i) = false) (h : Go P n R (.ops all [o] :: .chk S :: .dops S all tails p false :: k) E w) : Go P n R (.dops S all tails (.e i p) t :: k) E w := by
  refine ⟨o, hi, ?_⟩
  rw [ht]
  exact stepI_mono (fun E' w' hh => ⟨.inr hh.1, hh.2⟩) h.out
theorem go_dt {S : World → Prop} {all : List Oper} {tails : List Nat} {t : Bool} {i : Nat} {p : Plan} {o : Oper} (hi : all[i]? = some o) (ht : (t || tails.contains i) = true) (h : Go P n R (.ops all [o] :: .dops S all tails p true :: k) E w) : Go P n R (.dops S all tails (.e i p) t :: k) E w := by
  refine ⟨o, hi, ?_⟩
  rw [ht]
  exact stepI_mono (fun E' w' hh => ⟨.inl rfl, hh⟩) h.out
theorem go_dbr {S : World → Prop} {all : List Oper} {tails : List Nat} {t : Bool} {i j : Nat} {p p' : Plan} (h : Go P n R (.dops S all tails (.e i p) t :: k) E w) (h' : Go P n R (.dops S all tails (.e j p') t :: k) E w) :
    Go P n R (.dops S all tails (.br i p j p') t :: k) E w := ⟨h.out, h'.out⟩
/-- A region that draws, by a plan, under a class S of worlds. -/
theorem go_draw {id : Nat} {l : List Oper} (hm : P.follows .mixedOrders = true) (S : World → Prop) (heads tails : List Nat) (p : Plan) (hp : planned l heads tails p = true) (hS : S w.drew) (h : Go P n R (.dops S l tails p false :: k) E w.drew) : Go P n R (.code (.region id l.toArray true) :: k) E w := by
  refine ⟨?_⟩
  intro hok act hr
  simp only [codeOk] at hok
  simp only [planned, Bool.and_eq_true] at hp
  refine wp_region_any hm (wpAny_of_K (S := S) (tails := tails) _ _ _ _ ?_)
  have hnone : anyTail tails (Array.replicate l.length false) = false := by
    unfold anyTail
    rw [List.any_eq_false]
    intro x _
    simp only [Array.getD_eq_getD_getElem?, Array.getElem?_replicate]
    split <;> simp
  have := dopsI_any (P := P) (S := S) (Q := Den P n R k) hok hp.1.1 hp.1.2 (fun c E w => den_panic k) p l.length _ hp.2 (fun ht => by rw [hnone] at ht; cases ht) false hnone.symm act E w.drew hr (.inr hS) h.out
  simpa using this

/-! ### Loops -/
def Agree (mods : List Nat) (E E0 : Env) : Prop := ∀ t, mods.contains t = false → E t = E0 t
theorem Agree.refl (mods : List Nat) (E : Env) : Agree mods E E := fun _ _ => rfl
theorem Agree.upd {mods : List Nat} {E E0 : Env} {d : Nat} {v : Value} (hd : mods.contains d = true) (h : Agree mods E E0) : Agree mods (upd E d v) E0 := fun t ht => by
  rw [upd_other]
  · exact h t ht
  · intro e; subst e; rw [hd] at ht; cases ht
def havoc (mods : List Nat) (X E : Env) : Env := fun t => bif mods.contains t then X t else E t
theorem Agree.havoc {mods mods' : List Nat} {X E E0 : Env} (hs : mods'.all (mods.contains ·) = true) (h : Agree mods E E0) : Agree mods (havoc mods' X E) E0 := fun t ht => by
  have : mods'.contains t = false := by
    cases hc : mods'.contains t with
    | false => rfl
    | true => rw [List.all_eq_true] at hs; rw [hs t (by simpa using hc)] at ht; cases ht
  simp only [Gw.havoc, this, cond_false]
  exact h t ht
def updL (E : Env) : List (Nat × Value) → Env
  | [] => E
  | (d, v) :: l => upd (updL E l) d v
def Holds (E : Env) : List (Nat × Value) → Prop
  | [] => True
  | (d, v) :: l => E d = v ∧ Holds E l
theorem updL_of_holds {E : Env} : ∀ {l : List (Nat × Value)}, Holds E l → updL E l = E
  | [], _ => rfl
  | (d, v) :: l, h => by
    simp only [updL, updL_of_holds h.2]
    funext t
    by_cases ht : t = d
    · subst ht; rw [upd_same]; exact h.1.symm
    · rw [upd_other _ _ _ _ ht]
theorem Agree.updL {mods : List Nat} {E E0 : Env} : ∀ {l : List (Nat × Value)}, (l.all fun x => mods.contains x.1) = true → Agree mods E E0 → Agree mods (updL E l) E0
  | [], _, h => h
  | (d, v) :: l, hl, h => by
    simp only [List.all_cons, Bool.and_eq_true] at hl
    exact Agree.upd hl.1 (Agree.updL hl.2 h)

theorem havoc_of_agree {mods : List Nat} {E E0 : Env} (h : Agree mods E E0) : havoc mods E E0 = E := by
  funext t
  unfold havoc
  cases hc : mods.contains t with
  | true => rfl
  | false => simp only [cond_false]; exact (h t hc).symm

/-- A loop: 'mods' the slots that a round may write; 'env g' what the slots of a round's head hold at the ghost g; 'I g' what the world is like; 'μ' falls. -/
theorem go_loop {body : Code} {G : Type} (mods : List Nat) (env : G → List (Nat × Value)) (I : G → World → Prop) (μ : G → Nat) (g0 : G)
    (h0 : Holds E (env g0)) (h1 : I g0 w)
    (round : ∀ (g : G) (X : Env) (w' : World), I g w' →
      Go P n R (.code body :: .upto (fun E' w'' => ∃ g', Agree mods E' E ∧ Holds E' (env g') ∧ I g' w'' ∧ μ g' < μ g) :: k) (updL (havoc mods X E) (env g)) w') :
    Go P n R (.code (.loop body) :: k) E w := by
  refine ⟨?_⟩
  intro hok act hr
  simp only [codeOk] at hok
  refine wp_loop_ghost (fun m a w => ∃ g E', μ g = m ∧ Rep n a E' ∧ Agree mods E' E ∧ Holds E' (env g) ∧ I g w) (μ g0) ⟨g0, E, rfl, hr, Agree.refl _ _, h0, h1⟩ ?_
  rintro m a w ⟨g, E', hmu, hrep, hag, hh, hI⟩
  have hE : updL (havoc mods E' E) (env g) = E' := by rw [havoc_of_agree hag, updL_of_holds hh]
  have hround := round g E' w hI
  rw [hE] at hround
  refine wp_mono (hround.out hok a hrep) ?_
  rintro e a' w' ⟨E'', hr', hq⟩
  cases e with
  | normal =>
    obtain ⟨g', hag', hh', hI', hlt⟩ := hq
    exact ⟨μ g', by omega, g', E'', rfl, hr', hag', hh', hI'⟩
  | exit j => exact ⟨E'', hr', hq⟩
  | goto l => exact ⟨E'', hr', hq⟩
  | ret => exact ⟨E'', hr', hq⟩
  | panic c => exact ⟨E'', hr', hq⟩
  | outgrown => exact ⟨E'', hr', hq⟩
end rules

/-- The frame at the start. -/
def initE (args : List Value) : Env := fun t => (args[t]?).getD undef

theorem calls_of_go {P : Program} {f : FuncId} {fn : Func} {c : Code} {args : List Value} {w : World} {Φ : Value → World → Prop} (hf : P.funcs[f]? = some fn) (hb : fn.body = some c)
    (hn : args.length ≤ fn.ntmps) (hok : codeOk fn.ntmps c = true) (R : Env → World → Prop)
    (hR : ∀ E w (tmps : Array Value), (∀ t, tmps.getD t undef = E t) → R E w → ∃ v, (results fn tmps).run P w = .ok v w ∧ Φ v w)
    (h : Go P fn.ntmps R [.code c] (initE args) w) :
    Calls P f args.toArray w fun e w' => ∃ v, e = .returned v ∧ Φ v w' := by
  refine calls_of_wp hf hb ?_
  have hrep : Rep fn.ntmps { tmps := args.toArray ++ Array.replicate (fn.ntmps - args.toArray.size) undef, defers := [] } (initE args) := by
    refine ⟨by simp; omega, fun t => ?_, rfl⟩
    unfold initE
    simp only [Array.getD_eq_getD_getElem?, Array.getElem?_append, List.size_toArray, List.getElem?_toArray, Array.getElem?_replicate]
    split
    · rfl
    · rename_i hlt
      rw [List.getElem?_eq_none (by omega)]
      split <;> rfl
  refine wp_mono (h.out hok _ hrep) ?_
  rintro e a' w' ⟨E', hr', hq⟩
  cases e with
  | normal => obtain ⟨v, hv, hΦ⟩ := hR E' w' a'.tmps hr'.get hq; exact ⟨hr'.defers, v, hv, v, rfl, hΦ⟩
  | ret => obtain ⟨v, hv, hΦ⟩ := hR E' w' a'.tmps hr'.get hq; exact ⟨hr'.defers, v, hv, v, rfl, hΦ⟩
  | exit j => exact hq.elim
  | goto l => exact hq.elim
  | panic c => exact hq.elim
  | outgrown => exact hq.elim

end Go.Gw
