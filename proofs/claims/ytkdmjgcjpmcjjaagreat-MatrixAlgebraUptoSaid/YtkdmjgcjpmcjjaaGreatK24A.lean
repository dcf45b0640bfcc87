/- Part. -/
import Derived.Orders
import Derived.OrdersHeld
import Derived.Below
import Derived.KernelRfl
import Derived.Deep.LoopGhost
import Derived.WalkKit
import Derived.OwnWalk
import Derived.Maps.RangeRun
import Derived.DeepKeys3
namespace Go.Gw
open Go Go.RowKit
abbrev Env := Nat -> Value
def upd (E : Env) (d : Nat) (v : Value) : Env := fun t => bif Nat.beq t d then v else E t
def F3d (E : Env) : Option Tmp -> Value -> Env
  | some d, v => upd E d v
  | none, _ => E
def ev (E : Env) : Operand -> Value
  | .tmp t => E t
  | .const v => v
  | .global g => .pointer (some ⟨g, 0, none⟩)
  | .func f => .func (.func f) #[] #[]
theorem F5 {t d : Nat} (h : t ≠ d) : Nat.beq t d = false := by
  cases hb : Nat.beq t d with
  | false => rfl
  | true => exact absurd (Nat.eq_of_beq_eq_true hb) h
theorem E3 (E : Env) (d : Nat) (v : Value) : upd E d v d = v := by simp [upd]
theorem D4 (E : Env) (d t : Nat) (v : Value) (h : t ≠ d) : upd E d v t = E t := by
  have : Nat.beq t d = false := F5 h
  simp [upd, this]
structure Rep (n : Nat) (a : Act) (E : Env) : Prop where
  size : a.tmps.size = n
  get : ∀ t, a.tmps.getD t undef = E t
  defers : a.defers = []
theorem Rep.ev {n : Nat} {a : Act} {E : Env} (h : Rep n a E) : a.eval = Gw.ev E := by
  funext x
  cases x with
  | tmp t => exact h.get t
  | _ => rfl
def F4l (n : Nat) (l : List Oper) : Bool := l.all fun o => match o.dst with | some d => decide (d < n) | none => true
theorem Rep.put {n : Nat} {a : Act} {E : Env} (h : Rep n a E) (o : Option Tmp) (v : Value) (ho : ∀ d, o = some d -> d < n) : Rep n (a.put o v) (F3d E o v) := by
  cases o with
  | none => exact h
  | some d =>
    have hd := ho d rfl
    refine ⟨by simp [Act.put, h.size], fun t => ?_, h.defers⟩
    have hs := h.size
    have hg := h.get t
    by_cases htd : t = d
    . subst htd
      simp [Act.put, F3d, E3, Array.getElem?_setIfInBounds, hs, hd]
    . simp only [F3d, D4 _ _ _ _ htd]
      rw [<- hg]
      simp [Act.put, Array.getElem?_setIfInBounds, Ne.symm htd]
def A0s (all : List Oper) (E : Env) (j : Nat) : Option Bool :=
  match (all[j]?).bind (·.dst) with
  | some t => match E t with | .bool b => some b | _ => none
  | none => none
def G4 (all : List Oper) (o : Oper) (E : Env) : Bool :=
  match o.guard with
  | none => true
  | some (j, want) => A0s all E j == some want
theorem Rep.yielded {n : Nat} {a : Act} {E : Env} (h : Rep n a E) (all : List Oper) (j : Nat) : yielded all.toArray a.tmps j = A0s all E j := by
  unfold Go.yielded A0s
  rw [List.getElem?_toArray]
  cases hq : (all[j]?).bind (·.dst) with
  | none => simp
  | some t =>
    simp only [Option.bind_some]
    have hg := h.get t
    cases ht : a.tmps[t]? with
    | none =>
      have : a.tmps.getD t undef = undef := by simp [ht]
      rw [this] at hg
      simp [<- hg, undef]
    | some v =>
      have : a.tmps.getD t undef = v := by simp [ht]
      rw [this] at hg
      rw [<- hg]
      cases v <;> rfl
theorem Rep.wanted {n : Nat} {a : Act} {E : Env} (h : Rep n a E) (all : List Oper) (o : Oper) : Region.wanted o (Go.yielded all.toArray a.tmps) = G4 all o E := by
  unfold Region.wanted G4
  cases o.guard with
  | none => rfl
  | some g => simp only [h.yielded]
def U9 (P : Program) (all : List Oper) (o : Oper) (next : Env -> World -> Prop) (E : Env) (w : World) : Prop :=
  if G4 all o E = true then
    match (execOp (ev E) o).run P w with
    | .ok (.value v) w' => next (F3d E o.dst v) w'
    | .ok .skip w' => next (F3d E o.dst undef) w'
    | .ok (.enter f args) w' => Calls P f args w' fun e w'' => ∃ v, e = .returned v /\ next (F3d E o.dst v) w''
    | _ => False
  else next (F3d E o.dst undef) w
def G1z (P : Program) (all : List Oper) (next : Env -> World -> Prop) : List Oper -> Env -> World -> Prop
  | [] => next
  | o :: r => U9 P all o (G1z P all next r)
def E3a (n : Nat) (Q : Exit -> Env -> World -> Prop) : Exit -> Act -> World -> Prop := fun e a w => ∃ E, Rep n a E /\ Q e E w
theorem O3 {P : Program} {all : List Oper} {o : Oper} {next next' : Env -> World -> Prop} (h : ∀ E w, next E w -> next' E w) {E : Env} {w : World} (hs : U9 P all o next E w) : U9 P all o next' E w := by
  unfold U9 at *
  split
  . rename_i hw
    simp only [hw, if_true] at hs
    generalize (execOp (ev E) o).run P w = r at *
    cases r with
    | ok m w' =>
      cases m <;> simp only at hs ⊢
      case value v => exact h _ _ hs
      case skip => exact h _ _ hs
      case enter f args => exact hs.mono fun e w'' ⟨v, he, hn⟩ => ⟨v, he, h _ _ hn⟩
    | halt x w' => exact hs
  . rename_i hw
    simp only [hw] at hs
    exact h _ _ hs
theorem D4u {P : Program} {n : Nat} {all : List Oper} (hn : F4l n all = true) {i : Nat} {o : Oper} (hi : all[i]? = some o) {Q : Exit -> Act -> World -> Prop} {K : Act -> World -> Prop} {next : Env -> World -> Prop}
    (hK : ∀ a E w, Rep n a E -> next E w -> K a w) {a : Act} {E : Env} {w : World} (hr : Rep n a E) (h : U9 P all o next E w) : wpOp P all.toArray Q i K a w := by
  have hd : ∀ d, o.dst = some d -> d < n := fun d hd => by
    have := List.all_eq_true.1 hn o (List.mem_of_getElem? hi)
    simpa [hd] using this
  unfold wpOp
  simp only [List.getElem?_toArray, hi]
  rw [hr.wanted]
  unfold U9 at h
  split
  . rename_i hw
    simp only [hw, if_true] at h
    refine .inl ?_
    unfold Oper.wp
    rw [hr.ev]
    generalize (execOp (ev E) o).run P w = r at *
    cases r with
    | ok m w' =>
      cases m <;> simp only at h
      case value v => exact hK _ _ _ (hr.put _ _ hd) h
      case skip => exact hK _ _ _ (hr.put _ _ hd) h
      case enter f args =>
        refine h.mono fun e w'' ⟨v, he, hn⟩ => ?_
        subst he
        exact hK _ _ _ (hr.put _ _ hd) hn
    | halt x w' => exact h.elim
  . rename_i hw
    simp only [hw] at h
    exact hK _ _ _ (hr.put _ _ hd) h
theorem D3t {P : Program} {n : Nat} {all : List Oper} (hn : F4l n all = true) {Q : Exit -> Env -> World -> Prop} :
    ∀ (rest : List Oper) (k : Nat), (∀ j, rest[j]? = all[k + j]?) -> ∀ (a : Act) (E : Env) (w : World), Rep n a E -> G1z P all (Q .normal) rest E w ->
      wpOps P all.toArray (E3a n Q) (List.range' k rest.length) a w
  | [], _, _, a, E, w, hr, h => ⟨E, hr, h⟩
  | o :: rest, k, hl, a, E, w, hr, h => by
    have h0 : all[k]? = some o := by simpa using (hl 0).symm
    rw [List.length_cons, List.range'_succ, wpOps_cons]
    refine D4u hn h0 (fun a' E' w' hr' hh => ?_) hr h
    exact D3t hn rest (k + 1) (fun j => by have := hl (j + 1); simpa [Nat.add_assoc, Nat.add_comm 1 j] using this) a' E' w' hr' hh
inductive F3s where
  | done
  | q (i : Nat) (p : F3s)
  | p (i : Nat) (p : F3s)
  | e (i : Nat) (p : F3s)
  | br (i : Nat) (p : F3s) (j : Nat) (p' : F3s)
def K2 (tails : List Nat) (listed : Array Bool) : Bool := tails.any fun i => listed.getD i false
inductive Reach (ops : Array Oper) (j : Nat) : Nat -> Prop
  | one {oj : Oper} {e : Edge} : ops[j]? = some oj -> e ∈ oj.after -> Region.binds .any e = true -> Reach ops j e.on
  | more {i : Nat} {oi : Oper} {e : Edge} : Reach ops j i -> ops[i]? = some oi -> e ∈ oi.after -> Region.binds .any e = true -> Reach ops j e.on
def F4u (all : List Oper) (i : Nat) : List Nat := match all[i]? with
  | some o => (o.after.toList.filter fun e => Region.binds .any e).map (·.on)
  | none => []
def E9w (all : List Oper) : List Nat -> List Nat -> List Nat
  | [], s => s
  | i :: r, s => E9w all r (bif s.contains i then s ++ (F4u all i).filter (fun x => !(s.contains x)) else s)
def C9c (all : List Oper) (heads tails : List Nat) : Bool :=
  tails.all fun j => (fun s => heads.all fun i => s.contains i) (E9w all (List.range j).reverse (F4u all j))
theorem E6k {all : List Oper} {i x : Nat} (h : x ∈ F4u all i) : ∃ oi e, all.toArray[i]? = some oi /\ e ∈ oi.after /\ Region.binds .any e = true /\ e.on = x := by
  unfold F4u at h
  split at h
  . rename_i o ho
    obtain ⟨e, he, rfl⟩ := List.mem_map.1 h
    obtain ⟨h1, h2⟩ := List.mem_filter.1 he
    exact ⟨o, e, by rw [List.getElem?_toArray]; exact ho, by simpa using h1, h2, rfl⟩
  . cases h
theorem D9c {all : List Oper} {j : Nat} : ∀ {r s : List Nat}, (∀ x ∈ s, Reach all.toArray j x) -> ∀ x ∈ E9w all r s, Reach all.toArray j x
  | [], _, h, x, hx => h x hx
  | i :: r, s, h, x, hx => by
    refine D9c (r := r) (fun y hy => ?_) x hx
    cases hc : s.contains i with
    | false => rw [hc] at hy; exact h y hy
    | true =>
      rw [hc] at hy
      simp only [cond_true, List.mem_append] at hy
      rcases hy with hy | hy
      . exact h y hy
      . obtain ⟨oi, e, h1, h2, h3, rfl⟩ := E6k (List.mem_filter.1 hy).1
        exact .more (h i (by simpa using hc)) h1 h2 h3
theorem D2k {all : List Oper} {heads tails : List Nat} (hw : C9c all heads tails = true) : ∀ (j : Nat) (oj : Oper), all.toArray[j]? = some oj -> j ∈ tails -> ∀ h ∈ heads, Reach all.toArray j h := by
  intro j oj hj hjt h hh
  have h1 := List.all_eq_true.1 hw j hjt
  have h2 := List.all_eq_true.1 h1 h hh
  refine D9c (fun x hx => ?_) h (by simpa using h2)
  obtain ⟨oi, e, q1, q2, q3, rfl⟩ := E6k hx
  exact .one q1 q2 q3
def D0o (P : Program) (S : World -> Prop) (all : List Oper) (o : Oper) (next : Env -> World -> Prop) (E : Env) (w : World) : Prop :=
  (G4 all o E = true /\ ∃ v, (∀ w', S w' -> (execOp (ev E) o).run P w' = .ok (.value v) w') /\ next (F3d E o.dst v) w) \/
  (G4 all o E = false /\ next (F3d E o.dst undef) w)
def E8j (P : Program) (S : World -> Prop) (all : List Oper) (tails : List Nat) (next : Env -> World -> Prop) : F3s -> Bool -> Env -> World -> Prop
  | .done, _ => next
  | .q i p, t => fun E w => ∃ o, all[i]? = some o /\ D0o P S all o (E8j P S all tails next p t) E w
  | .p i p, t => fun E w => ∃ o, all[i]? = some o /\ D0o P (fun _ => True) all o (E8j P S all tails next p t) E w
  | .e i p, t => fun E w => ∃ o, all[i]? = some o /\ U9 P all o (fun E' w' => ((t || tails.contains i) = true \/ S w') /\ E8j P S all tails next p (t || tails.contains i) E' w') E w
  | .br i p j p', t => fun E w => (∃ o, all[i]? = some o /\ U9 P all o (fun E' w' => ((t || tails.contains i) = true \/ S w') /\ E8j P S all tails next p (t || tails.contains i) E' w') E w) /\
      (∃ o, all[j]? = some o /\ U9 P all o (fun E' w' => ((t || tails.contains j) = true \/ S w') /\ E8j P S all tails next p' (t || tails.contains j) E' w') E w)
section held
variable {P : Program} {ops : Array Oper} {Q : Exit -> Act -> World -> Prop} {S : World -> Prop} {heads tails : List Nat}
def A3b (P : Program) (ops : Array Oper) (Q : Exit -> Act -> World -> Prop) (S : World -> Prop) (tails : List Nat) : Nat -> Array Bool -> Act -> World -> Prop
  | 0, listed, a, w => Region.ready .any ops listed = [] /\ Q .normal a w
  | fuel + 1, listed, a, w =>
    (Region.ready .any ops listed = [] -> Q .normal a w) /\ ∀ i ∈ Region.ready .any ops listed, wpOp P ops Q i (fun a' w' => (K2 tails (listed.setIfInBounds i true) = true \/ S w') /\ A3b P ops Q S tails fuel (listed.setIfInBounds i true) a' w') a w
theorem D4s : ∀ (fuel : Nat) (listed : Array Bool) (a : Act) (w : World), A3b P ops Q S tails fuel listed a w -> wpAny P .any ops Q fuel listed a w
  | 0, _, _, _, h => h
  | fuel + 1, _, _, _, h => ⟨h.1, fun i hi => wpOp_mono (fun a' w' h' => D4s fuel _ a' w' h'.2) (h.2 i hi)⟩
def F2c (ops : Array Oper) (listed : Array Bool) : Prop := ∀ (i : Nat) (oi : Oper), ops[i]? = some oi -> listed.getD i false = true -> ∀ e ∈ oi.after, Region.binds .any e = true -> listed.getD e.on false = true
def F9a (ops : Array Oper) (heads tails : List Nat) (listed : Array Bool) : Prop := F2c ops listed /\ (K2 tails listed = true -> ∀ h ∈ heads, listed.getD h false = true)
theorem E3j (ops : Array Oper) (n : Nat) : F2c ops (Array.replicate n false) := fun i oi _ hl => by
  simp only [Array.getD_eq_getD_getElem?, Array.getElem?_replicate] at hl
  split at hl <;> cases hl
theorem Reach.listed {ops : Array Oper} {listed : Array Bool} {j h : Nat} (hc : F2c ops listed) (hj : j ∈ Region.ready .any ops listed) (hr : Reach ops j h) : listed.getD h false = true := by
  induction hr with
  | one ho he hb =>
    obtain ⟨_, oj, hoj, hall⟩ := mem_ready.1 hj
    rw [ho] at hoj
    cases hoj
    exact hall _ he hb
  | more _ ho he hb ih => exact hc _ _ ho ih _ he hb
theorem B8r {listed : Array Bool} {i : Nat} (h : listed.getD i true = false) : listed.getD i false = false := by
  rcases Nat.lt_or_ge i listed.size with h' | h'
  . simp [h'] at h ⊢; exact h
  . simp [Array.getElem?_eq_none h']
theorem K7 {listed : Array Bool} {i : Nat} (hi : i ∉ tails) : K2 tails (listed.setIfInBounds i true) = K2 tails listed := by
  unfold K2
  rw [Bool.eq_iff_iff, List.any_eq_true, List.any_eq_true]
  constructor
  . rintro ⟨x, hx, h⟩
    have hne : i ≠ x := fun e => hi (by rw [e]; exact hx)
    exact ⟨x, hx, by rw [getD_set_ne false hne] at h; exact h⟩
  . rintro ⟨x, hx, h⟩
    have hne : i ≠ x := fun e => hi (by rw [e]; exact hx)
    exact ⟨x, hx, by rw [getD_set_ne false hne]; exact h⟩
theorem Y3 {listed : Array Bool} {i : Nat} (h : K2 tails listed = true) : K2 tails (listed.setIfInBounds i true) = true := by
  unfold K2 at *
  rw [List.any_eq_true] at *
  obtain ⟨x, hx, h⟩ := h
  exact ⟨x, hx, getD_set_true h⟩
theorem F9a.set (hwait : ∀ (j : Nat) (oj : Oper), ops[j]? = some oj -> j ∈ tails -> ∀ h ∈ heads, Reach ops j h) {listed : Array Bool} {j : Nat} (hd : F9a ops heads tails listed) (hj : j ∈ Region.ready .any ops listed) : F9a ops heads tails (listed.setIfInBounds j true) := by
  obtain ⟨_, oj, hoj, hall⟩ := mem_ready.1 hj
  refine ⟨fun i oi hi hl e he hb => ?_, fun ht h hh => ?_⟩
  . by_cases hij : i = j
    . subst hij
      rw [hoj] at hi
      cases hi
      exact getD_set_true (hall e he hb)
    . rw [getD_set_ne false (Ne.symm hij)] at hl
      exact getD_set_true (hd.1 i oi hi hl e he hb)
  . by_cases hjt : j ∈ tails
    . exact getD_set_true ((hwait j oj hoj hjt h hh).listed hd.1 hj)
    . rw [K7 hjt] at ht
      exact getD_set_true (hd.2 ht h hh)
theorem C4x {i : Nat} {oi : Oper} {v : Value} (hi : ops[i]? = some oi) (hih : i ∈ heads) (hit : i ∉ tails) (hsel : ∀ (j : Nat) (o : Oper) cs b, ops[j]? = some o -> o.op ≠ .select cs b)
    (hwait : ∀ (j : Nat) (oj : Oper), ops[j]? = some oj -> j ∈ tails -> ∀ h ∈ heads, Reach ops j h)
    (hQ : ∀ c a w, Q (.panic c) (a.put oi.dst v) w -> Q (.panic c) a w) :
    ∀ (fuel : Nat) (listed : Array Bool) (a : Act) (w : World), F9a ops heads tails listed ->
      (∀ j oj, ops[j]? = some oj -> j ≠ i -> listed.getD j true = false -> (∀ e ∈ oj.after, Region.binds .any e = true -> e.on ≠ i) -> oi.apart ops oj = true) ->
      i ∈ Region.ready .any ops listed -> YieldsIf P ops S oi v a -> S w ->
      A3b P ops Q S tails fuel (listed.setIfInBounds i true) (a.put oi.dst v) w -> A3b P ops Q S tails (fuel + 1) listed a w := by
  intro fuel
  induction fuel with
  | zero =>
    intro listed a w _ _ hr hy hS H
    refine ⟨fun h => (by rw [h] at hr; cases hr), fun j hj => ?_⟩
    by_cases hji : j = i
    . subst hji; exact hy.wpOp hi hS ⟨.inr hS, H⟩
    . have := ready_mono hj hji
      rw [H.1] at this
      cases this
  | succ fuel ih =>
    intro listed a w hd hfree hr hy hS H
    have hli : listed.getD i false = false := B8r (mem_ready.1 hr).1
    refine ⟨fun h => (by rw [h] at hr; cases hr), fun j hj => ?_⟩
    by_cases hji : j = i
    . subst hji; exact hy.wpOp hi hS ⟨.inr hS, H⟩
    . obtain ⟨hjun, oj, hoj, hall⟩ := mem_ready.1 hj
      have hnot : ∀ e ∈ oj.after, Region.binds .any e = true -> e.on ≠ i := fun e he hb heq => by
        have h1 := hall e he hb
        rw [heq] at h1
        rw [hli] at h1
        cases h1
      have hjt : j ∉ tails := fun hjt => by
        have := (hwait j oj hoj hjt i hih).listed hd.1 hj
        rw [hli] at this
        cases this
      have hnt : K2 tails listed = false := by
        cases ht : K2 tails listed with
        | false => rfl
        | true => have := hd.2 ht i hih; rw [hli] at this; cases this
      have h1 := H.2 j (ready_mono hj hji)
      have h2 := wpOp_putIf hoj (hfree j oj hoj hji hjun hnot) (fun cs b => hsel i oi cs b hi) (fun cs b => hsel j oj cs b hoj) hQ hy h1
      have hfree' : ∀ k ok, ops[k]? = some ok -> k ≠ i -> (listed.setIfInBounds j true).getD k true = false ->
          (∀ e ∈ ok.after, Region.binds .any e = true -> e.on ≠ i) -> oi.apart ops ok = true := fun k ok hk hki hun hno => by
        refine hfree k ok hk hki ?_ hno
        by_cases hjk : j = k
        . subst hjk; exact hjun
        . rw [getD_set_ne true hjk] at hun; exact hun
      refine wpOp_mono (fun a' w' h3 => ?_) h2
      have hS' : S w' := by
        rcases h3.2.1 with ht | hS'
        . rw [K7 hjt, K7 hit, hnt] at ht; cases ht
        . exact hS'
      refine ⟨.inr hS', ih (listed.setIfInBounds j true) a' w' (hd.set hwait hj) hfree' (ready_mono hr (Ne.symm hji)) h3.1 hS' ?_⟩
      rw [Array.setIfInBounds_comm _ _ hji]
      exact h3.2.2
theorem C8a {i : Nat} {oi : Oper} {v : Value} (hi : ops[i]? = some oi) (hit : i ∉ tails) (hsel : ∀ (j : Nat) (o : Oper) cs b, ops[j]? = some o -> o.op ≠ .select cs b)
    (hQ : ∀ c a w, Q (.panic c) (a.put oi.dst v) w -> Q (.panic c) a w) :
    ∀ (fuel : Nat) (listed : Array Bool) (a : Act) (w : World),
      (∀ j oj, ops[j]? = some oj -> j ≠ i -> listed.getD j true = false -> (∀ e ∈ oj.after, Region.binds .any e = true -> e.on ≠ i) -> oi.apart ops oj = true) ->
      i ∈ Region.ready .any ops listed -> YieldsIf P ops (fun _ => True) oi v a -> (K2 tails listed = true \/ S w) ->
      A3b P ops Q S tails fuel (listed.setIfInBounds i true) (a.put oi.dst v) w -> A3b P ops Q S tails (fuel + 1) listed a w := by
  intro fuel
  induction fuel with
  | zero =>
    intro listed a w _ hr hy hS H
    refine ⟨fun h => (by rw [h] at hr; cases hr), fun j hj => ?_⟩
    by_cases hji : j = i
    . subst hji; exact hy.wpOp hi trivial ⟨hS.imp Y3 id, H⟩
    . have := ready_mono hj hji
      rw [H.1] at this
      cases this
  | succ fuel ih =>
    intro listed a w hfree hr hy hS H
    have hli : listed.getD i false = false := B8r (mem_ready.1 hr).1
    refine ⟨fun h => (by rw [h] at hr; cases hr), fun j hj => ?_⟩
    by_cases hji : j = i
    . subst hji; exact hy.wpOp hi trivial ⟨hS.imp Y3 id, H⟩
    . obtain ⟨hjun, oj, hoj, hall⟩ := mem_ready.1 hj
      have hnot : ∀ e ∈ oj.after, Region.binds .any e = true -> e.on ≠ i := fun e he hb heq => by
        have h1 := hall e he hb
        rw [heq] at h1
        rw [hli] at h1
        cases h1
      have h1 := H.2 j (ready_mono hj hji)
      have h2 := wpOp_putIf hoj (hfree j oj hoj hji hjun hnot) (fun cs b => hsel i oi cs b hi) (fun cs b => hsel j oj cs b hoj) hQ hy h1
      have hfree' : ∀ k ok, ops[k]? = some ok -> k ≠ i -> (listed.setIfInBounds j true).getD k true = false ->
          (∀ e ∈ ok.after, Region.binds .any e = true -> e.on ≠ i) -> oi.apart ops ok = true := fun k ok hk hki hun hno => by
        refine hfree k ok hk hki ?_ hno
        by_cases hjk : j = k
        . subst hjk; exact hjun
        . rw [getD_set_ne true hjk] at hun; exact hun
      refine wpOp_mono (fun a' w' h3 => ?_) h2
      have hS' : K2 tails (listed.setIfInBounds j true) = true \/ S w' := by
        refine h3.2.1.imp (fun ht => ?_) id
        rw [Array.setIfInBounds_comm _ _ (Ne.symm hji), K7 hit] at ht
        exact ht
      refine ⟨hS', ih (listed.setIfInBounds j true) a' w' hfree' (ready_mono hr (Ne.symm hji)) h3.1 hS' ?_⟩
      rw [Array.setIfInBounds_comm _ _ hji]
      exact h3.2.2
end held
theorem A6f {l : List Nat} {i : Nat} (h : l.contains i = false) : i ∉ l := by
  intro hm
  have : l.contains i = true := by simpa using hm
  rw [h] at this
  cases this
theorem E3r {tails : List Nat} {listed : Array Bool} {i : Nat} (hlt : i < listed.size) : K2 tails (listed.setIfInBounds i true) = (K2 tails listed || tails.contains i) := by
  cases hc : tails.contains i with
  | false => rw [K7 (A6f hc)]; simp
  | true =>
    rw [Bool.or_true]
    unfold K2
    rw [List.any_eq_true]
    exact ⟨i, by simpa using hc, by simp [Array.getElem?_setIfInBounds, hlt]⟩
theorem F3c {ops : Array Oper} {listed : Array Bool} {i : Nat} (h : i ∈ Region.ready .any ops listed) : i < listed.size := by
  have := (mem_ready.1 h).1
  rcases Nat.lt_or_ge i listed.size with h' | h'
  . exact h'
  . simp [Array.getElem?_eq_none h'] at this
def A2j (n : Nat) : Code -> Bool
  | .region _ ops _ => F4l n ops.toList
  | .seq a b => A2j n a && A2j n b
  | .cond _ a b => A2j n a && A2j n b
  | .block _ b => A2j n b
  | .loop b => A2j n b
  | .scope b => A2j n b
  | .rangeFunc .. => false
  | _ => true
def Wp (P : Program) (n : Nat) (c : Code) (Q : Exit -> Env -> World -> Prop) (E : Env) (w : World) : Prop :=
  A2j n c = true -> ∀ a, Rep n a E -> c.wp P (E3a n Q) a w
inductive Fr where
  | code (c : Code)
  | blk (id : Nat)
  | ops (all rest : List Oper)
  | dops (S : World -> Prop) (all : List Oper) (tails : List Nat) (p : F3s) (t : Bool)
  | chk (S : World -> Prop)
  | upto (I : Env -> World -> Prop)
def Den (P : Program) (n : Nat) (R : Env -> World -> Prop) : List Fr -> Exit -> Env -> World -> Prop
  | [], .normal => R
  | [], .ret => R
  | [], _ => fun _ _ => False
  | .code c :: k, .normal => Wp P n c (Den P n R k)
  | .blk _ :: k, .normal => Den P n R k .normal
  | .ops all rest :: k, .normal => G1z P all (Den P n R k .normal) rest
  | .dops S all tails p t :: k, .normal => E8j P S all tails (Den P n R k .normal) p t
  | .chk S :: k, .normal => fun E w => S w /\ Den P n R k .normal E w
  | .upto I :: _, .normal => I
  | .blk id :: k, .exit j => if j = id then Den P n R k .normal else Den P n R k (.exit j)
  | _ :: k, e => Den P n R k e
structure Go (P : Program) (n : Nat) (R : Env -> World -> Prop) (k : List Fr) (E : Env) (w : World) : Prop where
  out : Den P n R k .normal E w
section rules
variable {P : Program} {n : Nat} {R : Env -> World -> Prop} {k : List Fr} {E : Env} {w : World}
theorem B5v : ∀ k : List Fr, R E w -> Den P n R k .ret E w
  | [], h => h
  | .code _ :: k, h => B5v k h
  | .blk _ :: k, h => B5v k h
  | .ops _ _ :: k, h => B5v k h
  | .dops _ _ _ _ _ :: k, h => B5v k h
  | .chk _ :: k, h => B5v k h
  | .upto _ :: k, h => B5v k h
theorem go_ret (h : R E w) : Go P n R (.code .ret :: k) E w := ⟨fun _ a hr => wp_ret ⟨E, hr, B5v k h⟩⟩
def E9u (mods : List Nat) (E E0 : Env) : Prop := ∀ t, mods.contains t = false -> E t = E0 t
theorem E9u.refl (mods : List Nat) (E : Env) : E9u mods E E := fun _ _ => rfl
theorem E9u.upd {mods : List Nat} {E E0 : Env} {d : Nat} {v : Value} (hd : mods.contains d = true) (h : E9u mods E E0) : E9u mods (upd E d v) E0 := fun t ht => by
  rw [D4]
  . exact h t ht
  . intro e; subst e; rw [hd] at ht; cases ht
end rules
def E0v (args : List Value) : Env := fun t => (args[t]?).getD undef
theorem C9q {P : Program} {f : FuncId} {fn : Func} {c : Code} {args : List Value} {w : World} {Φ : Value -> World -> Prop} (hf : P.funcs[f]? = some fn) (hb : fn.body = some c)
    (hn : args.length <= fn.ntmps) (hok : A2j fn.ntmps c = true) (R : Env -> World -> Prop)
    (hR : ∀ E w (tmps : Array Value), (∀ t, tmps.getD t undef = E t) -> R E w -> ∃ v, (results fn tmps).run P w = .ok v w /\ Φ v w)
    (h : Go P fn.ntmps R [.code c] (E0v args) w) :
    Calls P f args.toArray w fun e w' => ∃ v, e = .returned v /\ Φ v w' := by
  refine calls_of_wp hf hb ?_
  have hrep : Rep fn.ntmps { tmps := args.toArray ++ Array.replicate (fn.ntmps - args.toArray.size) undef, defers := [] } (E0v args) := by
    refine ⟨by simp; omega, fun t => ?_, rfl⟩
    unfold E0v
    simp only [Array.getD_eq_getD_getElem?, Array.getElem?_append, List.size_toArray, List.getElem?_toArray, Array.getElem?_replicate]
    split
    . rfl
    . rename_i hlt
      rw [List.getElem?_eq_none (by omega)]
      split <;> rfl
  refine wp_mono (h.out hok _ hrep) ?_
  rintro e a' w' ⟨E', hr', hq⟩
  cases e with
  | normal => obtain ⟨v, hv, hΦ⟩ := hR E' w' a'.tmps hr'.get hq; exact ⟨hr'.defers, v, hv, v, rfl, hΦ⟩
  | ret => obtain ⟨v, hv, hΦ⟩ := hR E' w' a'.tmps hr'.get hq; exact ⟨hr'.defers, v, hv, v, rfl, hΦ⟩
  | exit j => exact hq.elim
  | goto l => exact hq.elim
  | panic c => exact hq.elim
  | outgrown => exact hq.elim
def G3 (P : Program) (E : Env) (ty : TypeId) (op : Op) (w : World) (v : Value) (w' : World) : Prop :=
  ∀ (d : Option Tmp) (pos : String) (aft : Array Edge) (g : Option (Nat × Bool)), (execOp (ev E) ⟨d, op, ty, pos, aft, g⟩).run P w = .ok (.value v) w'
def E8p (P : Program) (E : Env) (ty : TypeId) (op : Op) (w w' : World) : Prop :=
  ∀ (d : Option Tmp) (pos : String) (aft : Array Edge) (g : Option (Nat × Bool)), (execOp (ev E) ⟨d, op, ty, pos, aft, g⟩).run P w = .ok .skip w'
def F6t (P : Program) (E : Env) (ty : TypeId) (op : Op) (w : World) (f : FuncId) (args : List Value) : Prop :=
  ∀ (d : Option Tmp) (pos : String) (aft : Array Edge) (g : Option (Nat × Bool)), (execOp (ev E) ⟨d, op, ty, pos, aft, g⟩).run P w = .ok (.enter f args.toArray) w
def Ret (P : Program) (f : FuncId) (args : List Value) (w : World) (Φ : Value -> World -> Prop) : Prop :=
  Calls P f args.toArray w fun e w' => ∃ v, e = .returned v /\ Φ v w'
theorem Ret.mono {P : Program} {f : FuncId} {args : List Value} {w : World} {Φ Φ' : Value -> World -> Prop} (h : Ret P f args w Φ) (hh : ∀ v w', Φ v w' -> Φ' v w') : Ret P f args w Φ' :=
  Calls.mono h fun _ _ ⟨v, he, hv⟩ => ⟨v, he, hh _ _ hv⟩
theorem E3o {all : List Oper} {d : Option Tmp} {op : Op} {ty : TypeId} {pos : String} {aft : Array Edge} {j t : Nat} {b : Bool} {E : Env} (h1 : (all[j]?).bind (·.dst) = some t) (h2 : E t = .bool b) : G4 all ⟨d, op, ty, pos, aft, some (j, b)⟩ E = true := by
  simp [G4, A0s, h1, h2]
section frames
variable {P : Program} {n : Nat} {R : Env -> World -> Prop} {k : List Fr} {E : Env} {w : World} {all rest : List Oper} {d : Nat} {op : Op} {ty : TypeId} {pos : String} {aft : Array Edge} {g : Option (Nat × Bool)}
variable {S : World -> Prop} {i : Nat} {p : F3s} {tails : List Nat} {t : Bool}
end frames
def A4k (P : Program) (t : TypeId) : Bool := match P.underlying t with | some (.struct _) => false | some (.array _ _) => false | some _ => true | none => false
def F6z (P : Program) (t : TypeId) (s : Nat) : Bool :=
  (match P.underlying t with | some (.struct _) => true | some (.array _ _) => true | _ => false) && (match P.info? t with | some i => i.size == s | none => false)
def C0i (P : Program) (t : TypeId) (s : Nat) : Bool := match P.info? t with | some i => i.size == s | none => false
def D4z (P : Program) (t : TypeId) (f off : Nat) : Bool :=
  match P.underlying t with
  | some (.struct fs) => (match fs[f]? with | some x => x.offset == off && (match P.info? x.type with | some i => !(i.size == 0) | none => false) | none => false)
  | _ => false
def A5m (P : Program) (t e : TypeId) (s : Nat) : Bool := (match P.underlying t with | some (.slice e') => e' == e | _ => false) && C0i P e s
def A5s (P : Program) (f : FuncId) : Bool := match P.funcs[f]? with | some fn => !(fn.name == "runtime.NumGoroutine") && fn.body.isSome | none => false
def A8y (P : Program) (t : TypeId) : Option Value := (P.info? t).bind (·.zero)
section ops
variable {P : Program} {E : Env} {w : World} {ty : TypeId}
theorem F5v {x : Operand} : G3 P E ty (.move x) w (ev E x) w := fun _ _ _ _ => rfl
theorem E5q {x : Operand} : G3 P E ty (.assign x) w (ev E x) w := fun _ _ _ _ => rfl
theorem G0r {c a b : Operand} {t : Bool} (hc : ev E c = .bool t) : G3 P E ty (.pick c a b) w (bif t then ev E a else ev E b) w := fun _ _ _ _ => by
  cases t <;> simp [execOp, hc, asBool, go_sem]
theorem F0w {x : Operand} {vs : Array Value} {v : Value} {i : Nat} (hx : ev E x = .tuple vs) (hv : vs[i]? = some v) : G3 P E ty (.extract x i) w v w := fun _ _ _ _ => by
  simp [execOp, hx, Instr.extract, hv, go_sem]
theorem G2m {T : TypeId} {x : Operand} {b : Bool} (hx : ev E x = .bool b) : G3 P E ty (.unOp .not T x) w (.bool !b) w := fun _ _ _ _ => by
  simp [execOp, hx, Op.unary, go_sem]
theorem G2i {T : TypeId} {x : Operand} {k : IntKind} {a : Int} (hx : ev E x = .int k a) : G3 P E ty (.unOp .neg T x) w (.int k (k.wrap (-a))) w := fun _ _ _ _ => by
  simp [execOp, hx, Op.unary, Op.intArith, go_sem]
theorem E4d {op : BinOp} {T : TypeId} {x y : Operand} {k k' : IntKind} {a b : Int} : (eqGuard op T x y (.int k a) (.int k' b)).run P w = .ok () w := by
  unfold eqGuard
  cases op <;> rfl
theorem F8n {op : BinOp} {T T' : TypeId} {x y : Operand} {k k' : IntKind} {a b : Int} {v : Value} (hx : ev E x = .int k a) (hy : ev E y = .int k' b) (h : (binOp op T (.int k a) (.int k' b)).run P w = .ok v w) : G3 P E ty (.binOp op T x y T') w v w := fun _ _ _ _ => by
  simp only [execOp, hx, hy]
  have h1 := E4d (P := P) (w := w) (op := op) (T := T) (x := x) (y := y) (k := k) (k' := k') (a := a) (b := b)
  simp [go_sem, h1, h]
theorem G0n {x y : Operand} {ts : Array TypeId} {k k' : IntKind} {a b : Int} (hx : ev E x = .int k a) (hy : ev E y = .int k' b) : G3 P E ty (.call ⟨.builtin .max, #[x, y], ts⟩) w (.int k (max a b)) w := fun _ _ _ _ => by
  have hm : (if b > a then b else a) = max a b := by by_cases h : a < b <;> simp only [gt_iff_lt, h, if_true, if_false] <;> omega
  simp [execOp, resolve, invoke, builtin, Builtin.max_, Builtin.max2, hx, hy, go_sem]
  exact hm
theorem G1t {x y z : Operand} {ts : Array TypeId} {k k' k'' : IntKind} {a b c : Int} (hx : ev E x = .int k a) (hy : ev E y = .int k' b) (hz : ev E z = .int k'' c) : G3 P E ty (.call ⟨.builtin .max, #[x, y, z], ts⟩) w (.int k (max (max a b) c)) w := fun _ _ _ _ => by
  have hm : ∀ a b : Int, (if b > a then b else a) = max a b := fun a b => by by_cases h : a < b <;> simp only [gt_iff_lt, h, if_true, if_false] <;> omega
  simp only [execOp, resolve, invoke, builtin, Builtin.max_, go_sem]
  simp [hx, hy, hz, Builtin.max2, hm, go_sem]
theorem G1h {x y : Operand} {ts : Array TypeId} {k k' : IntKind} {a b : Int} (hx : ev E x = .int k a) (hy : ev E y = .int k' b) : G3 P E ty (.call ⟨.builtin .min, #[x, y], ts⟩) w (.int k (min a b)) w := fun _ _ _ _ => by
  have hm : (if b < a then b else a) = min a b := by by_cases h : b < a <;> simp only [h, if_true, if_false] <;> omega
  simp [execOp, resolve, invoke, builtin, Builtin.min_, Builtin.min2, hx, hy, go_sem]
  exact hm
theorem G2t {x : Operand} {t e : TypeId} {s len cap : Nat} {a : Option Addr} (hx : ev E x = .slice a len cap) (ht : A5m P t e s = true) : G3 P E ty (.call ⟨.builtin .len, #[x], #[t]⟩) w (.int .i64 len) w := fun _ _ _ _ => by
  have hu : P.underlying t = some (.slice e) := by
    unfold A5m at ht
    simp only [Bool.and_eq_true] at ht
    obtain ⟨ht, _⟩ := ht
    split at ht
    . rename_i e' he; simp at ht; subst ht; exact he
    . cases ht
  simp [execOp, resolve, invoke, builtin, Builtin.len_, hx, run_underlying hu, goInt, go_sem]
end ops
theorem A2w {P : Program} {E : Env} {w : World} {ty : TypeId} {fo : Operand} {f : FuncId} {cap args : List Value} {as : List Operand} {ts : Array TypeId} (hf : ev E fo = .func (.func f) #[] cap.toArray) (he : A5s P f = true) (ha : as.map (ev E) ++ cap = args) :
    F6t P E ty (.call ⟨.value fo, as.toArray, ts⟩) w f args := fun _ _ _ _ => by
  unfold A5s at he
  split at he
  . rename_i fn hfn
    simp only [Bool.and_eq_true, Bool.not_eq_true'] at he
    have h2 : ¬ fn.body = none := by intro hb; rw [hb] at he; simp at he
    have h1 : ¬ fn.name = "runtime.NumGoroutine" := by simpa using he.1
    subst ha
    simp [execOp, resolve, hf, Deferred.ofValue, invoke, callFunc, hfn, h1, h2, go_sem]
  . cases he
theorem G2s {P : Program} {E : Env} {w : World} {ty : TypeId} {fn : Fn} {caps : List Operand} {vs : List Value} (hc : caps.map (ev E) = vs) : G3 P E ty (.makeFunc fn #[] caps.toArray) w (.func fn #[] vs.toArray) w := fun _ _ _ _ => by
  subst hc
  simp [execOp, Instr.makeFunc]
theorem G2o {P : Program} {E : Env} {w : World} {ty : TypeId} {T T' : TypeId} {x y : Operand} {a b : Bool} (hx : ev E x = .bool a) (hy : ev E y = .bool b) (hT : P.underlying T = some .bool) : G3 P E ty (.binOp .neq T x y T') w (.bool (a != b)) w := fun _ _ _ _ => by
  have h1 := run_equalIn_bool' (P := P) w 9999 T a b hT
  have hg : (eqGuard .neq T x y (.bool a) (.bool b)).run P w = .ok () w := rfl
  have h2 : (binOp .neq T (.bool a) (.bool b)).run P w = .ok (.bool (a != b)) w := by
    show ((Op.equal T (.bool a) (.bool b)) >>= fun r => pure (Value.bool (!r))).run P w = _
    unfold Op.equal Op.maxDepth
    rw [Sem.run_bind, h1]
    rfl
  simp only [execOp, hx, hy]
  simp [hg, h2]
def Blk (w : World) (b : Nat) (cs : Array Value) (t : TypeId) : Prop := w.heap[b]? = some (.cells cs t (0, 0))
structure Ext (w w' : World) : Prop extends Below w.heap.size w w' where
  drw : True
theorem Blk.lt {w : World} {b : Nat} {cs : Array Value} {t : TypeId} (h : Blk w b cs t) : b < w.heap.size := (Array.getElem?_eq_some_iff.1 h).1
theorem Blk.ext {w w' : World} {b : Nat} {cs : Array Value} {t : TypeId} (h : Blk w b cs t) (hx : Ext w w') : Blk w' b cs t := (hx.block b h.lt).trans h
theorem Blk.cell {w : World} {b o : Nat} {cs : Array Value} {t : TypeId} {v : Value} (h : Blk w b cs t) (hv : cs[o]? = some v) : w.cell? ⟨b, o, none⟩ = some v := by
  unfold Blk at h
  simp [World.cell?, h, hv]
theorem Ext.refl (w : World) : Ext w w := ⟨Below.refl _ _, trivial⟩
theorem Ext.trans {a b c : World} (h : Ext a b) (k : Ext b c) : Ext a c := ⟨Below.trans h.toBelow (Below.mono k.toBelow h.size), trivial⟩
theorem Ext.drew {a b : World} (h : Ext a b) : Ext a b.drew := ⟨Below.drew h.toBelow, trivial⟩
theorem Ext.alloc (w : World) (o : Obj) : Ext w (w.alloc o) := ⟨(Below.refl _ _).alloc (Nat.le_refl _) o, trivial⟩
section mem
variable {P : Program} {E : Env} {w : World} {ty : TypeId}
theorem Y1 {t : TypeId} (h : A4k P t = true) : (isAgg t).run P w = .ok false w := by
  unfold A4k at h
  cases hu : P.underlying t with
  | none => simp [hu] at h
  | some d => cases d <;> simp [hu] at h <;> simp [isAgg, run_underlying hu, go_sem]
theorem A8s {t : TypeId} {s : Nat} (h : F6z P t s = true) : (isAgg t).run P w = .ok true w /\ (sizeOf t).run P w = .ok s w := by
  unfold F6z at h
  simp only [Bool.and_eq_true] at h
  obtain ⟨h1, h2⟩ := h
  constructor
  . cases hu : P.underlying t with
    | none => simp [hu] at h1
    | some d => cases d <;> simp [hu] at h1 <;> simp [isAgg, run_underlying hu, go_sem]
  . cases hi : P.info? t with
    | none => simp [hi] at h2
    | some i => simp [hi] at h2; simp [sizeOf, typeInfo, hi, h2, go_sem]
theorem Z9 {t : TypeId} {s : Nat} (h : C0i P t s = true) : (sizeOf t).run P w = .ok s w := by
  unfold C0i at h
  cases hi : P.info? t with
  | none => simp [hi] at h
  | some i => simp [hi] at h; simp [sizeOf, typeInfo, hi, h, go_sem]
theorem F6c {T : TypeId} {x : Operand} {a : Addr} {v : Value} (hx : ev E x = .pointer (some a)) (hs : A4k P T = true) (hc : w.cell? a = some v) : G3 P E ty (.load T x) w v w := fun _ _ _ _ => by
  have h1 := Y1 (P := P) (w := w) hs
  simp [execOp, hx, Instr.loadAt, Instr.sureAddr, loadVar, h1, hc, go_sem]
def M6 (w : World) (a : Addr) (cs : List Value) : Prop := ∀ j v, cs[j]? = some v -> w.cell? (a.add j) = some v
theorem E8r {T : TypeId} {x : Operand} {a : Addr} {cs : List Value} {s : Nat} (hx : ev E x = .pointer (some a)) (hs : F6z P T s = true) (hl : cs.length = s) (hc : M6 w a cs) : G3 P E ty (.load T x) w (.agg cs.toArray) w := fun _ _ _ _ => by
  obtain ⟨h1, h2⟩ := A8s (P := P) (w := w) hs
  have h3 := run_loadCells_list (P := P) (w := w) a cs hc
  rw [hl] at h3
  unfold loadCells at h3
  simp [execOp, hx, Instr.loadAt, Instr.sureAddr, loadVar, h1, h2, h3, go_sem]
theorem Blk.cellsAt {w : World} {b : Nat} {cs : Array Value} {t : TypeId} (h : Blk w b cs t) : M6 w ⟨b, 0, none⟩ cs.toList := fun j v hv => by
  have : (⟨b, 0, none⟩ : Addr).add j = ⟨b, j, none⟩ := by unfold Addr.add; split <;> simp_all
  rw [this]
  exact h.cell (by simpa using hv)
theorem N2 (b o n : Nat) : (⟨b, o, none⟩ : Addr).add n = ⟨b, o + n, none⟩ := by unfold Addr.add; split <;> simp_all
theorem B7o {T : TypeId} {x : Operand} {b o f off : Nat} (hx : ev E x = .pointer (some ⟨b, o, none⟩)) (hf : D4z P T f off = true) : G3 P E ty (.fieldAddr T x f) w (.pointer (some ⟨b, o + off, none⟩)) w := fun _ _ _ _ => by
  unfold D4z at hf
  split at hf
  . rename_i fs hu
    split at hf
    . rename_i fd hfd
      simp only [Bool.and_eq_true, beq_iff_eq] at hf
      obtain ⟨h1, h2⟩ := hf
      cases hi : P.info? fd.type with
      | none => simp [hi] at h2
      | some i =>
        simp [hi] at h2
        have hz : (sizeOf fd.type).run P w = .ok i.size w := by simp [sizeOf, typeInfo, hi, go_sem]
        subst h1
        simp [execOp, hx, Instr.fieldAt, Instr.sureAddr, run_underlying hu, hfd, fieldPlace, hz, h2, N2, go_sem]
    . cases hf
  . cases hf
theorem G2n {T : TypeId} {x : Operand} {v : Value} (hx : ev E x = v) : G3 P E ty (.box T x) w (.pointer (some ⟨w.heap.size, 0, none⟩)) (w.alloc (.cells v.cells T)) := fun _ _ _ _ => by
  subst hx
  simp [execOp, Instr.box, newVar, newRow, go_sem]
theorem F8q {T : TypeId} {z : Value} (hz : A8y P T = some z) : G3 P E ty (.alloc T) w (.pointer (some ⟨w.heap.size, 0, none⟩)) (w.alloc (.cells z.cells T)) := fun _ _ _ _ => by
  unfold A8y at hz
  cases hi : P.info? T with
  | none => simp [hi] at hz
  | some i =>
    simp [hi] at hz
    simp [execOp, Instr.alloc, zeroValue, typeInfo, hi, hz, newVar, newRow, go_sem]
theorem B2m (w : World) (cs : Array Value) (t : TypeId) : Blk (w.alloc (.cells cs t)) w.heap.size cs t := heap_alloc_new w _
theorem Blk.alloc {w : World} {b : Nat} {cs : Array Value} {t : TypeId} (h : Blk w b cs t) (o : Obj) : Blk (w.alloc o) b cs t := h.ext (Ext.alloc w o)
end mem
theorem A8g : ∀ u ∈ ([] : List Value), u.oneCell' = true := fun _ h => by cases h
theorem A8v {v : Value} {l : List Value} (h : v.oneCell' = true) (t : ∀ u ∈ l, u.oneCell' = true) : ∀ u ∈ v :: l, u.oneCell' = true := fun u hu => by
  rcases List.mem_cons.1 hu with hu | hu
  . rw [hu]; exact h
  . exact t u hu
section frames
variable {P : Program} {n : Nat} {R : Env -> World -> Prop} {k : List Fr} {E : Env} {w : World} {all rest : List Oper} {d : Nat} {ty : TypeId} {pos : String} {aft : Array Edge} {g : Option (Nat × Bool)}
end frames
section tests
variable {P : Program} {n : Nat} {R : Env -> World -> Prop} {k : List Fr} {E : Env} {w : World} {all rest : List Oper} {d : Nat} {ty : TypeId} {pos : String} {aft : Array Edge} {g : Option (Nat × Bool)} {op : Op} {c : Prop} [Decidable c]
variable {S : World -> Prop} {i : Nat} {p : F3s} {tails : List Nat} {t : Bool}
end tests
def C4n (P : Program) (t : TypeId) : Option (List (Nat × Nat)) :=
  match P.underlying t with
  | some (.struct fs) => fs.toList.mapM fun f => (P.info? f.type).map fun i => (f.offset, i.size)
  | _ => none
theorem D3l {P : Program} {w : World} : ∀ (fs : List Field) (pl : List (Nat × Nat)), fs.mapM (fun f => (P.info? f.type).map fun i => (f.offset, i.size)) = some pl ->
    (fs.mapM fun f => do pure (f.offset, <- sizeOf f.type) : Sem (List (Nat × Nat))).run P w = .ok pl w
  | [], pl, h => by simp at h; subst h; rfl
  | f :: fs, pl, h => by
    simp only [List.mapM_cons] at h
    cases hi : P.info? f.type with
    | none => simp [hi] at h
    | some i =>
      simp only [hi, Option.map_some, Option.bind_eq_bind, Option.bind_some] at h
      cases hm : fs.mapM (fun f => (P.info? f.type).map fun i => (f.offset, i.size)) with
      | none => rw [hm] at h; simp at h
      | some pl' =>
        rw [hm] at h
        simp at h
        subst h
        have ih := D3l (w := w) fs pl' hm
        rw [List.mapM_cons]
        simp [sizeOf, typeInfo, hi, go_sem]
        simp [sizeOf, typeInfo, go_sem] at ih
        rw [ih]
        rfl
theorem F8d {P : Program} {E : Env} {w : World} {ty : TypeId} {T : TypeId} {parts : List (Nat × Operand)} {z : Value} {pl : List (Nat × Nat)} (cs : Array Value) (hz : A8y P T = some z) (hp : C4n P T = some pl)
    (hfill : Instr.fill (fun i => pl[i]?) z.cells (parts.map fun x => (x.1, ev E x.2)) = some cs) : G3 P E ty (.build T parts.toArray) w (.agg cs) w := fun _ _ _ _ => by
  unfold A8y at hz
  unfold C4n at hp
  cases hi : P.info? T with
  | none => simp [hi] at hz
  | some i =>
    simp [hi] at hz
    cases hu : P.underlying T with
    | none => simp [hu] at hp
    | some ds =>
      cases ds <;> simp [hu] at hp
      case struct fs =>
        have hpl := D3l (w := w) fs.toList pl hp
        have hm : (fs.mapM fun f => do pure (f.offset, <- sizeOf f.type) : Sem (Array (Nat × Nat))).run P w = .ok pl.toArray w := by
          rw [Array.mapM_eq_mapM_toList]
          simp at hpl ⊢
          simp [hpl]
        simp only [execOp]
        unfold Instr.build
        simp at hm
        simp [zeroValue, typeInfo, hi, hz, run_underlying hu, hm, hfill]
theorem E4i {P : Program} {E : Env} {w : World} {ty : TypeId} {T e : TypeId} {len sz : Nat} {parts : List (Nat × Operand)} {z : Value} (cs : Array Value) (hz : A8y P T = some z) (hT : P.underlying T = some (.array len e)) (hs : C0i P e sz = true)
    (hfill : Instr.fill (fun i => some (i * sz, sz)) z.cells (parts.map fun x => (x.1, ev E x.2)) = some cs) : G3 P E ty (.build T parts.toArray) w (.agg cs) w := fun _ _ _ _ => by
  unfold A8y at hz
  have h3 := Z9 (P := P) (w := w) hs
  cases hi : P.info? T with
  | none => simp [hi] at hz
  | some i =>
    simp [hi] at hz
    simp only [execOp]
    unfold Instr.build
    simp [zeroValue, typeInfo, hi, hz, run_underlying hT, h3, hfill]
theorem E2f {P : Program} {E : Env} {w : World} {ty : TypeId} {T e : TypeId} {x ix : Operand} {len : Nat} {cs : Array Value} {kd : IntKind} {i : Int} {v : Value} (hx : ev E x = .agg cs) (hi : ev E ix = .int kd i) (hT : P.underlying T = some (.array len e)) (he : A4k P e = true) (hsz : C0i P e 1 = true)
    (h0 : 0 <= i) (h1 : i < len) (hv : cs[i.toNat]? = some v) : G3 P E ty (.index T x ix) w v w := fun _ _ _ _ => by
  have h2 := Y1 (P := P) (w := w) he
  have h3 := Z9 (P := P) (w := w) hsz
  simp [execOp, hx, hi, Instr.index, asIntOf, run_underlying hT, h0, h1, part, h2, h3, hv, go_sem]
theorem F3k {w w' : World} (hx : Ext w w') {a : Addr} {v : Value} (h : w.cell? a = some v) : w'.cell? a = some v := by
  have hlt : a.block < w.heap.size := block_lt_of_cell h
  rw [hx.cell hlt]; exact h
theorem M6.ext {w w' : World} {a : Addr} {cs : List Value} (h : M6 w a cs) (hx : Ext w w') : M6 w' a cs := fun j v hv => F3k hx (h j v hv)
def SlR {α : Type} (w : World) (sz : Nat) (f : α -> List Value) (v : Value) (l : List α) : Prop :=
  (∃ a cap, v = .slice a 0 cap /\ l = []) \/ ∃ b o cap, v = .slice (some ⟨b, o, none⟩) l.length cap /\ l.length <= cap /\ ∀ i a, l[i]? = some a -> M6 w ⟨b, o + i * sz, none⟩ (f a)
theorem SlR.ext {α : Type} {w w' : World} {sz : Nat} {f : α -> List Value} {v : Value} {l : List α} (h : SlR w sz f v l) (hx : Ext w w') : SlR w' sz f v l := by
  rcases h with h | ⟨b, o, cap, hv, hc, hh⟩
  . exact .inl h
  . exact .inr ⟨b, o, cap, hv, hc, fun i a hi => (hh i a hi).ext hx⟩
theorem SlR.nil {α : Type} (w : World) (sz : Nat) (f : α -> List Value) : SlR w sz f (.slice none 0 0) [] := .inl ⟨_, _, rfl, rfl⟩
section sl
variable {P : Program} {E : Env} {w : World} {ty : TypeId} {α : Type} {sz : Nat} {f : α -> List Value} {v : Value} {l : List α}
theorem A5c {t e : TypeId} {s : Nat} (ht : A5m P t e s = true) : P.underlying t = some (.slice e) /\ C0i P e s = true := by
  unfold A5m at ht
  simp only [Bool.and_eq_true] at ht
  obtain ⟨ht, h2⟩ := ht
  refine ⟨?_, h2⟩
  split at ht
  . rename_i e' he; simp at ht; subst ht; exact he
  . cases ht
theorem F9h {x ix : Operand} {t e : TypeId} {kd : IntKind} {i : Int} {a : Addr} {len cap : Nat} (hx : ev E x = .slice (some a) len cap) (hi : ev E ix = .int kd i) (ht : A5m P t e sz = true) (h0 : 0 <= i) (h1 : i < len) : G3 P E ty (.indexAddr t x ix) w (.pointer (some (a.add (i.toNat * sz)))) w := fun _ _ _ _ => by
  obtain ⟨hu, hz⟩ := A5c ht
  have h3 := Z9 (P := P) (w := w) hz
  simp [execOp, hx, hi, Instr.indexAt, asIntOf, run_underlying hu, h0, h1, h3, go_sem]
end sl
section owned
variable {w w' : World} {base : Nat} {e : TypeId} {sz : Nat} {v : Value} {n : Nat} {xs : List Value}
theorem F7f (h : w.ownsRow base e sz v n xs) (hx : Ext w w') : w'.ownsRow base e sz v n xs :=
  h.kept (row := none) ⟨hx.os, hx.tape, hx.output, hx.size, fun k hk _ => hx.block k hk⟩ (by cases v.ownBlock <;> simp)
theorem Blk.grown {b : Nat} {cs : Array Value} {t : TypeId} {row : Option Nat} (h : Blk w b cs t) (hg : w.grownBy w' row) (hne : some b ≠ row) : Blk w' b cs t := (hg.block b h.lt hne).trans h
end owned
section frames2
variable {P : Program} {n : Nat} {R : Env -> World -> Prop} {k : List Fr} {E : Env} {w : World} {all rest : List Oper} {d : Nat} {ty : TypeId} {pos : String} {aft : Array Edge} {g : Option (Nat × Bool)}
theorem E1p {T e : TypeId} {sz len : Nat} {parts : List (Nat × Operand)} {z : Value} (cs : Array Value) (ht : A5m P T e sz = true) (hz : A8y P e = some z) (hlen : len * sz <= 16777216)
    (hfill : Instr.fill (fun i => some (i * sz, sz)) ((Array.range (len * sz)).map (z.cells[· % z.cells.size]!)) (parts.map fun x => (x.1, ev E x.2)) = some cs) (h0 : len * sz ≠ 0) :
    G3 P E ty (.buildSlice T len parts.toArray) w (.slice (some ⟨w.heap.size, 0, none⟩) len len) (w.alloc (.cells cs e)) := fun _ _ _ _ => by
  obtain ⟨hu, hs⟩ := A5c ht
  unfold A8y at hz
  have h3 := Z9 (P := P) (w := w) hs
  cases hi : P.info? e with
  | none => simp [hi] at hz
  | some i =>
    simp [hi] at hz
    have hn : ¬ (16777216 < len * sz) := by omega
    simp only [execOp]
    unfold Instr.buildSlice
    simp [run_underlying hu, h3, hn, h0, zeroValue, typeInfo, hi, hz, hfill, newRow]
def Chg (b : Nat) (w w' : World) : Prop := w'.os = w.os /\ w'.tape = w.tape /\ (w'.output = w.output /\ w.drawn <= w'.drawn) /\ w'.heap.size = w.heap.size /\ ∀ k, k ≠ b -> w'.heap[k]? = w.heap[k]?
theorem Blk.chg {w w' : World} {b b' : Nat} {cs : Array Value} {t : TypeId} (h : Blk w b cs t) (hc : Chg b' w w') (hne : b ≠ b') : Blk w' b cs t := (hc.2.2.2.2 b hne).trans h
theorem Ext.chg {w0 w w' : World} {b : Nat} (h : Ext w0 w) (hc : Chg b w w') (hb : w0.heap.size <= b) : Ext w0 w' :=
  ⟨⟨hc.1.trans h.os, hc.2.1.trans h.tape, hc.2.2.1.1.trans h.output, by rw [hc.2.2.2.1]; exact h.size, fun k hk => (hc.2.2.2.2 k (by omega)).trans (h.block k hk)⟩, trivial⟩
theorem F5c {w w' : World} {b : Nat} (hc : Chg b w w') {a : Addr} (hne : a.block ≠ b) : w'.cell? a = w.cell? a := World.cell?_of_block (w := w) (hc.2.2.2.2 _ hne)
theorem F7s {w w' : World} {b base e sz n : Nat} {v : Value} {xs : List Value} (h : w.ownsRow base e sz v n xs) (hc : Chg b w w') (hne : some b ≠ v.ownBlock) : w'.ownsRow base e sz v n xs :=
  h.kept (row := some b) ⟨hc.1, hc.2.1, hc.2.2.1.1, by rw [hc.2.2.2.1]; exact Nat.le_refl _, fun k _ hk => hc.2.2.2.2 k (fun e => hk (by rw [e]))⟩ (.inr (Ne.symm hne))
theorem E2g {T tb : TypeId} {x y : Operand} {b o s : Nat} {cs : Array Value} {v : Value} (vs : List Value) (hx : ev E x = .pointer (some ⟨b, o, none⟩)) (hy : ev E y = v) (hvs : v.cells.toList = vs) (hs : C0i P T s = true) (hl : vs.length = s) (hb : Blk w b cs tb) (hfit : o + vs.length <= cs.size) (h1 : ∀ u ∈ vs, u.oneCell' = true) :
    E8p P E ty (.store T x y) w (w.setRow b (cs.toList.take o ++ vs ++ cs.toList.drop (o + vs.length)).toArray) := fun _ _ _ _ => by
  have h2 := Z9 (P := P) (w := w) hs
  have h3 := run_storeCells_at P b o tb vs 0 cs w hb (by simpa using hfit) h1
  have h4 : v.cells.size = s := by rw [<- hl, <- hvs]; simp
  simp only [Nat.add_zero] at h3
  subst hy
  simp [execOp, hx, Instr.storeAt, Instr.sureAddr, storeVar, h2, h4, hvs, h3]
end frames2
section el
variable {P : Program} {E : Env} {w : World} {ty : TypeId}
theorem M6.get {w : World} {b o j : Nat} {cs : List Value} {v : Value} (h : M6 w ⟨b, o, none⟩ cs) (hv : cs[j]? = some v) : w.cell? ⟨b, o + j, none⟩ = some v := by
  have := h j v hv
  rwa [N2] at this
theorem F8l {α : Type} {l : List α} {i : Nat} (h : i < l.length) : ∃ a, l[i]? = some a := ⟨_, List.getElem?_eq_getElem h⟩
theorem D9g {α : Type} {l : List α} {i : Nat} {a : α} (h : l[i]? = some a) : i < l.length := (List.getElem?_eq_some_iff.1 h).1
end el
section frames
variable {P : Program} {n : Nat} {R : Env -> World -> Prop} {k : List Fr} {E : Env} {w : World} {all rest : List Oper} {d : Nat} {ty : TypeId} {pos : String} {aft : Array Edge} {g : Option (Nat × Bool)}
end frames
def two (a b : Int) : Array Value := #[.int .i64 a, .int .i64 b]
def C9v {κ : Type} (kv : κ -> Value) (w : World) (b : Nat) (ks : List κ) : Prop :=
  ∃ es clock, w.heap[b]? = some (.map es clock) /\ es.toList.map (·.key) = ks.map kv /\ ∀ x ∈ es.toList, x.val = .bool true
theorem C9v.lt {κ : Type} {kv : κ -> Value} {w : World} {b : Nat} {ks : List κ} (h : C9v kv w b ks) : b < w.heap.size := by
  obtain ⟨es, cl, hb, _⟩ := h; exact (Array.getElem?_eq_some_iff.1 hb).1
theorem C9v.ext {κ : Type} {kv : κ -> Value} {w w' : World} {b : Nat} {ks : List κ} (h : C9v kv w b ks) (hx : Ext w w') : C9v kv w' b ks := by
  have hlt := h.lt
  obtain ⟨es, cl, hb, r⟩ := h; exact ⟨es, cl, (hx.block b hlt).trans hb, r⟩
theorem C9v.chg {κ : Type} {kv : κ -> Value} {w w' : World} {b b' : Nat} {ks : List κ} (h : C9v kv w b ks) (hc : Chg b' w w') (hne : b ≠ b') : C9v kv w' b ks := by
  obtain ⟨es, cl, hb, r⟩ := h; exact ⟨es, cl, (hc.2.2.2.2 b hne).trans hb, r⟩
theorem C9v.grown {κ : Type} {kv : κ -> Value} {w w' : World} {b : Nat} {row : Option Nat} {ks : List κ} (h : C9v kv w b ks) (hg : w.grownBy w' row) (hne : some b ≠ row) : C9v kv w' b ks := by
  have hlt := h.lt
  obtain ⟨es, cl, hb, r⟩ := h; exact ⟨es, cl, (hg.block b hlt hne).trans hb, r⟩
def iv (i : Int) : Value := .int .i64 i
def sv (s : Int × Int) : Value := .agg (two s.1 s.2)
section maps
variable {P : Program} {E : Env} {w : World} {ty : TypeId} {κ : Type} {kv : κ -> Value}
theorem F0c {t : TypeId} : G3 P E ty (.makeMap t none) w (.map (some w.heap.size)) (w.alloc (.map #[] 0)) := fun _ _ _ _ => by
  simp [execOp, Instr.makeMap]
end maps
section mframes
variable {P : Program} {n : Nat} {R : Env -> World -> Prop} {k : List Fr} {E : Env} {w : World} {all rest : List Oper} {d : Nat} {ty : TypeId} {pos : String} {aft : Array Edge} {g : Option (Nat × Bool)} {κ : Type}
end mframes
def Own {α : Type} (w : World) (base : Nat) (e : TypeId) (sz : Nat) (f : α -> List Value) (v : Value) (l : List α) : Prop := w.ownsRow base e sz v l.length (l.flatMap f)
section own
variable {α : Type} {w w' : World} {base : Nat} {e : TypeId} {sz : Nat} {f : α -> List Value} {v : Value} {l : List α}
theorem Own.ext (h : Own w base e sz f v l) (hx : Ext w w') : Own w' base e sz f v l := F7f h hx
theorem Own.chg {b : Nat} (h : Own w base e sz f v l) (hc : Chg b w w') (hne : some b ≠ v.ownBlock) : Own w' base e sz f v l := F7s h hc hne
theorem Own.nil (w : World) (base : Nat) (e : TypeId) (sz : Nat) (f : α -> List Value) : Own w base e sz f (.slice none 0 0) [] := World.ownsRow_nil w base e sz
theorem Own.lit {b : Nat} {cs : Array Value} {a : α} (hb : Blk w b cs e) (hcs : cs.toList = f a) (hl : (f a).length = sz) (hbase : base <= b) : Own w base e sz f (.slice (some ⟨b, 0, none⟩) 1 1) [a] := by
  refine ⟨by simp [hl], .inr ⟨b, 1, cs, rfl, hbase, hb, by simp, by decide, ?_, ?_⟩⟩
  . rw [<- Array.length_toList, hcs, hl]; simp
  . rw [hcs]; simp [hl, List.take_of_length_le]
theorem Own.grown {β : Type} {base2 e2 sz2 : Nat} {f2 : β -> List Value} {v2 : Value} {l2 : List β} (h2 : Own w base2 e2 sz2 f2 v2 l2) (hg : w.grownBy w' v.ownBlock) (hne : v2.ownBlock = none \/ v2.ownBlock ≠ v.ownBlock) : Own w' base2 e2 sz2 f2 v2 l2 := h2.kept hg hne
end own
section frames
variable {P : Program} {n : Nat} {R : Env -> World -> Prop} {k : List Fr} {E : Env} {w : World} {all rest : List Oper} {d : Nat} {ty : TypeId} {pos : String} {aft : Array Edge} {g : Option (Nat × Bool)} {α : Type} {f : α -> List Value}
theorem B2k (off : Nat) : ∀ (l : List Value) (j : Nat) (cs : Array Value), off + j + l.length <= cs.size ->
    ((l.zipIdx j).foldl (fun cs (x : Value × Nat) => cs.setIfInBounds (off + x.2) x.1) cs).toList = cs.toList.take (off + j) ++ l ++ cs.toList.drop (off + j + l.length)
  | [], j, cs, _ => by simp
  | x :: l, j, cs, h => by
    simp only [List.zipIdx_cons, List.foldl_cons]
    simp only [List.length_cons] at h
    rw [B2k off l (j + 1) _ (by simp; omega)]
    have hlt : off + j < cs.size := by omega
    have hlt' : off + j < cs.toList.length := by simpa using hlt
    simp only [Array.toList_setIfInBounds]
    rw [List.take_set, List.drop_set_of_lt (by omega), show off + (j + 1) = (off + j) + 1 from by omega, List.take_succ_eq_append_getElem hlt']
    rw [List.set_append_right _ _ (by simp; omega)]
    simp [Nat.min_eq_left (Nat.le_of_lt hlt), show off + j + 1 + l.length = off + j + (l.length + 1) from by omega]
theorem E4q (sz : Nat) : ∀ (vs : List Value) (k : Nat) (cs : Array Value), (∀ v ∈ vs, v.cells.size = sz) -> (k + vs.length) * sz <= cs.size ->
    ∃ r, Instr.fill (fun i => some (i * sz, sz)) cs ((vs.zipIdx k).map fun x => (x.2, x.1)) = some r /\ r.toList = cs.toList.take (k * sz) ++ vs.flatMap (·.cells.toList) ++ cs.toList.drop ((k + vs.length) * sz) /\ r.size = cs.size
  | [], k, cs, _, _ => ⟨cs, by simp [Instr.fill], by simp, rfl⟩
  | v :: vs, k, cs, hv, h => by
    have hs : v.cells.size = sz := hv v (by simp)
    have h1 : (k + (vs.length + 1)) * sz = k * sz + vs.length * sz + sz := by rw [Nat.add_mul, Nat.succ_mul]; omega
    simp only [List.length_cons, h1] at h
    have hle : k * sz + v.cells.size <= cs.size := by omega
    have hfold := B2k (k * sz) v.cells.toList 0 cs (by simp; omega)
    simp only [Nat.add_zero] at hfold
    generalize hc' : (v.cells.toList.zipIdx 0).foldl (fun cs (x : Value × Nat) => cs.setIfInBounds (k * sz + x.2) x.1) cs = cs' at hfold
    have hsz' : cs'.size = cs.size := by
      have := congrArg List.length hfold
      simp only [Array.length_toList, List.length_append, List.length_take, List.length_drop] at this
      omega
    have h2 : (k + 1 + vs.length) * sz = k * sz + vs.length * sz + sz := by rw [Nat.add_mul, Nat.add_mul]; omega
    obtain ⟨r, hr, hrl, hrs⟩ := E4q sz vs (k + 1) cs' (fun x hx => hv x (by simp [hx])) (by rw [h2, hsz']; exact h)
    refine ⟨r, ?_, ?_, by rw [hrs, hsz']⟩
    . simp only [List.zipIdx_cons, List.map_cons]
      unfold Instr.fill
      simp only [hs]
      rw [if_neg (by simp; omega)]
      rw [<- hr, <- hc', <- Array.foldl_toList]
      simp
    . rw [hrl, hfold]
      have e1 : (k + 1) * sz = k * sz + sz := Nat.succ_mul k sz
      have e2 : (k + (vs.length + 1)) * sz = (k + 1 + vs.length) * sz := by rw [h2, h1]
      have l1 : (cs.toList.take (k * sz)).length = k * sz := by simp; omega
      have l2 : v.cells.toList.length = sz := by simpa using hs
      rw [e1, List.flatMap_cons, List.length_cons, e2]
      have l3 : (cs.toList.take (k * sz) ++ v.cells.toList).length = k * sz + sz := by rw [List.length_append, l1, l2]
      congr 1
      . rw [<- List.append_assoc, List.take_left' l3]
      . rw [List.drop_append, List.drop_of_length_le (by rw [l3, h2]; omega), List.nil_append, List.drop_drop, l3, l2, h2]
        congr 1
        omega
end frames
def Frs (n : Nat) (v : Value) : Prop := ∀ g, v.ownBlock = some g -> n <= g
theorem SlR.chg {α : Type} {w w' : World} {sz b : Nat} {f : α -> List Value} {v : Value} {l : List α} (h : SlR w sz f v l) (hc : Chg b w w') (hne : ∀ g, v.ownBlock = some g -> g ≠ b) : SlR w' sz f v l := by
  rcases h with h | ⟨b', o, cap, hv, hcap, hh⟩
  . exact .inl h
  . refine .inr ⟨b', o, cap, hv, hcap, fun i a hi j u hu => ?_⟩
    have hb : b' ≠ b := hne b' (by rw [hv]; rfl)
    have := hh i a hi j u hu
    rw [N2] at this ⊢
    rw [F5c hc hb]
    exact this
theorem Own.frs {α : Type} {w : World} {base e sz n : Nat} {f : α -> List Value} {v : Value} {l : List α} (h : Own w base e sz f v l) (hn : n <= base) : Frs n v := fun g hg => by have := (World.ownsRow.lt h g hg).1; omega
def E7z (v v2 : Value) : Prop := ∀ g, v.ownBlock = some g -> v2.ownBlock ≠ some g
theorem E7z.symm {v v2 : Value} (h : E7z v v2) : E7z v2 v := fun g h1 h2 => h g h2 h1
section
variable {α β : Type} {w w' : World} {base e sz base2 e2 sz2 : Nat} {f : α -> List Value} {f2 : β -> List Value} {v v' v2 : Value} {l : List α} {l2 : List β}
theorem E7z.append (ha : E7z v v2) (h2 : Own w base2 e2 sz2 f2 v2 l2) (h : v'.ownBlock = v.ownBlock \/ v'.ownBlock = some w.heap.size) : E7z v' v2 := by
  intro g hg hg2
  rcases h with h | h
  . exact ha g (h ▸ hg) hg2
  . rw [hg] at h
    have := (World.ownsRow.lt h2 g hg2).2
    cases h
    omega
end
inductive Pl where
  | done
  | q (i : Nat) (p : Pl)
  | p (i : Nat) (p : Pl)
  | e (i : Nat) (p : Pl)
  | or (i : Nat) (p : Pl) (q : Pl)
def D8r (all : List Oper) (heads tails : List Nat) : Pl -> Nat -> Array Bool -> Option (List Nat) -> Bool
  | .done, _, listed, al => al.isNone && (Region.ready .any all.toArray listed).isEmpty
  | .q i p, fuel, listed, al => match fuel with
    | 0 => false
    | fuel + 1 => al.isNone && heads.contains i && !tails.contains i && Region.free .any all.toArray listed i && (Region.ready .any all.toArray listed).contains i && D8r all heads tails p fuel (listed.setIfInBounds i true) none
  | .p i p, fuel, listed, al => match fuel with
    | 0 => false
    | fuel + 1 => al.isNone && !tails.contains i && Region.free .any all.toArray listed i && (Region.ready .any all.toArray listed).contains i && D8r all heads tails p fuel (listed.setIfInBounds i true) none
  | .e i p, fuel, listed, al => match fuel with
    | 0 => false
    | fuel + 1 => (al.getD (Region.ready .any all.toArray listed) == [i]) && D8r all heads tails p fuel (listed.setIfInBounds i true) none
  | .or i p q, fuel, listed, al => match fuel with
    | 0 => false
    | fuel + 1 => match al.getD (Region.ready .any all.toArray listed) with
      | [] => false
      | j :: rest => Nat.beq i j && D8r all heads tails p fuel (listed.setIfInBounds i true) none && D8r all heads tails q (fuel + 1) listed (some rest)
def G1l (all : List Oper) (heads tails : List Nat) (p : Pl) : Bool := Region.noSelect all.toArray && C9c all heads tails && D8r all heads tails p all.length (Array.replicate all.length false) none
def F2x (P : Program) (R : World -> World -> Prop) (all : List Oper) (tails : List Nat) (next : Env -> World -> Prop) : Pl -> Bool -> Env -> World -> Prop
  | .done, _ => next
  | .q i p, t => fun E w => ∃ o, all[i]? = some o /\ D0o P (R w) all o (F2x P R all tails next p t) E w
  | .p i p, t => fun E w => ∃ o, all[i]? = some o /\ D0o P (fun _ => True) all o (F2x P R all tails next p t) E w
  | .e i p, t => fun E w => ∃ o, all[i]? = some o /\ U9 P all o (fun E' w' => ((t || tails.contains i) = true \/ R w w') /\ F2x P R all tails next p (t || tails.contains i) E' w') E w
  | .or i p q, t => fun E w => (∃ o, all[i]? = some o /\ U9 P all o (fun E' w' => ((t || tails.contains i) = true \/ R w w') /\ F2x P R all tails next p (t || tails.contains i) E' w') E w) /\ F2x P R all tails next q t E w
section
variable {P : Program} {ops : Array Oper} {Q : Exit -> Act -> World -> Prop} {S S' : World -> Prop} {tails : List Nat}
theorem A9f (hS : ∀ w, S w -> S' w) : ∀ (fuel : Nat) (listed : Array Bool) (a : Act) (w : World), A3b P ops Q S tails fuel listed a w -> A3b P ops Q S' tails fuel listed a w
  | 0, _, _, _, h => h
  | fuel + 1, _, _, _, h => ⟨h.1, fun i hi => wpOp_mono (fun a' w' h' => ⟨h'.1.imp id (hS w'), A9f hS fuel _ a' w' h'.2⟩) (h.2 i hi)⟩
theorem C8o : ∀ (fuel : Nat) (listed : Array Bool) (a : Act) (w : World), K2 tails listed = true -> A3b P ops Q S tails fuel listed a w -> A3b P ops Q S' tails fuel listed a w
  | 0, _, _, _, _, h => h
  | fuel + 1, _, _, _, ht, h => ⟨h.1, fun i hi => wpOp_mono (fun a' w' h' => ⟨.inl (Y3 ht), C8o fuel _ a' w' (Y3 ht) h'.2⟩) (h.2 i hi)⟩
end
theorem F5u {P : Program} {R : World -> World -> Prop} (hrefl : ∀ w, R w w) (htr : ∀ {a b c}, R a b -> R b c -> R a c) {n : Nat} {all : List Oper} {heads tails : List Nat} (hn : F4l n all = true) (hsel : Region.noSelect all.toArray = true) (hw : C9c all heads tails = true) {Q : Exit -> Env -> World -> Prop} (hQ : ∀ c E w, ¬ Q (.panic c) E w) :
    ∀ (p : Pl) (fuel : Nat) (listed : Array Bool) (al : Option (List Nat)), D8r all heads tails p fuel listed al = true -> F9a all.toArray heads tails listed -> ∀ (t : Bool), t = K2 tails listed -> ∀ (a : Act) (E : Env) (w : World), Rep n a E -> (∀ l, al = some l -> ∀ i ∈ l, i ∈ Region.ready .any all.toArray listed) -> F2x P R all tails (Q .normal) p t E w ->
      match al with
      | none => A3b P all.toArray (E3a n Q) (R w) tails fuel listed a w
      | some l => ∃ f, fuel = f + 1 /\ ∀ i ∈ l, wpOp P all.toArray (E3a n Q) i (fun a' w' => (K2 tails (listed.setIfInBounds i true) = true \/ R w w') /\ A3b P all.toArray (E3a n Q) (R w) tails f (listed.setIfInBounds i true) a' w') a w := by
  have hQ' : ∀ (c : List PanicEntry) (a a' : Act) (w : World), E3a n Q (.panic c) a' w -> E3a n Q (.panic c) a w := fun c a a' w ⟨E, _, h⟩ => (hQ c E w h).elim
  have hdst : ∀ (i : Nat) (o : Oper), all[i]? = some o -> ∀ d, o.dst = some d -> d < n := fun i o hi d hd => by
    have := List.all_eq_true.1 hn o (List.mem_of_getElem? hi)
    simpa [hd] using this
  have hwait := D2k hw
  have one : ∀ (i : Nat) (p : Pl) (fuel : Nat) (listed : Array Bool) (t : Bool) (a : Act) (E : Env) (w : World), (∀ (fuel : Nat) (listed : Array Bool) (al : Option (List Nat)), D8r all heads tails p fuel listed al = true -> F9a all.toArray heads tails listed -> ∀ (t : Bool), t = K2 tails listed -> ∀ (a : Act) (E : Env) (w : World), Rep n a E -> (∀ l, al = some l -> ∀ i ∈ l, i ∈ Region.ready .any all.toArray listed) -> F2x P R all tails (Q .normal) p t E w ->
      match al with
      | none => A3b P all.toArray (E3a n Q) (R w) tails fuel listed a w
      | some l => ∃ f, fuel = f + 1 /\ ∀ i ∈ l, wpOp P all.toArray (E3a n Q) i (fun a' w' => (K2 tails (listed.setIfInBounds i true) = true \/ R w w') /\ A3b P all.toArray (E3a n Q) (R w) tails f (listed.setIfInBounds i true) a' w') a w) ->
      D8r all heads tails p fuel (listed.setIfInBounds i true) none = true -> F9a all.toArray heads tails listed -> t = K2 tails listed -> Rep n a E -> i ∈ Region.ready .any all.toArray listed -> (∃ o, all[i]? = some o /\ U9 P all o (fun E' w' => ((t || tails.contains i) = true \/ R w w') /\ F2x P R all tails (Q .normal) p (t || tails.contains i) E' w') E w) ->
      wpOp P all.toArray (E3a n Q) i (fun a' w' => (K2 tails (listed.setIfInBounds i true) = true \/ R w w') /\ A3b P all.toArray (E3a n Q) (R w) tails fuel (listed.setIfInBounds i true) a' w') a w := by
    intro i p fuel listed t a E w ih hok hd ht hr hmem ⟨o, hi, h⟩
    have ht' : (t || tails.contains i) = K2 tails (listed.setIfInBounds i true) := by rw [E3r (F3c hmem), ht]
    refine D4u hn hi (fun a' E' w' hr' hh => ⟨ht' ▸ hh.1, ?_⟩) hr h
    have := ih fuel _ none hok (hd.set hwait hmem) _ ht' a' E' w' hr' (fun _ hh => by cases hh) hh.2
    simp only at this
    rcases hh.1 with g | g
    . exact C8o fuel _ a' w' (ht' ▸ g) this
    . exact A9f (fun w2 h2 => htr g h2) fuel _ a' w' this
  intro p
  induction p with
  | done =>
    intro fuel listed al hok _ t _ a E w hr _ h
    simp only [D8r, Bool.and_eq_true, Option.isNone_iff_eq_none] at hok
    obtain ⟨rfl, hok⟩ := hok
    have hok' : Region.ready .any all.toArray listed = [] := by simpa using hok
    cases fuel with
    | zero => exact ⟨hok', E, hr, h⟩
    | succ fuel => exact ⟨fun _ => ⟨E, hr, h⟩, by rw [hok']; simp⟩
  | q i p ih =>
    intro fuel listed al hok hd t ht a E w hr _ h
    cases fuel with
    | zero => simp [D8r] at hok
    | succ fuel =>
      simp only [D8r, Bool.and_eq_true, Bool.not_eq_true', Option.isNone_iff_eq_none] at hok
      obtain ⟨⟨⟨⟨⟨rfl, hih⟩, hit⟩, hf⟩, hrd⟩, hok⟩ := hok
      have hih : i ∈ heads := by simpa using hih
      have hit := A6f hit
      have hrd : i ∈ Region.ready .any all.toArray listed := by simpa using hrd
      obtain ⟨o, hi, h⟩ := h
      have hi' : all.toArray[i]? = some o := by simpa using hi
      have ht' : t = K2 tails (listed.setIfInBounds i true) := by rw [K7 hit]; exact ht
      rcases h with ⟨hw, v, hv, h⟩ | ⟨hw, h⟩
      . refine C4x (v := v) hi' hih hit (Region.noSelect_spec hsel) hwait (fun c a w hh => hQ' c a _ w hh) fuel listed a w hd (Region.free_spec hi' hf) hrd (.inl ⟨by rw [hr.wanted]; exact hw, fun w' hS' => by rw [hr.ev]; exact hv w' hS'⟩) (hrefl w) ?_
        exact ih fuel _ none hok (hd.set hwait hrd) t ht' _ _ w (hr.put _ _ (hdst i o hi)) (fun _ hh => by cases hh) h
      . refine C4x (v := undef) hi' hih hit (Region.noSelect_spec hsel) hwait (fun c a w hh => hQ' c a _ w hh) fuel listed a w hd (Region.free_spec hi' hf) hrd (.inr ⟨by rw [hr.wanted]; exact hw, rfl⟩) (hrefl w) ?_
        exact ih fuel _ none hok (hd.set hwait hrd) t ht' _ _ w (hr.put _ _ (hdst i o hi)) (fun _ hh => by cases hh) h
  | p i p ih =>
    intro fuel listed al hok hd t ht a E w hr _ h
    cases fuel with
    | zero => simp [D8r] at hok
    | succ fuel =>
      simp only [D8r, Bool.and_eq_true, Bool.not_eq_true', Option.isNone_iff_eq_none] at hok
      obtain ⟨⟨⟨⟨rfl, hit⟩, hf⟩, hrd⟩, hok⟩ := hok
      have hit := A6f hit
      have hrd : i ∈ Region.ready .any all.toArray listed := by simpa using hrd
      obtain ⟨o, hi, h⟩ := h
      have hi' : all.toArray[i]? = some o := by simpa using hi
      have ht' : t = K2 tails (listed.setIfInBounds i true) := by rw [K7 hit]; exact ht
      rcases h with ⟨hw, v, hv, h⟩ | ⟨hw, h⟩
      . refine C8a (v := v) hi' hit (Region.noSelect_spec hsel) (fun c a w hh => hQ' c a _ w hh) fuel listed a w (Region.free_spec hi' hf) hrd (.inl ⟨by rw [hr.wanted]; exact hw, fun w' hS' => by rw [hr.ev]; exact hv w' hS'⟩) (.inr (hrefl w)) ?_
        exact ih fuel _ none hok (hd.set hwait hrd) t ht' _ _ w (hr.put _ _ (hdst i o hi)) (fun _ hh => by cases hh) h
      . refine C8a (v := undef) hi' hit (Region.noSelect_spec hsel) (fun c a w hh => hQ' c a _ w hh) fuel listed a w (Region.free_spec hi' hf) hrd (.inr ⟨by rw [hr.wanted]; exact hw, rfl⟩) (.inr (hrefl w)) ?_
        exact ih fuel _ none hok (hd.set hwait hrd) t ht' _ _ w (hr.put _ _ (hdst i o hi)) (fun _ hh => by cases hh) h
  | e i p ih =>
    intro fuel listed al hok hd t ht a E w hr hal h
    cases fuel with
    | zero => simp [D8r] at hok
    | succ fuel =>
      simp only [D8r, Bool.and_eq_true, beq_iff_eq] at hok
      obtain ⟨hrd, hok⟩ := hok
      cases al with
      | none =>
        simp only [Option.getD_none] at hrd
        have hmem : i ∈ Region.ready .any all.toArray listed := by rw [hrd]; simp
        refine ⟨fun h0 => by rw [hrd] at h0; simp at h0, ?_⟩
        intro j hj
        obtain rfl : j = i := by rw [hrd] at hj; simpa using hj
        exact one j p fuel listed t a E w ih hok hd ht hr hmem h
      | some l =>
        simp only [Option.getD_some] at hrd
        subst hrd
        refine ⟨fuel, rfl, fun j hj => ?_⟩
        obtain rfl : j = i := by simpa using hj
        exact one j p fuel listed t a E w ih hok hd ht hr (hal _ rfl j (by simp)) h
  | or i p q ihp ihq =>
    intro fuel listed al hok hd t ht a E w hr hal h
    cases fuel with
    | zero => simp [D8r] at hok
    | succ fuel =>
      simp only [D8r] at hok
      cases hl : al.getD (Region.ready .any all.toArray listed) with
      | nil => rw [hl] at hok; simp at hok
      | cons j rest =>
        rw [hl] at hok
        simp only [Bool.and_eq_true] at hok
        obtain ⟨⟨hij, hokp⟩, hokq⟩ := hok
        have hij := Nat.eq_of_beq_eq_true hij
        subst hij
        have hin : ∀ m ∈ i :: rest, m ∈ Region.ready .any all.toArray listed := fun m hm => by
          cases al with
          | none => rw [Option.getD_none] at hl; rw [hl]; exact hm
          | some l => rw [Option.getD_some] at hl; exact hal l rfl m (by rw [hl]; exact hm)
        have h1 := one i p fuel listed t a E w ihp hokp hd ht hr (hin i (by simp)) h.1
        have h2 := ihq (fuel + 1) listed (some rest) hokq hd t ht a E w hr (fun l hh m hm => by cases hh; exact hin m (by simp [hm])) h.2
        obtain ⟨f, hf, h2⟩ := h2
        have hf : f = fuel := by omega
        subst hf
        have hall : ∀ m ∈ i :: rest, wpOp P all.toArray (E3a n Q) m (fun a' w' => (K2 tails (listed.setIfInBounds m true) = true \/ R w w') /\ A3b P all.toArray (E3a n Q) (R w) tails f (listed.setIfInBounds m true) a' w') a w := fun m hm => by
          rcases List.mem_cons.1 hm with rfl | hm
          . exact h1
          . exact h2 m hm
        cases al with
        | none =>
          rw [Option.getD_none] at hl
          exact ⟨fun h0 => by rw [hl] at h0; simp at h0, fun m hm => hall m (by rw [hl] at hm; exact hm)⟩
        | some l =>
          rw [Option.getD_some] at hl
          subst hl
          exact ⟨f, rfl, hall⟩
end Go.Gw
namespace Go.Vc
open Go Go.RowKit Go.Gw
inductive Ty where
  | int (k : IntKind)
  | bool
  | str
  | unit
  | pair (a b : Ty)
  | sl (t : Ty)
  | ptr (t : Ty)
  | mp (ka : Bool) (kt : Ty) (va : Bool) (vt : Ty)
  deriving DecidableEq
@[reducible] def Ty.den : Ty -> Type
  | .int _ => Int
  | .bool => Bool
  | .str => ByteArray
  | .unit => Unit
  | .pair a b => a.den × b.den
  | .sl t => List t.den
  | .ptr t => t.den
  | .mp _ kt _ vt => List (kt.den × vt.den)
def Ty.size : Ty -> Nat
  | .unit => 0
  | .pair a b => a.size + b.size
  | _ => 1
def Ty.dflt : (t : Ty) -> t.den
  | .int _ => (0 : Int)
  | .bool => false
  | .str => ⟨#[]⟩
  | .unit => ()
  | .pair a b => (a.dflt, b.dflt)
  | .sl _ => []
  | .ptr t => t.dflt
  | .mp _ _ _ _ => []
def inR (k : IntKind) (n : Int) : Prop := k.min <= n /\ n <= k.max
def Ty.wf : (t : Ty) -> t.den -> Prop
  | .int k, n => inR k n
  | .bool, _ => True
  | .str, _ => True
  | .unit, _ => True
  | .pair a b, x => a.wf x.1 /\ b.wf x.2
  | .sl t, l => l.length <= 9223372036854775807 /\ ∀ x ∈ l, t.wf x
  | .ptr t, x => t.wf x
  | .mp _ kt _ vt, l => ∀ x ∈ l, kt.wf x.1 /\ vt.wf x.2
def Q3 {α : Type} (R : List Value -> α -> Prop) : List Value -> List α -> Prop
  | cs, [] => cs = []
  | cs, x :: l => ∃ c1 c2, cs = c1 ++ c2 /\ R c1 x /\ Q3 R c2 l
def A5z {α : Type} (R : List Value -> α -> Prop) : Bool -> Value -> α -> Prop
  | true, v, x => ∃ cs : List Value, v = .agg cs.toArray /\ R cs x
  | false, v, x => R [v] x
def MOk (ents : Array MapEntry) (clock : Nat) : Prop := (∀ x ∈ ents.toList, x.born < clock) /\ (ents.toList.map (·.born)).Nodup
def X4 {κ ν : Type} (Rk : Value -> κ -> Prop) (Rv : Value -> ν -> Prop) : List MapEntry -> List (κ × ν) -> Prop
  | es, [] => es = []
  | es, x :: l => ∃ e es', es = e :: es' /\ Rk e.key x.1 /\ Rv e.val x.2 /\ X4 Rk Rv es' l
def Rep : (t : Ty) -> World -> (Nat -> Prop) -> List Value -> t.den -> Prop
  | .int k, _, _, cs, n => cs = [.int k n] /\ inR k n
  | .bool, _, _, cs, b => cs = [.bool b]
  | .str, _, _, cs, s => cs = [.string s]
  | .unit, _, _, cs, _ => cs = []
  | .pair a b, w, Z, cs, x => ∃ c1 c2, cs = c1 ++ c2 /\ Rep a w Z c1 x.1 /\ Rep b w Z c2 x.2
  | .sl t, w, Z, cs, l => ∃ a cap, cs = [.slice a l.length cap] /\ l.length <= cap /\ cap <= maxLen /\ (a = none -> cap = 0) /\ (l = [] \/ ∃ b o ec, a = some ⟨b, o, none⟩ /\ Z b /\ M6 w ⟨b, o, none⟩ ec /\ Q3 (Rep t w Z) ec l)
  | .ptr t, w, Z, cs, x => ∃ b o ec, cs = [.pointer (some ⟨b, o, none⟩)] /\ Z b /\ M6 w ⟨b, o, none⟩ ec /\ Rep t w Z ec x
  | .mp ka kt va vt, w, Z, cs, l => (cs = [.map none] /\ l = []) \/ ∃ b ents clock, cs = [.map (some b)] /\ Z b /\ w.heap[b]? = some (.map ents clock) /\ MOk ents clock /\ X4 (A5z (Rep kt w Z) ka) (A5z (Rep vt w Z) va) ents.toList l
theorem A5z.mono {α : Type} {R R' : List Value -> α -> Prop} (h : ∀ c x, R c x -> R' c x) : ∀ {a : Bool} {v : Value} {x : α}, A5z R a v x -> A5z R' a v x
  | true, _, _, ⟨cs, e, hh⟩ => ⟨cs, e, h _ _ hh⟩
  | false, _, _, hh => h _ _ hh
theorem X4.mono {κ ν : Type} {Rk Rk' : Value -> κ -> Prop} {Rv Rv' : Value -> ν -> Prop} (h : ∀ c x, Rk c x -> Rk' c x) (h' : ∀ c x, Rv c x -> Rv' c x) : ∀ {l : List (κ × ν)} {es : List MapEntry}, X4 Rk Rv es l -> X4 Rk' Rv' es l
  | [], _, hh => hh
  | _ :: _, _, ⟨e, es', he, h1, h2, h3⟩ => ⟨e, es', he, h _ _ h1, h' _ _ h2, X4.mono h h' h3⟩
theorem X4.mem {κ ν : Type} {Rk : Value -> κ -> Prop} {Rv : Value -> ν -> Prop} : ∀ {l : List (κ × ν)} {es : List MapEntry} {x : κ × ν}, X4 Rk Rv es l -> x ∈ l -> ∃ e ∈ es, Rk e.key x.1 /\ Rv e.val x.2
  | y :: l, _, x, ⟨e, es', he, h1, h2, h3⟩, hx => by
    rw [he]
    rcases List.mem_cons.1 hx with rfl | hx
    . exact ⟨e, by simp, h1, h2⟩
    . obtain ⟨e', hm, h⟩ := X4.mem h3 hx
      exact ⟨e', by simp [hm], h⟩
section each
variable {α : Type} {R R' : List Value -> α -> Prop}
theorem Q3.mono (h : ∀ c x, R c x -> R' c x) : ∀ {l : List α} {cs : List Value}, Q3 R cs l -> Q3 R' cs l
  | [], _, hh => hh
  | _ :: _, _, ⟨c1, c2, e, h1, h2⟩ => ⟨c1, c2, e, h _ _ h1, Q3.mono h h2⟩
theorem Q3.append : ∀ {l l' : List α} {cs cs' : List Value}, Q3 R cs l -> Q3 R cs' l' -> Q3 R (cs ++ cs') (l ++ l')
  | [], _, cs, cs', h, h' => by cases h; simpa using h'
  | _ :: _, _, _, cs', ⟨c1, c2, e, h1, h2⟩, h' => ⟨c1, c2 ++ cs', by simp [e], h1, Q3.append h2 h'⟩
theorem Q3.length {s : Nat} (hs : ∀ c x, R c x -> c.length = s) : ∀ {l : List α} {cs : List Value}, Q3 R cs l -> cs.length = l.length * s
  | [], _, h => by cases h; simp
  | _ :: l, _, ⟨c1, c2, e, h1, h2⟩ => by
    have := Q3.length hs h2
    rw [e, List.length_append, hs _ _ h1, this, List.length_cons, Nat.succ_mul]; omega
theorem Q3.get {s : Nat} (hs : ∀ c x, R c x -> c.length = s) : ∀ {l : List α} {cs : List Value} {i : Nat} {x : α}, Q3 R cs l -> l[i]? = some x -> R ((cs.drop (i * s)).take s) x
  | [], _, _, _, _, hi => by simp at hi
  | y :: l, _, i, x, ⟨c1, c2, e, h1, h2⟩, hi => by
    have hl := hs _ _ h1
    cases i with
    | zero =>
      simp at hi; subst hi
      rw [e, Nat.zero_mul, List.drop_zero, List.take_left' hl]; exact h1
    | succ i =>
      simp at hi
      have := Q3.get hs h2 hi
      rw [e, Nat.succ_mul, Nat.add_comm, <- List.drop_drop, List.drop_left' hl]; exact this
theorem Q3.set {s : Nat} (hs : ∀ c x, R c x -> c.length = s) : ∀ {l : List α} {cs : List Value} {i : Nat} {x : α} {c : List Value}, Q3 R cs l -> R c x -> i < l.length -> Q3 R (cs.take (i * s) ++ c ++ cs.drop (i * s + s)) (l.set i x)
  | [], _, _, _, _, _, _, hi => by simp at hi
  | y :: l, _, i, x, c, ⟨c1, c2, e, h1, h2⟩, hc, hi => by
    have hl := hs _ _ h1
    cases i with
    | zero =>
      refine ⟨c, c2, ?_, hc, h2⟩
      rw [e, Nat.zero_mul, Nat.zero_add, List.take_zero, List.nil_append, List.drop_left' hl]
    | succ i =>
      have hi' : i < l.length := by simpa using hi
      refine ⟨c1, _, ?_, h1, Q3.set hs h2 hc hi'⟩
      have e1 : (i + 1) * s = s + i * s := by rw [Nat.succ_mul, Nat.add_comm]
      rw [e, e1, List.take_append, List.take_of_length_le (by omega), hl, Nat.add_sub_cancel_left, List.drop_append, List.drop_of_length_le (by omega), hl]
      simp [show s + i * s + s - s = i * s + s from by omega]
theorem Q3.take {s : Nat} (hs : ∀ c x, R c x -> c.length = s) : ∀ {l : List α} {cs : List Value} (n : Nat), Q3 R cs l -> Q3 R (cs.take (n * s)) (l.take n)
  | [], _, n, h => by cases h; simp; rfl
  | _ :: l, _, n, ⟨c1, c2, e, h1, h2⟩ => by
    have hl := hs _ _ h1
    cases n with
    | zero => simp; rfl
    | succ n =>
      refine ⟨c1, _, ?_, h1, Q3.take hs n h2⟩
      rw [e, show (n + 1) * s = s + n * s from by rw [Nat.succ_mul, Nat.add_comm], List.take_append, List.take_of_length_le (by omega), hl, Nat.add_sub_cancel_left]
theorem Q3.drop {s : Nat} (hs : ∀ c x, R c x -> c.length = s) : ∀ {l : List α} {cs : List Value} (n : Nat), Q3 R cs l -> Q3 R (cs.drop (n * s)) (l.drop n)
  | [], _, n, h => by cases h; simp; rfl
  | _ :: l, _, n, ⟨c1, c2, e, h1, h2⟩ => by
    have hl := hs _ _ h1
    cases n with
    | zero => simp; exact ⟨c1, c2, e, h1, h2⟩
    | succ n =>
      have := Q3.drop hs n h2
      rw [e, show (n + 1) * s = s + n * s from by rw [Nat.succ_mul, Nat.add_comm], <- List.drop_drop, List.drop_left' hl]
      exact this
end each
theorem Rep.length : ∀ {t : Ty} {w : World} {Z : Nat -> Prop} {cs : List Value} {x : t.den}, Rep t w Z cs x -> cs.length = t.size
  | .int _, _, _, _, _, h => by rw [h.1]; rfl
  | .bool, _, _, _, _, h => by rw [show _ = _ from h]; rfl
  | .str, _, _, _, _, h => by rw [show _ = _ from h]; rfl
  | .unit, _, _, _, _, h => by rw [show _ = _ from h]; rfl
  | .pair a b, _, _, _, _, ⟨c1, c2, e, h1, h2⟩ => by rw [e, List.length_append, Rep.length h1, Rep.length h2]; rfl
  | .sl _, _, _, _, _, ⟨_, _, e, _⟩ => by rw [e]; rfl
  | .ptr _, _, _, _, _, ⟨_, _, _, e, _⟩ => by rw [e]; rfl
  | .mp _ _ _ _, _, _, _, _, h => by
    rcases h with ⟨e, _⟩ | ⟨_, _, _, e, _⟩ <;> rw [e] <;> rfl
def W7 (Z : Nat -> Prop) (w w' : World) : Prop := ∀ b, Z b -> w'.heap[b]? = w.heap[b]?
theorem B5l {Z : Nat -> Prop} {w w' : World} {b o : Nat} {ec : List Value} (h : M6 w ⟨b, o, none⟩ ec) (hb : Z b) (hs : W7 Z w w') : M6 w' ⟨b, o, none⟩ ec := fun j v hv => by
  have := h j v hv
  rw [N2] at this ⊢
  rw [<- this]
  exact World.cell?_of_block (hs b hb)
theorem Rep.mono : ∀ {t : Ty} {w w' : World} {Z Z' : Nat -> Prop} {cs : List Value} {x : t.den}, (∀ b, Z b -> Z' b) -> W7 Z w w' -> Rep t w Z cs x -> Rep t w' Z' cs x
  | .int _, _, _, _, _, _, _, _, _, h => h
  | .bool, _, _, _, _, _, _, _, _, h => h
  | .str, _, _, _, _, _, _, _, _, h => h
  | .unit, _, _, _, _, _, _, _, _, h => h
  | .pair a b, _, _, _, _, _, _, hz, hs, ⟨c1, c2, e, h1, h2⟩ => ⟨c1, c2, e, Rep.mono hz hs h1, Rep.mono hz hs h2⟩
  | .sl t, _, _, _, _, _, _, hz, hs, ⟨a, cap, e, hc, hm, hn, h⟩ => ⟨a, cap, e, hc, hm, hn, h.imp id fun ⟨b, o, ec, ha, hb, hcs, he⟩ => ⟨b, o, ec, ha, hz b hb, B5l hcs hb hs, he.mono fun _ _ => Rep.mono hz hs⟩⟩
  | .ptr t, _, _, _, _, _, _, hz, hs, ⟨b, o, ec, e, hb, hcs, he⟩ => ⟨b, o, ec, e, hz b hb, B5l hcs hb hs, Rep.mono hz hs he⟩
  | .mp ka kt va vt, _, _, _, _, _, _, hz, hs, h => h.imp id fun ⟨b, es, cl, e, hb, hh, hm, he⟩ => ⟨b, es, cl, e, hz b hb, by rw [hs b hb]; exact hh, hm, he.mono (fun _ _ h => h.mono fun _ _ => Rep.mono hz hs) (fun _ _ h => h.mono fun _ _ => Rep.mono hz hs)⟩
theorem A5z.wf' {t : Ty} {R : List Value -> t.den -> Prop} (hR : ∀ cs x, R cs x -> t.wf x) : ∀ {a : Bool} {v : Value} {x : t.den}, A5z R a v x -> t.wf x
  | true, _, _, ⟨_, _, h⟩ => hR _ _ h
  | false, _, _, h => hR _ _ h
theorem Rep.wf : ∀ {t : Ty} {w : World} {Z : Nat -> Prop} {cs : List Value} {x : t.den}, Rep t w Z cs x -> t.wf x
  | .int _, _, _, _, _, h => h.2
  | .bool, _, _, _, _, _ => trivial
  | .str, _, _, _, _, _ => trivial
  | .unit, _, _, _, _, _ => trivial
  | .pair a b, _, _, _, _, ⟨c1, c2, e, h1, h2⟩ => ⟨Rep.wf h1, Rep.wf h2⟩
  | .sl t, _, _, _, l, ⟨a, cap, e, hc, hm, _, h⟩ => ⟨by simp only [maxLen] at hm; omega, by
      rcases h with h | ⟨b, o, ec, _, _, _, he⟩
      . intro x hx; rw [h] at hx; cases hx
      . intro x hx
        obtain ⟨i, hi, hx'⟩ := List.getElem_of_mem hx
        exact Rep.wf (t := t) (Q3.get (R := Rep t _ _) (s := t.size) (fun _ _ h => Rep.length h) he (i := i) (by rw [List.getElem?_eq_getElem hi, hx']))⟩
  | .ptr t, _, _, _, _, ⟨b, o, ec, e, hb, hcs, he⟩ => Rep.wf (t := t) he
  | .mp ka kt va vt, _, _, _, l, h => by
    rcases h with ⟨_, e⟩ | ⟨b, es, cl, e, hb, hh, hm, he⟩
    . intro x hx; rw [e] at hx; cases hx
    . intro x hx
      obtain ⟨m, _, h1, h2⟩ := he.mem hx
      exact ⟨A5z.wf' (fun _ _ => Rep.wf) h1, A5z.wf' (fun _ _ => Rep.wf) h2⟩
theorem Rep.oneCell : ∀ {t : Ty} {w : World} {Z : Nat -> Prop} {cs : List Value} {x : t.den}, Rep t w Z cs x -> ∀ u ∈ cs, u.oneCell' = true
  | .int _, _, _, _, _, h => by rw [h.1]; exact A8v rfl A8g
  | .bool, _, _, _, _, h => by rw [show _ = _ from h]; exact A8v rfl A8g
  | .str, _, _, _, _, h => by rw [show _ = _ from h]; exact A8v rfl A8g
  | .unit, _, _, _, _, h => by rw [show _ = _ from h]; exact A8g
  | .pair a b, _, _, _, _, ⟨c1, c2, e, h1, h2⟩ => by
    rw [e]; intro u hu
    rcases List.mem_append.1 hu with hu | hu
    . exact Rep.oneCell h1 u hu
    . exact Rep.oneCell h2 u hu
  | .sl _, _, _, _, _, ⟨_, _, e, _⟩ => by rw [e]; exact A8v rfl A8g
  | .ptr _, _, _, _, _, ⟨_, _, _, e, _⟩ => by rw [e]; exact A8v rfl A8g
  | .mp _ _ _ _, _, _, _, _, h => by
    rcases h with ⟨e, _⟩ | ⟨_, _, _, e, _⟩ <;> rw [e] <;> exact A8v rfl A8g
theorem Q3.oneCell {t : Ty} {w : World} {Z : Nat -> Prop} : ∀ {l : List t.den} {cs : List Value}, Q3 (Rep t w Z) cs l -> ∀ u ∈ cs, u.oneCell' = true
  | [], _, h => by rw [show _ = _ from h]; exact A8g
  | _ :: _, _, ⟨c1, c2, e, h1, h2⟩ => by
    rw [e]; intro u hu
    rcases List.mem_append.1 hu with hu | hu
    . exact Rep.oneCell h1 u hu
    . exact Q3.oneCell h2 u hu
theorem R3 {w : World} {b o : Nat} {ec : List Value} (h : M6 w ⟨b, o, none⟩ ec) (i n : Nat) : M6 w ⟨b, o + i, none⟩ ((ec.drop i).take n) := fun j v hv => by
  rw [N2]
  rw [List.getElem?_take] at hv
  split at hv
  . rw [List.getElem?_drop] at hv
    have := h (i + j) v hv
    rw [N2] at this
    rw [Nat.add_assoc]; exact this
  . cases hv
@[reducible] def A1h : List (Bool × Ty) -> Type
  | [] => Unit
  | (_, t) :: r => t.den × A1h r
inductive C where
  | val (t : Ty) (x : t.den)
  | row (k : Nat)
  | box (k off : Nat)
  | elp (k sz i off : Nat)
  | win (k sz : Nat) (lo hi : Int)
  | pf (t : Ty) (x : t.den) (off : Nat)
  | mp (k : Nat)
  | fn (f : FuncId) (caps : List Nat)
  | fv (P : Program) (as : List (Bool × Ty)) (ra : Bool) (r : Ty) (ok : A1h as -> Prop) (φ : A1h as -> r.den)
  | raw (v : Value)
  | dead
structure SV where
  agg : Bool
  cs : List C
inductive DV where
  | one (v : SV)
  | tup (vs : List SV)
  | cnd (t : Tmp) (b : Bool) (v : SV)
  | dead
inductive LC where
  | none
  | box (ty : TypeId) (cs : List C)
  | row (t : Ty) (e : TypeId) (l : List t.den)
  | map (ka : Bool) (kt : Ty) (va : Bool) (vt : Ty) (es : List (kt.den × vt.den))
  | rows (t : Ty) (e e' : TypeId) (ls : List (List t.den)) (al : List (Nat × Nat)) (ho : Option Nat)
  | al (k : Nat)
  | sbox (q : Nat) (t : Ty) (x : t.den)
  | mapE (ka : Bool) (kt : Ty) (va : Bool) (vt : Ty) (es : List (kt.den × vt.den)) (j q : Nat)
  | iter (ka : Bool) (kt : Ty) (va : Bool) (vt : Ty) (left : List (kt.den × vt.den)) (cur : Option (kt.den × vt.den))
structure St where
  sl : List (Nat × Nat × DV)
  lc : List (Nat × Nat × LC)
  nx : Nat
  ct : Nat
  nm : Nat := 0
  fr : List (List (Nat × Nat × DV)) := []
def okP : Option Prop -> Prop
  | none => True
  | some φ => φ
def F6w (φ : Option Prop) (p : Prop) : Prop := match φ with
  | none => p
  | some φ => φ /\ p
theorem G8 {φ : Option Prop} {p : Prop} : F6w φ p ↔ okP φ /\ p := by cases φ <;> simp [F6w, okP]
def G1w (c : Prop) (φ : Option Prop) : Option Prop := match φ with
  | none => none
  | some φ => some (c -> φ)
theorem E5k {c : Prop} {φ : Option Prop} : okP (G1w c φ) ↔ (c -> okP φ) := by cases φ <;> simp [G1w, okP]
def sel {α : Type} (e : Bool) (x y : α) : α := bif e then x else y
def find {α : Type} (d : α) (s : Nat) : List (Nat × α) -> α
  | [] => d
  | (t, x) :: l => bif Nat.beq t s then x else find d s l
def St.eS (st : St) (s : Nat) : Nat × DV := find (0, .dead) s st.sl
def St.eL (st : St) (k : Nat) : Nat × LC := find (0, .none) k st.lc
def St.S (st : St) (s : Nat) : DV := (st.eS s).2
def St.L (st : St) (k : Nat) : LC := (st.eL k).2
def put {α : Type} (s : Nat) (x : α) : List (Nat × α) -> List (Nat × α)
  | [] => [(s, x)]
  | (t, y) :: l => bif Nat.beq t s then (t, x) :: l else (t, y) :: put s x l
theorem B8g {α : Type} (d : α) (s : Nat) (x : α) (q : Nat) : ∀ l : List (Nat × α), find d q (put s x l) = if q = s then x else find d q l
  | [] => by
    simp only [put, find]
    by_cases h : q = s
    . simp [h]
    . simp [h, F5 (Ne.symm h)]
  | (t, y) :: l => by
    have ih := B8g d s x q l
    simp only [put]
    cases hts : Nat.beq t s with
    | true =>
      have ets := Nat.eq_of_beq_eq_true hts
      subst ets
      simp only [cond_true, find]
      by_cases h : q = t
      . simp [h]
      . simp [h, F5 (Ne.symm h)]
    | false =>
      have nts : t ≠ s := Nat.ne_of_beq_eq_false hts
      simp only [cond_false, find, ih]
      cases htq : Nat.beq t q with
      | true =>
        have etq := Nat.eq_of_beq_eq_true htq
        subst etq
        simp [nts]
      | false => simp
def D2v (t : Nat) : DV -> Bool
  | .cnd t' _ _ => Nat.beq t' t
  | _ => false
def unc (t g : Nat) : Nat × DV -> Nat × DV
  | (n, .cnd t' b v) => bif Nat.beq t' t then (g, .dead) else (n, .cnd t' b v)
  | (n, .one v) => (n, .one v)
  | (n, .tup v) => (n, .tup v)
  | (n, .dead) => (n, .dead)
theorem G0j (t g : Nat) (d : Nat × DV) : unc t g d = bif D2v t d.2 then (g, .dead) else d := by
  obtain ⟨n, d⟩ := d
  cases d <;> rfl
def F2j (t g : Nat) : List (Nat × Nat × DV) -> List (Nat × Nat × DV)
  | [] => []
  | (s, d) :: l => (s, unc t g d) :: F2j t g l
theorem D3x (t g q : Nat) : ∀ l : List (Nat × Nat × DV), find (0, .dead) q (F2j t g l) = bif D2v t (find (0, .dead) q l).2 then (g, .dead) else find (0, .dead) q l
  | [] => by simp [F2j, find, D2v]
  | (s, d) :: l => by
    have ih := D3x t g q l
    simp only [F2j, find, G0j]
    cases Nat.beq s q <;> simp [ih]
def St.setS (st : St) (d : Nat) (x : DV) : St := ⟨put d (st.ct + 1, x) (F2j d (st.ct + 1) st.sl), st.lc, st.nx, st.ct + 1, st.nm, st.fr⟩
def St.setL (st : St) (k : Nat) (x : LC) : St := ⟨st.sl, put k (st.ct + 1, x) st.lc, st.nx, st.ct + 1, st.nm, st.fr⟩
def St.newL (st : St) (x : LC) : St := ⟨st.sl, put st.nx (st.ct + 1, x) st.lc, st.nx + 1, st.ct + 1, st.nm, st.fr⟩
theorem St.eS_setS (st : St) (d s : Nat) (x : DV) : (st.setS d x).eS s = if s = d then (st.ct + 1, x) else bif D2v d (st.S s) then (st.ct + 1, .dead) else st.eS s := by
  unfold St.eS St.setS
  simp only
  rw [B8g, D3x]; rfl
theorem St.S_setS (st : St) (d s : Nat) (x : DV) : (st.setS d x).S s = if s = d then x else bif D2v d (st.S s) then .dead else st.S s := by
  show ((st.setS d x).eS s).2 = _
  rw [St.eS_setS]
  split
  . rfl
  . cases D2v d (st.S s) <;> rfl
theorem St.eL_setL (st : St) (k q : Nat) (x : LC) : (st.setL k x).eL q = if q = k then (st.ct + 1, x) else st.eL q := B8g ..
theorem St.L_setL (st : St) (k q : Nat) (x : LC) : (st.setL k x).L q = if q = k then x else st.L q := by
  show ((st.setL k x).eL q).2 = _
  rw [St.eL_setL]; split <;> rfl
theorem St.eL_newL (st : St) (q : Nat) (x : LC) : (st.newL x).eL q = if q = st.nx then (st.ct + 1, x) else st.eL q := B8g ..
theorem St.L_newL (st : St) (q : Nat) (x : LC) : (st.newL x).L q = if q = st.nx then x else st.L q := by
  show ((st.newL x).eL q).2 = _
  rw [St.eL_newL]; split <;> rfl
def R7 (n : Nat) : List (Nat × Nat × DV) -> List (Nat × Nat × DV) -> Prop
  | [], [] => True
  | (s, e) :: l, (s', e') :: l' => s' = s /\ (e'.1 <= n -> e' = e) /\ R7 n l l'
  | _, _ => False
def A2y (n : Nat) : List (List (Nat × Nat × DV)) -> List (List (Nat × Nat × DV)) -> Prop
  | [], [] => True
  | f :: l, f' :: l' => R7 n f f' /\ A2y n l l'
  | _, _ => False
theorem R7.refl (n : Nat) : ∀ l, R7 n l l
  | [] => trivial
  | (_, _) :: l => ⟨rfl, fun _ => rfl, R7.refl n l⟩
theorem A2y.refl (n : Nat) : ∀ l, A2y n l l
  | [] => trivial
  | f :: l => ⟨R7.refl n f, A2y.refl n l⟩
theorem R7.trans {n m : Nat} (hm : n <= m) : ∀ {a b c}, R7 n a b -> R7 m b c -> R7 n a c
  | [], [], [], _, _ => trivial
  | (_, _) :: _, (_, _) :: _, (_, _) :: _, ⟨e1, h1, r1⟩, ⟨e2, h2, r2⟩ => ⟨e2.trans e1, fun hh => by
      have := h2 (Nat.le_trans hh hm)
      rw [this] at hh ⊢
      exact h1 hh, R7.trans hm r1 r2⟩
  | [], [], _ :: _, _, h => h.elim
  | [], _ :: _, _, h, _ => h.elim
  | _ :: _, [], _, h, _ => h.elim
  | (_, _) :: _, (_, _) :: _, [], _, h => h.elim
theorem A2y.trans {n m : Nat} (hm : n <= m) : ∀ {a b c}, A2y n a b -> A2y m b c -> A2y n a c
  | [], [], [], _, _ => trivial
  | _ :: _, _ :: _, _ :: _, h, k => ⟨h.1.trans hm k.1, A2y.trans hm h.2 k.2⟩
  | [], [], _ :: _, _, h => h.elim
  | [], _ :: _, _, h, _ => h.elim
  | _ :: _, [], _, h, _ => h.elim
  | _ :: _, _ :: _, [], _, h => h.elim
theorem R7.le {n m : Nat} (hm : n <= m) {a b} (h : R7 m a b) : R7 n a b := (R7.refl n a).trans hm h
theorem A2y.le {n m : Nat} (hm : n <= m) {a b} (h : A2y m a b) : A2y n a b := (A2y.refl n a).trans hm h
theorem R7.find {n : Nat} {d : Nat × DV} (s : Nat) : ∀ {a b}, R7 n a b -> (Vc.find d s b).1 <= n -> Vc.find d s b = Vc.find d s a
  | [], [], _, _ => rfl
  | (t, e) :: a, (t', e') :: b, ⟨e1, h1, r1⟩, h => by
    subst e1
    simp only [Vc.find] at h ⊢
    cases hb : Nat.beq t' s with
    | true => rw [hb] at h; exact h1 h
    | false => rw [hb] at h; exact R7.find s r1 h
  | [], _ :: _, h, _ => h.elim
  | _ :: _, [], h, _ => h.elim
def G2r (n : Nat) (fr : List (List (Nat × Nat × DV))) : Bool := fr.all fun f => f.all fun e => Nat.ble e.2.1 n
theorem R7.old {n : Nat} : ∀ {a b}, R7 n a b -> (b.all fun e => Nat.ble e.2.1 n) = true -> b = a
  | [], [], _, _ => rfl
  | (t, e) :: a, (t', e') :: b, ⟨e1, h1, r1⟩, h => by
    simp only [List.all_cons, Bool.and_eq_true] at h
    rw [e1, h1 (Nat.le_of_ble_eq_true h.1), R7.old r1 h.2]
  | [], _ :: _, h, _ => h.elim
  | _ :: _, [], h, _ => h.elim
theorem A2y.old {n : Nat} : ∀ {a b}, A2y n a b -> G2r n b = true -> b = a
  | [], [], _, _ => rfl
  | f :: a, f' :: b, ⟨h1, r1⟩, h => by
    simp only [G2r, List.all_cons, Bool.and_eq_true] at h
    rw [h1.old h.1, A2y.old r1 h.2]
  | [], _ :: _, h, _ => h.elim
  | _ :: _, [], h, _ => h.elim
structure Evo (st st' : St) : Prop where
  ct : st.ct <= st'.ct
  s : ∀ s, (st'.eS s).1 ≠ 0 -> (st'.eS s).1 <= st.ct -> st'.eS s = st.eS s
  l : ∀ k, (st'.eL k).1 ≠ 0 -> (st'.eL k).1 <= st.ct -> st'.eL k = st.eL k
  f : A2y st.ct st.fr st'.fr
theorem Evo.refl (st : St) : Evo st st := ⟨Nat.le_refl _, fun _ _ _ => rfl, fun _ _ _ => rfl, A2y.refl _ _⟩
def A7z (a : Bool) (t : Ty) (w : World) (Z : Nat -> Prop) (v : Value) (x : t.den) : Prop := A5z (Rep t w Z) a v x
def F2k (w : World) (Z : Nat -> Prop) : (as : List (Bool × Ty)) -> List Value -> A1h as -> Prop
  | [], vs, _ => vs = []
  | (a, t) :: r, vs, x => ∃ v vs', vs = v :: vs' /\ A7z a t w Z v x.1 /\ F2k w Z r vs' x.2
def F7e (P : Program) (w : World) (Z : Nat -> Prop) (v : Value) (as : List (Bool × Ty)) (ra : Bool) (r : Ty) (ok : A1h as -> Prop) (φ : A1h as -> r.den) : Prop :=
  ∃ g, ∃ caps : List Value, v = .func (.func g) #[] caps.toArray /\ A5s P g = true /\ ∀ (w' : World) (Z' : Nat -> Prop) (vs : List Value) (x : A1h as), W7 Z w w' -> (∀ b, Z b -> b < w'.heap.size) -> (∀ b, Z' b -> b < w'.heap.size) -> F2k w' Z' as vs x -> ok x ->
    Gw.Ret P g (vs ++ caps) w' fun u w'' => Ext w' w'' /\ ∃ Zn : Nat -> Prop, (∀ b, Zn b -> (w'.heap.size <= b /\ b < w''.heap.size) \/ Z b \/ Z' b) /\ A7z ra r w'' Zn u (φ x)
def RC (w : World) (Z : Nat -> Prop) (B : Nat -> Value) : C -> Value -> Prop
  | .val t x, v => Rep t w Z [v] x
  | .row k, v => v = B k
  | .box k off, v => ∃ b, B k = .pointer (some ⟨b, 0, none⟩) /\ v = .pointer (some ⟨b, off, none⟩)
  | .elp k sz i off, v => ∃ b n cap, B k = .slice (some ⟨b, 0, none⟩) n cap /\ i < n /\ v = .pointer (some ⟨b, i * sz + off, none⟩)
  | .win k sz lo hi, v => ∃ a n cap, B k = .slice a n cap /\ (∀ x, a = some x -> ∃ g, x = ⟨g, 0, none⟩) /\ (a = none -> cap = 0) /\ 0 <= lo /\ lo <= hi /\ hi <= (n : Int) /\ n <= cap /\ cap <= maxLen /\ v = .slice (if cap = lo.toNat then a else a.map (·.add (lo.toNat * sz))) (hi.toNat - lo.toNat) (cap - lo.toNat)
  | .pf t x off, v => ∃ b o ec, v = .pointer (some ⟨b, o + off, none⟩) /\ Z b /\ M6 w ⟨b, o, none⟩ ec /\ Rep t w Z ec x
  | .mp k, v => v = B k
  | .fn f caps, v => v = .func (.func f) #[] (caps.map B).toArray
  | .fv P as ra r ok φ, v => F7e P w Z v as ra r ok φ
  | .raw v0, v => v = v0 /\ v0.oneCell' = true
  | .dead, _ => True
def RCs (w : World) (Z : Nat -> Prop) (B : Nat -> Value) : List C -> List Value -> Prop
  | [], vs => vs = []
  | c :: cs, vs => ∃ v vs', vs = v :: vs' /\ RC w Z B c v /\ RCs w Z B cs vs'
def RS (w : World) (Z : Nat -> Prop) (B : Nat -> Value) : SV -> Value -> Prop
  | ⟨true, cs⟩, v => ∃ vs : List Value, v = .agg vs.toArray /\ RCs w Z B cs vs
  | ⟨false, cs⟩, v => RCs w Z B cs [v]
def RSs (w : World) (Z : Nat -> Prop) (B : Nat -> Value) : List SV -> List Value -> Prop
  | [], vs => vs = []
  | c :: cs, vs => ∃ v vs', vs = v :: vs' /\ RS w Z B c v /\ RSs w Z B cs vs'
def RD (w : World) (Z : Nat -> Prop) (B : Nat -> Value) (E : Env) : DV -> Value -> Prop
  | .one s, v => RS w Z B s v
  | .tup ss, v => ∃ vs : List Value, v = .tuple vs.toArray /\ RSs w Z B ss vs
  | .cnd t b s, v => (E t = .bool b /\ RS w Z B s v) \/ (E t ≠ .bool b /\ v = undef)
  | .dead, _ => True
def D5f (w : World) (Z : Nat -> Prop) (ka : Bool) (kt : Ty) (va : Bool) (vt : Ty) (es : List MapEntry) (l : List (kt.den × vt.den)) : Prop := X4 (A5z (Rep kt w Z) ka) (A5z (Rep vt w Z) va) es l
def root : Value -> Option Nat
  | .pointer (some a) => some a.block
  | .slice (some a) _ _ => some a.block
  | .map r => r
  | _ => none
def A9m : Option Nat -> Nat -> Bool
  | none, _ => false
  | some j, i => Nat.beq j i
def D8 (w : World) (v : Value) : LC -> Nat -> Prop
  | .none, _ => False
  | .box _ _, b => root v = some b
  | .row _ _ _, b => root v = some b
  | .map _ _ _ _ _, b => root v = some b
  | .iter _ _ _ _ _ _, b => root v = some b
  | .mapE _ _ _ _ _ _ _, b => root v = some b
  | .al _, _ => False
  | .sbox _ _ _, _ => False
  | .rows _ _ _ _ _ ho, b => root v = some b \/ ∃ g n cap cur e i x, v = .slice (some ⟨g, 0, none⟩) n cap /\ w.heap[g]? = some (.cells cur e (0, 0)) /\ i < n /\ A9m ho i = false /\ cur[i]? = some x /\ root x = some b
def Inn (w : World) (Z : Nat -> Prop) (B : Nat -> Value) (t : Ty) (e' : TypeId) (ls : List (List t.den)) (al : List (Nat × Nat)) (ho : Option Nat) (xs : List Value) : Prop :=
  (∀ p ∈ al, xs[p.1]? = some (B p.2)) /\ (∀ i l x, A9m ho i = false -> ls[i]? = some l -> xs[i]? = some x -> ∃ ys, w.ownsRow 0 e' t.size x l.length ys /\ Q3 (Rep t w Z) ys l) /\
    ∀ i j x y b, i ≠ j -> A9m ho i = false -> A9m ho j = false -> xs[i]? = some x -> xs[j]? = some y -> root x = some b -> root y ≠ some b
def ItR (w : World) (Z : Nat -> Prop) (ka : Bool) (kt : Ty) (va : Bool) (vt : Ty) (r : Nat) (left : List (kt.den × vt.den)) (cur : Option (kt.den × vt.den)) : Prop :=
  (w.heap[r]? = some (.mapIter none 0 #[] 0) /\ left = [] /\ cur = none) \/
  ∃ (m : Nat) (seen : Array Nat) (ents : Array MapEntry) (clock : Nat), w.heap[r]? = some (.mapIter (some m) clock seen clock) /\ Z m /\ w.heap[m]? = some (.map ents clock) /\ MOk ents clock /\ D5f w Z ka kt va vt (leftOf ents seen).toList left /\
    ∀ x, cur = some x -> ∃ e ∈ ents.toList, (∃ seen' : Array Nat, seen = seen'.push e.born) /\ A5z (Rep kt w Z) ka e.key x.1 /\ A5z (Rep vt w Z) va e.val x.2
def RL (U : Nat -> Prop) (w : World) (Z : Nat -> Prop) (B : Nat -> Value) (k : Nat) : LC -> Prop
  | .none => True
  | .box ty cs => ∃ b vs, B k = .pointer (some ⟨b, 0, none⟩) /\ U b /\ ¬ Z b /\ Blk w b vs ty /\ RCs w Z B cs vs.toList
  | .row t e l => ∃ xs, w.ownsRow 0 e t.size (B k) l.length xs /\ Q3 (Rep t w Z) xs l /\ ∀ b, (B k).ownBlock = some b -> U b /\ ¬ Z b
  | .map ka kt va vt es => ∃ b ents clock, B k = .map (some b) /\ U b /\ ¬ Z b /\ w.heap[b]? = some (.map ents clock) /\ MOk ents clock /\ D5f w Z ka kt va vt ents.toList es
  | .al _ => True
  | .sbox q t x => q = k /\ Rep (.ptr t) w Z [B q] x /\ ∃ b, B q = .pointer (some ⟨b, 0, none⟩)
  | .mapE ka kt va vt es j q => ∃ b ents clock, B k = .map (some b) /\ U b /\ ¬ Z b /\ w.heap[b]? = some (.map ents clock) /\ (MOk ents clock /\ D5f w Z ka kt va vt ents.toList es) /\ ∃ e : MapEntry, ents.toList[j]? = some e /\ B q = .int .i64 e.born
  | .iter ka kt va vt left cur => ∃ r, B k = .pointer (some ⟨r, 0, none⟩) /\ U r /\ ¬ Z r /\ ItR w Z ka kt va vt r left cur
  | .rows t e e' ls al ho => ∃ xs, w.ownsRow 0 e 1 (B k) ls.length xs /\ Inn w Z B t e' ls al ho xs /\ (∀ i x b, A9m ho i = false -> xs[i]? = some x -> root x = some b -> root (B k) ≠ some b) /\ ∀ b, D8 w (B k) (.rows t e e' ls al ho) b -> U b /\ ¬ Z b /\ b < w.heap.size
def live : LC -> Prop
  | .none => False
  | .al _ => False
  | .sbox _ _ _ => False
  | _ => True
def B0s (n : Nat) : C -> Prop
  | .row k => k < n
  | .box k _ => k < n
  | .elp k _ _ _ => k < n
  | .win k _ _ _ => k < n
  | .mp k => k < n
  | .fn _ caps => ∀ k ∈ caps, k < n
  | _ => True
def C8z (n : Nat) (s : SV) : Prop := ∀ c ∈ s.cs, B0s n c
def E5f (n : Nat) : DV -> Prop
  | .one s => C8z n s
  | .tup ss => ∀ s ∈ ss, C8z n s
  | .cnd _ _ s => C8z n s
  | .dead => True
def E2v (n : Nat) : LC -> Prop
  | .box _ cs => ∀ c ∈ cs, B0s n c
  | .rows _ _ _ _ al _ => ∀ p ∈ al, p.2 < n
  | .mapE _ _ _ _ _ _ q => q < n
  | .sbox q _ _ => q < n
  | _ => True
structure Zn where
  z : Nat -> Prop
  m : Nat -> Prop
  n : Nat
  v : Nat -> Value
  k0 : Nat := 0
  b0 : Nat := 0
  f : Nat -> Nat -> Prop
  fm : ∀ k b, f k b -> m b
  es : List Env := []
def RF (w : World) (Z : Nat -> Prop) (B : Nat -> Value) : List Env -> List (List (Nat × Nat × DV)) -> Prop
  | [], [] => True
  | E :: es, f :: fs => (∀ s, RD w Z B E (find (0, .dead) s f).2 (E s)) /\ RF w Z B es fs
  | _, _ => False
def F5y (n : Nat) (fr : List (List (Nat × Nat × DV))) : Prop := ∀ f ∈ fr, ∀ s, E5f n (find (0, .dead) s f).2
structure C1g (m : Nat -> Prop) (w w' : World) : Prop where
  os : w'.os = w.os
  tape : w'.tape = w.tape
  output : w'.output = w.output
  size : w.heap.size <= w'.heap.size
  block : ∀ k, k < w.heap.size -> ¬ m k -> w'.heap[k]? = w.heap[k]?
  drw : True
theorem C1g.of {m : Nat -> Prop} {w w' : World} (h : Ext w w') : C1g m w w' := ⟨h.os, h.tape, h.output, h.size, fun k hk _ => h.block k hk, h.drw⟩
theorem C1g.ext {m : Nat -> Prop} {w w' : World} (h : C1g m w w') (hm : ∀ b, ¬ m b) : Ext w w' := ⟨⟨h.os, h.tape, h.output, h.size, fun k hk => h.block k hk (hm k)⟩, h.drw⟩
theorem C1g.trans {m : Nat -> Prop} {a b c : World} (h : C1g m a b) (k : Ext b c) : C1g m a c := ⟨k.os.trans h.os, k.tape.trans h.tape, k.output.trans h.output, Nat.le_trans h.size k.size, fun i hi hm => (k.block i (Nat.lt_of_lt_of_le hi h.size)).trans (h.block i hi hm), trivial⟩
theorem C1g.chg {m : Nat -> Prop} {w0 w w' : World} {b : Nat} (h : C1g m w0 w) (hc : Chg b w w') (hb : w0.heap.size <= b \/ m b) : C1g m w0 w' :=
  ⟨hc.1.trans h.os, hc.2.1.trans h.tape, hc.2.2.1.1.trans h.output, by rw [hc.2.2.2.1]; exact h.size, fun k hk hm => (hc.2.2.2.2 k (fun e => by subst e; rcases hb with hb | hb; exact absurd hk (by omega); exact hm hb)).trans (h.block k hk hm), trivial⟩
theorem C1g.grown {m : Nat -> Prop} {w0 w w' : World} {row : Option Nat} (h : C1g m w0 w) (hg : w.grownBy w' row) (hd : w.drawn <= w'.drawn) (hb : ∀ b, row = some b -> w0.heap.size <= b \/ m b) : C1g m w0 w' :=
  ⟨hg.os.trans h.os, hg.tape.trans h.tape, hg.output.trans h.output, Nat.le_trans h.size hg.size, fun k hk hm => (hg.block k (Nat.lt_of_lt_of_le hk h.size) (fun e => by rcases hb k e.symm with hb | hb; exact absurd hk (by omega); exact hm hb)).trans (h.block k hk hm), trivial⟩
def up (za : Zn) (w0 : World) (k : Nat) : Nat -> Prop := fun b => (za.n <= k /\ w0.heap.size <= b) \/ (k < za.n /\ za.f k b)
theorem up.m {za : Zn} {w0 : World} {k b : Nat} (h : up za w0 k b) : w0.heap.size <= b \/ za.m b := h.imp And.right fun h => za.fm k b h.2
structure Rel (za : Zn) (w0 : World) (st : St) (E : Env) (w : World) (Z : Nat -> Prop) (B : Nat -> Value) : Prop where
  ext : C1g za.m w0 w
  zlt : ∀ b, Z b -> b < w.heap.size
  slots : ∀ s, RD w Z B E (st.S s) (E s)
  locs : ∀ k, RL (up za w0 k) w Z B k (st.L k)
  disj : ∀ k k' b, k ≠ k' -> D8 w (B k) (st.L k) b -> ¬ D8 w (B k') (st.L k') b
  refs : ∀ s, E5f st.nx (st.S s)
  refl : ∀ k, E2v st.nx (st.L k)
  fresh : ∀ k, st.nx <= k -> st.L k = .none
  bone : ∀ k, (B k).oneCell' = true
  zin : ∀ b, Z b -> za.z b \/ w0.heap.size <= b
  nms : st.nm = za.n /\ za.n <= st.nx
  bfix : ∀ k, k < za.n -> B k = za.v k
  mrk : za.b0 <= w.heap.size /\ ∀ k b, za.k0 <= k -> D8 w (B k) (st.L k) b -> za.b0 <= b
  frs : RF w Z B za.es st.fr
  frf : F5y st.nx st.fr
section mono
variable {w w' : World} {Z Z' : Nat -> Prop} {B B' : Nat -> Value} {n : Nat}
theorem RC.mono (hz : ∀ b, Z b -> Z' b) (hs : W7 Z w w') (hB : ∀ k, k < n -> B' k = B k) : ∀ {c : C} {v : Value}, B0s n c -> RC w Z B c v -> RC w' Z' B' c v
  | .val _ _, _, _, h => Rep.mono hz hs h
  | .row k, _, hr, h => h.trans (hB k hr).symm
  | .box k off, _, hr, ⟨b, e, h⟩ => ⟨b, (hB k hr).trans e, h⟩
  | .elp k sz i off, _, hr, ⟨b, m, cap, e, h⟩ => ⟨b, m, cap, (hB k hr).trans e, h⟩
  | .win k sz lo hi, _, hr, ⟨a, m, cap, e, h⟩ => ⟨a, m, cap, (hB k hr).trans e, h⟩
  | .pf t x off, _, _, ⟨b, o, ec, e, hb, hc, h⟩ => ⟨b, o, ec, e, hz b hb, B5l hc hb hs, Rep.mono hz hs h⟩
  | .mp k, _, hr, h => h.trans (hB k hr).symm
  | .fn f caps, _, hr, h => by
    show _ = _
    rw [show _ = _ from h]
    congr 2
    exact List.map_congr_left fun k hk => (hB k (hr k hk)).symm
  | .fv P as ra r ok φ, _, _, ⟨g, caps, e, he, h⟩ => ⟨g, caps, e, he, fun w2 Z2 vs x h1 h2 h3 h4 h5 => (h w2 Z2 vs x (fun b hb => (h1 b (hz b hb)).trans (hs b hb)) (fun b hb => h2 b (hz b hb)) h3 h4 h5).mono fun u w3 ⟨g1, Zn, g2, g3⟩ => ⟨g1, Zn, fun b hb => (g2 b hb).imp id (Or.imp (hz b) id), g3⟩⟩
  | .raw _, _, _, h => h
  | .dead, _, _, _ => trivial
theorem RCs.mono (hz : ∀ b, Z b -> Z' b) (hs : W7 Z w w') (hB : ∀ k, k < n -> B' k = B k) : ∀ {cs : List C} {vs : List Value}, (∀ c ∈ cs, B0s n c) -> RCs w Z B cs vs -> RCs w' Z' B' cs vs
  | [], _, _, h => h
  | c :: cs, _, hr, ⟨v, vs', e, h1, h2⟩ => ⟨v, vs', e, RC.mono hz hs hB (hr c (by simp)) h1, RCs.mono hz hs hB (fun c hc => hr c (by simp [hc])) h2⟩
theorem RS.mono (hz : ∀ b, Z b -> Z' b) (hs : W7 Z w w') (hB : ∀ k, k < n -> B' k = B k) : ∀ {s : SV} {v : Value}, C8z n s -> RS w Z B s v -> RS w' Z' B' s v
  | ⟨true, cs⟩, _, hr, ⟨vs, e, h⟩ => ⟨vs, e, RCs.mono hz hs hB hr h⟩
  | ⟨false, cs⟩, _, hr, h => RCs.mono (cs := cs) hz hs hB hr h
theorem RSs.mono (hz : ∀ b, Z b -> Z' b) (hs : W7 Z w w') (hB : ∀ k, k < n -> B' k = B k) : ∀ {cs : List SV} {vs : List Value}, (∀ c ∈ cs, C8z n c) -> RSs w Z B cs vs -> RSs w' Z' B' cs vs
  | [], _, _, h => h
  | c :: cs, _, hr, ⟨v, vs', e, h1, h2⟩ => ⟨v, vs', e, RS.mono hz hs hB (hr c (by simp)) h1, RSs.mono hz hs hB (fun c hc => hr c (by simp [hc])) h2⟩
theorem RD.mono {E : Env} (hz : ∀ b, Z b -> Z' b) (hs : W7 Z w w') (hB : ∀ k, k < n -> B' k = B k) : ∀ {d : DV} {v : Value}, E5f n d -> RD w Z B E d v -> RD w' Z' B' E d v
  | .one _, _, hr, h => RS.mono hz hs hB hr h
  | .tup _, _, hr, ⟨vs, e, h⟩ => ⟨vs, e, RSs.mono hz hs hB hr h⟩
  | .cnd _ _ _, _, hr, h => h.imp (fun ⟨a, b⟩ => ⟨a, RS.mono hz hs hB hr b⟩) id
  | .dead, _, _, _ => trivial
theorem RF.mono (hz : ∀ b, Z b -> Z' b) (hs : W7 Z w w') (hB : ∀ k, k < n -> B' k = B k) : ∀ {es : List Env} {fr : List (List (Nat × Nat × DV))}, F5y n fr -> RF w Z B es fr -> RF w' Z' B' es fr
  | [], [], _, _ => trivial
  | E :: es, f :: fs, hr, ⟨h1, h2⟩ => ⟨fun s => RD.mono hz hs hB (hr f (by simp) s) (h1 s), RF.mono hz hs hB (fun g hg => hr g (by simp [hg])) h2⟩
  | [], _ :: _, _, h => h.elim
  | _ :: _, [], _, h => h.elim
theorem A7z.mono {a : Bool} {t : Ty} {v : Value} {x : t.den} (hz : ∀ b, Z b -> Z' b) (hs : W7 Z w w') (h : A7z a t w Z v x) : A7z a t w' Z' v x := A5z.mono (fun _ _ => Rep.mono hz hs) h
theorem F2k.mono (hz : ∀ b, Z b -> Z' b) (hs : W7 Z w w') : ∀ {as : List (Bool × Ty)} {vs : List Value} {x : A1h as}, F2k w Z as vs x -> F2k w' Z' as vs x
  | [], _, _, h => h
  | _ :: _, _, _, ⟨v, vs', e, h1, h2⟩ => ⟨v, vs', e, h1.mono hz hs, F2k.mono hz hs h2⟩
theorem D5f.mono {ka va : Bool} {kt vt : Ty} (hz : ∀ b, Z b -> Z' b) (hs : W7 Z w w') {l : List (kt.den × vt.den)} {es : List MapEntry} (h : D5f w Z ka kt va vt es l) : D5f w' Z' ka kt va vt es l :=
  X4.mono (fun _ _ h => h.mono fun _ _ => Rep.mono hz hs) (fun _ _ h => h.mono fun _ _ => Rep.mono hz hs) h
theorem D8.live {v : Value} {l : LC} {b : Nat} (h : D8 w v l b) : Vc.live l := by cases l <;> first | exact h.elim | trivial
theorem D8.of {v : Value} {l : LC} {b : Nat} (hl : Vc.live l) (h : Vc.root v = some b) : D8 w v l b := by
  cases l <;> first | exact hl.elim | exact h | exact .inl h
theorem D8.iff {v : Value} {l : LC} {b : Nat} (h : ∀ b, D8 w v l b -> w'.heap[b]? = w.heap[b]?) : D8 w' v l b ↔ D8 w v l b := by
  cases l with
  | rows t e e' ls al ho =>
    refine or_congr Iff.rfl ⟨fun ⟨g, n, cap, cur, e, i, x, hv, hg, r⟩ => ⟨g, n, cap, cur, e, i, x, hv, ?_, r⟩, fun ⟨g, n, cap, cur, e, i, x, hv, hg, r⟩ => ⟨g, n, cap, cur, e, i, x, hv, ?_, r⟩⟩
    . rw [<- h g (.inl (by rw [hv]; rfl))]; exact hg
    . rw [h g (.inl (by rw [hv]; rfl))]; exact hg
  | _ => exact Iff.rfl
theorem RL.root {U : Nat -> Prop} {k : Nat} {l : LC} (h : RL U w Z B k l) {b : Nat} (hb : D8 w (B k) l b) : U b /\ b < w.heap.size /\ ¬ Z b := by
  cases l with
  | none => exact hb.elim
  | al _ => exact hb.elim
  | sbox _ _ _ => exact hb.elim
  | mapE ka kt va vt es j q =>
    obtain ⟨b', ents, cl, e, h1, h2, h3, _⟩ := h
    have hb : Vc.root (B k) = some b := hb
    rw [e] at hb; simp [Vc.root] at hb; subst hb
    exact ⟨h1, (Array.getElem?_eq_some_iff.1 h3).1, h2⟩
  | iter ka kt va vt left cur =>
    obtain ⟨r, e, h1, h2, h3⟩ := h
    have hb : Vc.root (B k) = some b := hb
    rw [e] at hb; simp [Vc.root] at hb; subst hb
    refine ⟨h1, ?_, h2⟩
    rcases h3 with ⟨h3, _⟩ | ⟨_, _, _, _, h3, _⟩ <;> exact (Array.getElem?_eq_some_iff.1 h3).1
  | box ty cs =>
    obtain ⟨b', vs, e, h1, h2, h3, _⟩ := h
    have hb : Vc.root (B k) = some b := hb
    rw [e] at hb; simp [Vc.root] at hb; subst hb
    exact ⟨h1, h3.lt, h2⟩
  | row t e l =>
    obtain ⟨xs, h1, h2, h3⟩ := h
    have hb : Vc.root (B k) = some b := hb
    have hob : (B k).ownBlock = some b := by
      rcases h1.2 with ⟨hv, _⟩ | ⟨g, cap, cur, hv, _⟩
      . rw [hv] at hb; simp [Vc.root] at hb
      . rw [hv] at hb ⊢; simpa [Vc.root, Value.ownBlock] using hb
    have := World.ownsRow.lt h1 b hob
    exact ⟨(h3 b hob).1, this.2, (h3 b hob).2⟩
  | map ka kt va vt es =>
    obtain ⟨b', ents, cl, e, h1, h2, h3, _⟩ := h
    have hb : Vc.root (B k) = some b := hb
    rw [e] at hb; simp [Vc.root] at hb; subst hb
    exact ⟨h1, (Array.getElem?_eq_some_iff.1 h3).1, h2⟩
  | rows t e e' ls al ho =>
    obtain ⟨xs, _, _, _, h4⟩ := h
    exact ⟨(h4 b hb).1, (h4 b hb).2.2, (h4 b hb).2.1⟩
theorem H0 {base e sz m : Nat} {v : Value} {xs : List Value} (h : w.ownsRow base e sz v m xs) : root v = v.ownBlock := by
  rcases h.2 with ⟨hv, _⟩ | ⟨g, cap, cur, hv, _⟩ <;> rw [hv] <;> rfl
theorem A8t {base e sz m : Nat} {v : Value} {xs : List Value} (h : w.ownsRow base e sz v m xs) (hb : ∀ b, v.ownBlock = some b -> w'.heap[b]? = w.heap[b]?) : w'.ownsRow base e sz v m xs := by
  refine ⟨h.1, ?_⟩
  rcases h.2 with h | ⟨g, cap, cur, hv, h1, h2, h3⟩
  . exact .inl h
  . exact .inr ⟨g, cap, cur, hv, h1, by rw [hb g (by rw [hv]; rfl)]; exact h2, h3⟩
theorem RL.mono {U : Nat -> Prop} {k : Nat} {l : LC} (hz : ∀ b, Z b -> Z' b) (hs : W7 Z w w') (hB : ∀ k, k < n -> B' k = B k) (hk : live l -> B' k = B k) (hblk : ∀ b, D8 w (B k) l b -> w'.heap[b]? = w.heap[b]?) (hnz : ∀ b, D8 w (B k) l b -> ¬ Z' b) (hr : E2v n l) (h : RL U w Z B k l) : RL U w' Z' B' k l := by
  cases l with
  | none => trivial
  | al _ => trivial
  | sbox q t x =>
    obtain ⟨h0, h1, b, h2⟩ := h
    have hq : B' q = B q := hB q hr
    refine ⟨h0, ?_, b, hq.trans h2⟩
    rw [hq]
    exact Rep.mono hz hs h1
  | mapE ka kt va vt es j q =>
    obtain ⟨b, ents, cl, e, h1, h2, h3, ⟨hm, h4⟩, en, h5, h6⟩ := h
    have hb : Vc.root (B k) = some b := by rw [e]; rfl
    exact ⟨b, ents, cl, (hk trivial).trans e, h1, hnz b hb, by rw [hblk b hb]; exact h3, ⟨hm, h4.mono hz hs⟩, en, h5, (hB q hr).trans h6⟩
  | iter ka kt va vt left cur =>
    obtain ⟨r, e, h1, h2, h3⟩ := h
    have hb : Vc.root (B k) = some r := by rw [e]; rfl
    refine ⟨r, (hk trivial).trans e, h1, hnz r hb, ?_⟩
    have hrb := hblk r hb
    rcases h3 with ⟨h3, h4⟩ | ⟨m, seen, ents, cl, h3, h4, h5, h6, h7, h8⟩
    . exact .inl ⟨hrb.trans h3, h4⟩
    . exact .inr ⟨m, seen, ents, cl, hrb.trans h3, hz m h4, (hs m h4).trans h5, h6, h7.mono hz hs, fun x hx => (h8 x hx).imp fun e he => ⟨he.1, he.2.1, he.2.2.1.mono fun _ _ => Rep.mono hz hs, he.2.2.2.mono fun _ _ => Rep.mono hz hs⟩⟩
  | box ty cs =>
    obtain ⟨b, vs, e, h1, h2, h3, h4⟩ := h
    have hb : Vc.root (B k) = some b := by rw [e]; rfl
    refine ⟨b, vs, (hk trivial).trans e, h1, hnz b hb, ?_, RCs.mono hz hs hB hr h4⟩
    unfold Blk; rw [hblk b hb]; exact h3
  | row t e l =>
    obtain ⟨xs, h1, h2, h3⟩ := h
    have hro := H0 h1
    refine ⟨xs, ?_, h2.mono fun _ _ => Rep.mono hz hs, fun b hb => ?_⟩
    . rw [hk trivial]; exact A8t h1 fun b hb => hblk b (hro.trans hb)
    . rw [hk trivial] at hb; exact ⟨(h3 b hb).1, hnz b (hro.trans hb)⟩
  | map ka kt va vt es =>
    obtain ⟨b, ents, cl, e, h1, h2, h3, hm, h4⟩ := h
    have hb : Vc.root (B k) = some b := by rw [e]; rfl
    exact ⟨b, ents, cl, (hk trivial).trans e, h1, hnz b hb, by rw [hblk b hb]; exact h3, hm, h4.mono hz hs⟩
  | rows t e e' ls al ho =>
    have hft := fun b => D8.iff (b := b) hblk
    obtain ⟨xs, h1, ⟨h2, h3, h4⟩, h5, h6⟩ := h
    have hro := H0 h1
    have hin : ∀ i x b, A9m ho i = false -> xs[i]? = some x -> Vc.root x = some b -> D8 w (B k) (.rows t e e' ls al ho) b := fun i x b hi hx hb => by
      refine .inr ?_
      rcases h1.2 with ⟨hv, hn⟩ | ⟨g, cap, cur, hv, _, hg, hle, _, hsz, htk⟩
      . have := h1.1; rw [hn] at this
        have hxs : xs = [] := List.eq_nil_of_length_eq_zero (by omega)
        rw [hxs] at hx; cases hx
      . have hil : i < ls.length := by have := (List.getElem?_eq_some_iff.1 hx).1; have h0 := h1.1; omega
        refine ⟨g, _, cap, cur, e, i, x, hv, hg, hil, hi, ?_, hb⟩
        rw [<- htk, List.getElem?_take_of_lt (by omega)] at hx
        simpa using hx
    rw [<- hk trivial] at h1 h5
    refine ⟨xs, A8t h1 fun b hb => hblk b (.inl (by rw [<- hk trivial]; exact (H0 h1).trans hb)), ⟨fun p hp => (h2 p hp).trans (by rw [hB _ (hr p hp)]), fun i l x hi hl hx => ?_, h4⟩, h5, fun b hb => ?_⟩
    . obtain ⟨ys, g1, g2⟩ := h3 i l x hi hl hx
      exact ⟨ys, A8t g1 fun b hb => hblk b (hin i x b hi hx ((H0 g1).trans hb)), g2.mono fun _ _ => Rep.mono hz hs⟩
    . rw [hk trivial] at hb
      have hb := (hft b).1 hb
      obtain ⟨g1, _, g3⟩ := h6 b hb
      refine ⟨g1, hnz b hb, ?_⟩
      have := hblk b hb
      rw [Array.getElem?_eq_getElem g3] at this
      exact (Array.getElem?_eq_some_iff.1 this).1
theorem B0s.le {m : Nat} (hm : n <= m) : ∀ {c : C}, B0s n c -> B0s m c
  | .val _ _, h => h
  | .row _, h => Nat.lt_of_lt_of_le h hm
  | .box _ _, h => Nat.lt_of_lt_of_le h hm
  | .elp _ _ _ _, h => Nat.lt_of_lt_of_le h hm
  | .win _ _ _ _, h => Nat.lt_of_lt_of_le h hm
  | .pf _ _ _, h => h
  | .mp _, h => Nat.lt_of_lt_of_le h hm
  | .fn _ _, h => fun k hk => Nat.lt_of_lt_of_le (h k hk) hm
  | .fv _ _ _ _ _ _, h => h
  | .raw _, h => h
  | .dead, h => h
theorem E5f.le {m : Nat} (hm : n <= m) : ∀ {d : DV}, E5f n d -> E5f m d
  | .one _, h => fun c hc => (h c hc).le hm
  | .tup _, h => fun s hs c hc => (h s hs c hc).le hm
  | .cnd _ _ _, h => fun c hc => (h c hc).le hm
  | .dead, h => h
theorem E2v.le {m : Nat} (hm : n <= m) : ∀ {d : LC}, E2v n d -> E2v m d
  | .none, h => h
  | .box _ _, h => fun c hc => (h c hc).le hm
  | .row _ _ _, h => h
  | .map _ _ _ _ _, h => h
  | .al _, h => h
  | .sbox _ _ _, h => Nat.lt_of_lt_of_le h hm
  | .iter _ _ _ _ _ _, h => h
  | .mapE _ _ _ _ _ _ _, h => Nat.lt_of_lt_of_le h hm
  | .rows _ _ _ _ _ _, h => fun p hp => Nat.lt_of_lt_of_le (h p hp) hm
theorem F5y.le {n m : Nat} {fr : List (List (Nat × Nat × DV))} (h : F5y n fr) (hm : n <= m) : F5y m fr := fun f hf s => (h f hf s).le hm
theorem RD.upd {E : Env} {d : Nat} {u : Value} : ∀ {x : DV} {v : Value}, D2v d x = false -> RD w Z B E x v -> RD w Z B (upd E d u) x v
  | .one _, _, _, h => h
  | .tup _, _, _, h => h
  | .cnd t b s, v, hc, h => by
    have ht : t ≠ d := Nat.ne_of_beq_eq_false hc
    show (Gw.upd E d u t = _ /\ _) \/ (Gw.upd E d u t ≠ _ /\ _)
    rw [D4 _ _ _ _ ht]; exact h
  | .dead, _, _, _ => trivial
end mono
section steps
variable {za : Zn} {w0 w w' : World} {Z Z' : Nat -> Prop} {B : Nat -> Value} {st : St} {E : Env}
theorem Rel.setS (h : Rel za w0 st E w Z B) (d : Nat) {x : DV} {v : Value} (hx : RD w Z B (upd E d v) x v) (hr : E5f st.nx x) : Rel za w0 (st.setS d x) (upd E d v) w Z B := by
  refine ⟨h.ext, h.zlt, fun s => ?_, h.locs, h.disj, fun s => ?_, h.refl, h.fresh, h.bone, h.zin, h.nms, h.bfix, h.mrk, h.frs, h.frf⟩
  . rw [St.S_setS]
    by_cases hs : s = d
    . subst hs; simp only [if_true, E3]; exact hx
    . rw [if_neg hs, D4 _ _ _ _ hs]
      cases hc : D2v d (st.S s) with
      | true => trivial
      | false => exact RD.upd hc (h.slots s)
  . rw [St.S_setS]
    by_cases hs : s = d
    . rw [if_pos hs]; exact hr
    . rw [if_neg hs]
      cases hc : D2v d (st.S s) with
      | true => trivial
      | false => exact h.refs s
theorem Rel.keep (h : Rel za w0 st E w Z B) (he : C1g za.m w0 w') (hsz : w.heap.size <= w'.heap.size) (hb : ∀ b, (Z b \/ ∃ k, D8 w (B k) (st.L k) b) -> w'.heap[b]? = w.heap[b]?)
    (hz : ∀ b, Z b -> Z' b) (hz' : ∀ b, Z' b -> Z b \/ (b < w'.heap.size /\ w0.heap.size <= b /\ ∀ k, ¬ D8 w (B k) (st.L k) b)) : Rel za w0 st E w' Z' B := by
  have hs : W7 Z w w' := fun b hzb => hb b (.inl hzb)
  have hft : ∀ k b, D8 w' (B k) (st.L k) b ↔ D8 w (B k) (st.L k) b := fun k b => D8.iff fun b hf => hb b (.inr ⟨k, hf⟩)
  refine ⟨he, fun b hzb => ?_, fun s => (h.slots s).mono hz hs (fun _ _ => rfl) (h.refs s), fun k => ?_, fun k k' b hne h1 h2 => h.disj k k' b hne ((hft k b).1 h1) ((hft k' b).1 h2), h.refs, h.refl, h.fresh, h.bone, fun b hzb => ?_, h.nms, h.bfix, ⟨Nat.le_trans h.mrk.1 hsz, fun k b hk hf => h.mrk.2 k b hk ((hft k b).1 hf)⟩, h.frs.mono hz hs (fun _ _ => rfl) h.frf, h.frf⟩
  . rcases hz' b hzb with h1 | h1
    . exact Nat.lt_of_lt_of_le (h.zlt b h1) hsz
    . exact h1.1
  . refine (h.locs k).mono hz hs (fun _ _ => rfl) (fun _ => rfl) (fun b hr => hb b (.inr ⟨k, hr⟩)) (fun b hr hzb => ?_) (h.refl k)
    rcases hz' b hzb with h1 | h1
    . exact ((h.locs k).root hr).2.2 h1
    . exact h1.2.2 k hr
  . rcases hz' b hzb with h1 | h1
    . exact h.zin b h1
    . exact .inr h1.2.1
theorem Rel.ft (h : Rel za w0 st E w Z B) (hx : Ext w w') {k b : Nat} (hf : D8 w' (B k) (st.L k) b) : D8 w (B k) (st.L k) b := (D8.iff fun c hc => hx.block c ((h.locs k).root hc).2.1).1 hf
theorem Rel.more (h : Rel za w0 st E w Z B) (hx : Ext w w') (hz : ∀ b, Z b -> Z' b) (hz' : ∀ b, Z' b -> Z b \/ (w.heap.size <= b /\ b < w'.heap.size)) : Rel za w0 st E w' Z' B := by
  refine h.keep (h.ext.trans hx) hx.size (fun b hb => hx.block b ?_) hz (fun b hb => ?_)
  . rcases hb with hb | ⟨k, hr⟩
    . exact h.zlt b hb
    . exact ((h.locs k).root hr).2.1
  . rcases hz' b hb with h1 | h1
    . exact .inl h1
    . exact .inr ⟨h1.2, Nat.le_trans h.ext.size h1.1, fun k hr => by have := ((h.locs k).root hr).2.1; omega⟩
theorem Rel.new (h : Rel za w0 st E w Z B) {v : Value} {lc : LC} (hl : RL (up za w0 st.nx) w Z (upd B st.nx v) st.nx lc) (hd : ∀ k b, D8 w v lc b -> ¬ D8 w (B k) (st.L k) b) (hr : E2v (st.nx + 1) lc) (hv1 : v.oneCell' = true) (hmk : ∀ b, za.k0 <= st.nx -> D8 w v lc b -> za.b0 <= b) :
    Rel za w0 (st.newL lc) E w Z (upd B st.nx v) := by
  have hB : ∀ k, k < st.nx -> (upd B st.nx v) k = B k := fun k hk => D4 _ _ _ _ (Nat.ne_of_lt hk)
  have hBn : (upd B st.nx v) st.nx = v := E3 _ _ _
  have hlv : ∀ k, live (st.L k) -> k < st.nx := fun k hk => by
    by_cases hlt : k < st.nx
    . exact hlt
    . rw [h.fresh k (by omega)] at hk; exact hk.elim
  have hs : W7 Z w w := fun _ _ => rfl
  refine ⟨h.ext, h.zlt, fun s => (h.slots s).mono (fun _ => id) hs hB (h.refs s), fun k => ?_, ?_, fun s => (h.refs s).le (Nat.le_succ _), fun k => ?_, fun k hk => ?_, fun k => ?_, h.zin, ⟨h.nms.1, Nat.le_succ_of_le h.nms.2⟩, fun k hk => (hB k (Nat.lt_of_lt_of_le hk h.nms.2)).trans (h.bfix k hk), ⟨h.mrk.1, fun k b hk hl => ?_⟩, h.frs.mono (fun _ => id) hs hB h.frf, h.frf.le (Nat.le_succ _)⟩
  . rw [St.L_newL]
    by_cases hk : k = st.nx
    . subst hk; rw [if_pos rfl]; exact hl
    . rw [if_neg hk]
      exact (h.locs k).mono (fun _ => id) hs hB (fun hl' => hB k (hlv k hl')) (fun _ _ => rfl) (fun b hb hz => ((h.locs k).root hb).2.2 hz) (h.refl k)
  . intro k k' b hne h1 h2
    rw [St.L_newL] at h1 h2
    by_cases hk : k = st.nx
    . subst hk
      rw [if_neg (Ne.symm hne)] at h2
      rw [if_pos rfl, hBn] at h1
      rw [hB k' (hlv k' h2.live)] at h2
      exact hd k' b h1 h2
    . rw [if_neg hk] at h1
      rw [hB k (hlv k h1.live)] at h1
      by_cases hk' : k' = st.nx
      . subst hk'
        rw [if_pos rfl, hBn] at h2
        exact hd k b h2 h1
      . rw [if_neg hk'] at h2
        rw [hB k' (hlv k' h2.live)] at h2
        exact h.disj k k' b hne h1 h2
  . rw [St.L_newL]
    by_cases hk : k = st.nx
    . rw [if_pos hk]; exact hr
    . rw [if_neg hk]; exact (h.refl k).le (Nat.le_succ _)
  . rw [St.L_newL]
    have hk' : st.nx + 1 <= k := hk
    rw [if_neg (by omega)]
    exact h.fresh k (by omega)
  . by_cases hk : k = st.nx
    . rw [hk, hBn]; exact hv1
    . rw [D4 _ _ _ _ hk]; exact h.bone k
  . rw [St.L_newL] at hl
    by_cases hkn : k = st.nx
    . subst hkn; rw [if_pos rfl, hBn] at hl; exact hmk b hk hl
    . rw [if_neg hkn] at hl
      rw [hB k (hlv k hl.live)] at hl
      exact h.mrk.2 k b hk hl
theorem Rel.drop (h : Rel za w0 st E w Z B) (k : Nat) : Rel za w0 (st.setL k .none) E w Z B := by
  refine ⟨h.ext, h.zlt, h.slots, fun q => ?_, fun q q' b hne h1 h2 => ?_, h.refs, fun q => ?_, fun q hq => ?_, h.bone, h.zin, h.nms, h.bfix, ⟨h.mrk.1, fun q b hk hl => (by rw [St.L_setL] at hl; split at hl; exact hl.elim; exact h.mrk.2 q b hk hl)⟩, h.frs, h.frf⟩
  . rw [St.L_setL]; split
    . trivial
    . exact h.locs q
  . rw [St.L_setL] at h1 h2
    split at h1
    . exact h1.elim
    . split at h2
      . exact h2.elim
      . exact h.disj q q' b hne h1 h2
  . rw [St.L_setL]; split
    . trivial
    . exact h.refl q
  . rw [St.L_setL]; split
    . rfl
    . exact h.fresh q hq
theorem Rel.chg (h : Rel za w0 st E w Z B) {k b : Nat} {lc : LC} (hk : live (st.L k)) (hb : D8 w (B k) (st.L k) b) (hc : Chg b w w') (hl : RL (up za w0 k) w' Z B k lc) (hr : E2v st.nx lc) (hf : ∀ b, D8 w' (B k) lc b -> root (B k) = some b \/ D8 w (B k) (st.L k) b) : Rel za w0 (st.setL k lc) E w' Z B := by
  have h1 := (h.locs k).root hb
  have hf : ∀ b, D8 w' (B k) lc b -> D8 w (B k) (st.L k) b := fun b hh => (hf b hh).elim (D8.of hk) id
  have h2 : Rel za w0 (st.setL k .none) E w' Z B := by
    refine (h.drop k).keep (h.ext.chg hc h1.1.m) (by rw [hc.2.2.2.1]; exact Nat.le_refl _) (fun q hq => hc.2.2.2.2 q ?_) (fun _ => id) (fun _ => .inl)
    rintro rfl
    rcases hq with hq | ⟨k', hl'⟩
    . exact h1.2.2 hq
    . rw [St.L_setL] at hl'
      by_cases hkk : k' = k
      . rw [if_pos hkk] at hl'; exact hl'.elim
      . rw [if_neg hkk] at hl'
        exact h.disj k' k q hkk hl' hb
  have hkn : k < st.nx := by
    by_cases hlt : k < st.nx
    . exact hlt
    . rw [h.fresh k (by omega)] at hk; exact hk.elim
  have hL : ∀ q, (st.setL k lc).L q = if q = k then lc else (st.setL k .none).L q := fun q => by
    rw [St.L_setL, St.L_setL]; split <;> simp_all
  have lv : ∀ q b, D8 w' (B q) ((st.setL k lc).L q) b -> D8 w (B q) (st.L q) b := fun q b' hq => by
    rw [St.L_setL] at hq; split at hq
    . rename_i e; rw [e] at hq ⊢; exact hf b' hq
    . refine (D8.iff fun c hcf => hc.2.2.2.2 c ?_).1 hq
      rintro rfl
      rename_i e
      exact h.disj q k c e hcf hb
  refine ⟨h2.ext, h2.zlt, h2.slots, fun q => ?_, fun q q' b' hne l1 l2 => ?_, h2.refs, fun q => ?_, fun q hq => ?_, h.bone, h.zin, h.nms, h.bfix, ⟨h2.mrk.1, fun q b hk' hl' => h.mrk.2 q b hk' (lv q b hl')⟩, h2.frs, h2.frf⟩
  . rw [hL]; split
    . rename_i hq; rw [hq]; exact hl
    . exact h2.locs q
  . exact h.disj q q' b' hne (lv q b' l1) (lv q' b' l2)
  . rw [hL]; split
    . exact hr
    . exact h2.refl q
  . rw [hL, if_neg (by have : st.nx <= q := hq; omega)]
    exact h2.fresh q hq
theorem Rel.relc (h : Rel za w0 st E w Z B) {k : Nat} {lc : LC} (hk : live (st.L k)) (hl : RL (up za w0 k) w Z B k lc) (hr : E2v st.nx lc) (hf : ∀ b, D8 w (B k) lc b -> root (B k) = some b \/ D8 w (B k) (st.L k) b) : Rel za w0 (st.setL k lc) E w Z B := by
  have hkn : k < st.nx := by
    by_cases hlt : k < st.nx
    . exact hlt
    . rw [h.fresh k (by omega)] at hk; exact hk.elim
  have lv : ∀ q b, D8 w (B q) ((st.setL k lc).L q) b -> D8 w (B q) (st.L q) b := fun q b' hq => by
    rw [St.L_setL] at hq; split at hq
    . rename_i e; rw [e] at hq ⊢; exact (hf b' hq).elim (D8.of hk) id
    . exact hq
  refine ⟨h.ext, h.zlt, h.slots, fun q => ?_, fun q q' b' hne l1 l2 => ?_, h.refs, fun q => ?_, fun q hq => ?_, h.bone, h.zin, h.nms, h.bfix, ⟨h.mrk.1, fun q b hk' hl' => h.mrk.2 q b hk' (lv q b hl')⟩, h.frs, h.frf⟩
  . rw [St.L_setL]; split
    . rename_i hq; rw [hq]; exact hl
    . exact h.locs q
  . exact h.disj q q' b' hne (lv q b' l1) (lv q' b' l2)
  . rw [St.L_setL]; split
    . exact hr
    . exact h.refl q
  . rw [St.L_setL, if_neg (by have : st.nx <= q := hq; omega)]
    exact h.fresh q hq
theorem Rel.addL (h : Rel za w0 st E w Z B) {k : Nat} {lc : LC} (hk : k < st.nx) (hl : RL (up za w0 k) w Z B k lc) (hd : ∀ j b, j ≠ k -> D8 w (B k) lc b -> ¬ D8 w (B j) (st.L j) b) (hr : E2v st.nx lc) (hmk : ∀ b, za.k0 <= k -> D8 w (B k) lc b -> za.b0 <= b) : Rel za w0 (st.setL k lc) E w Z B := by
  refine ⟨h.ext, h.zlt, h.slots, fun q => ?_, fun q q' b hne l1 l2 => ?_, h.refs, fun q => ?_, fun q hq => ?_, h.bone, h.zin, h.nms, h.bfix, ⟨h.mrk.1, fun q b hk' hl' => (by
    rw [St.L_setL] at hl'
    by_cases hqk : q = k
    . subst hqk; rw [if_pos rfl] at hl'; exact hmk b hk' hl'
    . rw [if_neg hqk] at hl'; exact h.mrk.2 q b hk' hl')⟩, h.frs, h.frf⟩
  . rw [St.L_setL]; split
    . rename_i hq; rw [hq]; exact hl
    . exact h.locs q
  . rw [St.L_setL] at l1 l2
    by_cases hq : q = k
    . subst hq
      rw [if_neg (Ne.symm hne)] at l2
      rw [if_pos rfl] at l1
      exact hd q' b (Ne.symm hne) l1 l2
    . rw [if_neg hq] at l1
      by_cases hq' : q' = k
      . subst hq'; rw [if_pos rfl] at l2; exact hd q b hq l2 l1
      . rw [if_neg hq'] at l2; exact h.disj q q' b hne l1 l2
  . rw [St.L_setL]; split
    . exact hr
    . exact h.refl q
  . rw [St.L_setL, if_neg (by have : st.nx <= q := hq; omega)]
    exact h.fresh q hq
theorem X9 {v : Value} {t t' : Ty} {e e' d d' b : Nat} {ls : List (List t.den)} {ls' : List (List t'.den)} {al al' : List (Nat × Nat)} {ho : Option Nat} (h : ∀ g, root v = some g -> w'.heap[g]? = w.heap[g]?) : D8 w' v (.rows t' d d' ls' al' ho) b ↔ D8 w v (.rows t e e' ls al ho) b := by
  refine or_congr Iff.rfl ⟨fun ⟨g, n, cap, cur, e, i, x, hv, hg, r⟩ => ⟨g, n, cap, cur, e, i, x, hv, ?_, r⟩, fun ⟨g, n, cap, cur, e, i, x, hv, hg, r⟩ => ⟨g, n, cap, cur, e, i, x, hv, ?_, r⟩⟩
  . rw [<- h g (by rw [hv]; rfl)]; exact hg
  . rw [h g (by rw [hv]; rfl)]; exact hg
theorem F5b {U : Nat -> Prop} {t : Ty} {k e e' i q b : Nat} {ls : List (List t.den)} {al : List (Nat × Nat)} {l : List t.den} {ys : List Value} (h : RL U w Z B k (.rows t e e' ls al none)) (hq : (i, q) ∈ al) (hb : root (B q) = some b) (hc : Chg b w w') (hz : ¬ Z b) (hown : w'.ownsRow 0 e' t.size (B q) l.length ys) (he : Q3 (Rep t w' Z) ys l) :
    RL U w' Z B k (.rows t e e' (ls.set i l) al none) /\ D8 w (B k) (.rows t e e' ls al none) b /\ root (B k) ≠ some b := by
  obtain ⟨xs, h1, ⟨h2, h3, h4⟩, h5, h6⟩ := h
  have hx := h2 _ hq
  have hil : i < ls.length := by have := (List.getElem?_eq_some_iff.1 hx).1; have h0 := h1.1; omega
  have hne : root (B k) ≠ some b := h5 i _ b rfl hx hb
  have hsz : W7 Z w w' := fun c hc' => hc.2.2.2.2 c (fun e => hz (e ▸ hc'))
  have hhd : ∀ g, root (B k) = some g -> w'.heap[g]? = w.heap[g]? := fun g hg => hc.2.2.2.2 g (fun e => hne (e ▸ hg))
  refine ⟨⟨xs, by rw [List.length_set]; exact A8t h1 (fun g hg => hhd g ((H0 h1).trans hg)), ⟨h2, fun j l' x _ hl hxj => ?_, h4⟩, h5, fun c hf => ?_⟩, ?_, hne⟩
  . by_cases hj : i = j
    . subst hj
      rw [List.getElem?_set_self hil] at hl
      cases hl
      rw [hx] at hxj; cases hxj
      exact ⟨ys, hown, he⟩
    . rw [List.getElem?_set_ne hj] at hl
      obtain ⟨zs, g1, g2⟩ := h3 j l' x rfl hl hxj
      refine ⟨zs, A8t g1 (fun g hg => hc.2.2.2.2 g (fun e => ?_)), g2.mono fun _ _ => Rep.mono (fun _ => id) hsz⟩
      subst e
      exact h4 i j _ _ g hj rfl rfl hx hxj hb ((H0 g1).trans hg)
  . obtain ⟨a1, a2, a3⟩ := h6 c ((X9 hhd).1 hf)
    exact ⟨a1, a2, by rw [hc.2.2.2.1]; exact a3⟩
  . refine .inr ?_
    rcases h1.2 with ⟨hv, hn⟩ | ⟨g, cap, cur, hv, _, hg, hle, _, hsz, htk⟩
    . omega
    . refine ⟨g, _, cap, cur, e, i, _, hv, hg, hil, rfl, ?_, hb⟩
      rw [<- htk, List.getElem?_take_of_lt (by omega)] at hx
      simpa using hx
def C3e (w : World) (Z : Nat -> Prop) (t : Ty) (e e' : TypeId) (v : Value) (ls : List (List t.den)) : Prop :=
  ∃ xs : List Value, w.ownsRow 0 e 1 v ls.length xs /\ (∀ (i : Nat) (l : List t.den) (x : Value), ls[i]? = some l -> xs[i]? = some x -> ∃ ys, w.ownsRow 0 e' t.size x l.length ys /\ Q3 (Rep t w Z) ys l) /\
    (∀ (i j : Nat) (x y : Value) (b : Nat), i ≠ j -> xs[i]? = some x -> xs[j]? = some y -> root x = some b -> root y ≠ some b) /\ ∀ (i : Nat) (x : Value) (b : Nat), xs[i]? = some x -> root x = some b -> root v ≠ some b
theorem RL.rowsR {U : Nat -> Prop} {t : Ty} {k e e' : Nat} {ls : List (List t.den)} {al : List (Nat × Nat)} (h : RL U w Z B k (.rows t e e' ls al none)) : C3e w Z t e e' (B k) ls := by
  obtain ⟨xs, h1, ⟨h2, h3, h4⟩, h5, h6⟩ := h
  exact ⟨xs, h1, fun i l x hl hx => h3 i l x rfl hl hx, fun i j x y b hij hx hy hb => h4 i j x y b hij rfl rfl hx hy hb, fun i x b hx hb => h5 i x b rfl hx hb⟩
theorem C3e.rl {U : Nat -> Prop} {t : Ty} {k e e' : Nat} {ls : List (List t.den)} (h : C3e w Z t e e' (B k) ls) (hf : ∀ b, D8 w (B k) (.rows t e e' ls [] none) b -> U b /\ ¬ Z b /\ b < w.heap.size) : RL U w Z B k (.rows t e e' ls [] none) := by
  obtain ⟨xs, h1, h3, h4, h5⟩ := h
  exact ⟨xs, h1, ⟨fun p hp => (by cases hp), fun i l x _ hl hx => h3 i l x hl hx, fun i j x y b hij _ _ hx hy hb => h4 i j x y b hij hx hy hb⟩, fun i x b _ hx hb => h5 i x b hx hb, hf⟩
theorem C3e.mono {t : Ty} {e e' : Nat} {v : Value} {ls : List (List t.den)} (hz : ∀ b, Z b -> Z' b) (h : C3e w Z t e e' v ls) : C3e w Z' t e e' v ls := by
  obtain ⟨xs, h1, h3, h4, h5⟩ := h
  exact ⟨xs, h1, fun i l x hl hx => (h3 i l x hl hx).imp fun ys hy => ⟨hy.1, hy.2.mono fun _ _ => Rep.mono hz (fun _ _ => rfl)⟩, h4, h5⟩
end steps
def F4w (P : Program) (r : TypeId -> Ty -> Bool) : List Field -> Nat -> Ty -> Bool
  | [], _, .unit => true
  | [f], off, ty => Nat.beq f.offset off && r f.type ty && Nat.beq (P.cellsOf f.type) ty.size
  | f :: g :: fs, off, .pair a b => Nat.beq f.offset off && r f.type a && Nat.beq (P.cellsOf f.type) a.size && F4w P r (g :: fs) (off + a.size) b
  | _, _, _ => false
def F3r (r : Ty -> Bool) (sz : Nat) : Nat -> Ty -> Bool
  | 0, .unit => true
  | 1, ty => r ty && Nat.beq ty.size sz
  | n + 2, .pair a b => r a && Nat.beq a.size sz && F3r r sz (n + 1) b
  | _, _ => false
def F6n (P : Program) : Nat -> TypeId -> Ty -> Bool
  | 0, _, _ => false
  | n + 1, T, ty => match P.underlying T with
    | some (.int k) => (match ty with | .int k' => decide (k = k') | _ => false)
    | some .bool => (match ty with | .bool => true | _ => false)
    | some (.struct fs) => F4w P (F6n P n) fs.toList 0 ty && Nat.beq (P.cellsOf T) ty.size && fs.all (·.name != "_")
    | some (.array m e) => F3r (F6n P n e) (P.cellsOf e) m ty && Nat.beq (P.cellsOf T) ty.size
    | _ => false
def D0e : (t : Ty) -> t.den -> List Lit
  | .int k, n => [.int k n]
  | .bool, b => [.bool b]
  | .pair a b, x => D0e a x.1 ++ D0e b x.2
  | _, _ => []
def A5l : Ty -> Bool
  | .int _ => true
  | .bool => true
  | .unit => true
  | .pair a b => A5l a && A5l b
  | _ => false
def eqB : (t : Ty) -> t.den -> t.den -> Bool
  | .int _, a, b => decide ((show Int from a) = b)
  | .bool, a, b => (show Bool from a) == b
  | .pair a b, x, y => eqB a x.1 y.1 && eqB b x.2 y.2
  | _, _, _ => true
theorem D6h : ∀ {t : Ty} {x y : t.den}, (D0e t x).length = (D0e t y).length
  | .int _, _, _ => rfl
  | .bool, _, _ => rfl
  | .pair a b, x, y => by simp only [D0e, List.length_append]; rw [D6h (t := a) (x := x.1) (y := y.1), D6h (t := b) (x := x.2) (y := y.2)]
  | .str, _, _ => rfl
  | .unit, _, _ => rfl
  | .sl _, _, _ => rfl
  | .ptr _, _, _ => rfl
  | .mp _ _ _ _, _, _ => rfl
theorem D7n : ∀ {t : Ty} {x y : t.den}, A5l t = true -> (D0e t x = D0e t y ↔ x = y)
  | .int _, x, y, _ => by simp [D0e]
  | .bool, x, y, _ => by simp [D0e]
  | .unit, x, y, _ => by simp [D0e]
  | .pair a b, x, y, h => by
    simp only [A5l, Bool.and_eq_true] at h
    simp only [D0e]
    constructor
    . intro e
      have := List.append_inj e D6h
      exact Prod.ext ((D7n h.1).1 this.1) ((D7n h.2).1 this.2)
    . rintro rfl; rfl
  | .str, _, _, h => by cases h
  | .sl _, _, _, h => by cases h
  | .ptr _, _, _, h => by cases h
  | .mp _ _ _ _, _, _, h => by cases h
theorem C4g : ∀ {t : Ty} {x y : t.den}, A5l t = true -> (eqB t x y = true ↔ x = y)
  | .int _, x, y, _ => by simp [eqB]
  | .bool, x, y, _ => by simp [eqB]
  | .unit, x, y, _ => by simp [eqB]
  | .pair a b, x, y, h => by
    simp only [A5l, Bool.and_eq_true] at h
    simp only [eqB, Bool.and_eq_true, C4g h.1, C4g h.2]
    exact ⟨fun ⟨a, b⟩ => Prod.ext a b, fun e => by rw [e]; exact ⟨rfl, rfl⟩⟩
  | .str, _, _, h => by cases h
  | .sl _, _, _, h => by cases h
  | .ptr _, _, _, h => by cases h
  | .mp _ _ _ _, _, _, h => by cases h
theorem A8k : ∀ {t : Ty} {w w' : World} {Z Z' : Nat -> Prop} {cs cs' : List Value} {x : t.den}, A5l t = true -> Rep t w Z cs x -> Rep t w' Z' cs' x -> cs = cs'
  | .int _, _, _, _, _, _, _, _, _, h, h' => h.1.trans h'.1.symm
  | .bool, _, _, _, _, _, _, _, _, h, h' => (show _ = _ from h).trans (show _ = _ from h').symm
  | .unit, _, _, _, _, _, _, _, _, h, h' => (show _ = _ from h).trans (show _ = _ from h').symm
  | .pair a b, _, _, _, _, _, _, _, hp, ⟨c1, c2, e, h1, h2⟩, ⟨c1', c2', e', h1', h2'⟩ => by
    simp only [A5l, Bool.and_eq_true] at hp
    rw [e, e', A8k hp.1 h1 h1', A8k hp.2 h2 h2']
  | .str, _, _, _, _, _, _, _, h, _, _ => by cases h
  | .sl _, _, _, _, _, _, _, _, h, _, _ => by cases h
  | .ptr _, _, _, _, _, _, _, _, h, _, _ => by cases h
  | .mp _ _ _ _, _, _, _, _, _, _, _, h, _, _ => by cases h
section
variable {P : Program} {w : World} {Z : Nat -> Prop}
theorem D9w {n : Nat} {r : TypeId -> Ty -> Bool} {cs : List Value} (hr : ∀ {T : TypeId} {ty : Ty} {cs : List Value} {x : ty.den}, r T ty = true -> Rep ty w Z cs x -> P.keyLits n T cs = some (D0e ty x)) :
    ∀ {fs : List Field} {off : Nat} {ty : Ty} {x : ty.den}, F4w P r fs off ty = true -> Rep ty w Z (cs.drop off) x -> ∃ ls, fs.mapM (fun f => P.keyLits n f.type ((cs.drop f.offset).take (P.cellsOf f.type))) = some ls /\ ls.flatten = D0e ty x
  | [], off, ty, x, h, hx => by
    cases ty <;> simp [F4w] at h
    exact ⟨[], rfl, rfl⟩
  | [f], off, ty, x, h, hx => by
    have h' : (Nat.beq f.offset off && r f.type ty && Nat.beq (P.cellsOf f.type) ty.size) = true := by cases ty <;> exact h
    simp only [Bool.and_eq_true] at h'
    have e1 := Nat.eq_of_beq_eq_true h'.1.1
    have e2 := Nat.eq_of_beq_eq_true h'.2
    have hl := Rep.length hx
    refine ⟨[D0e ty x], ?_, by simp⟩
    rw [List.mapM_cons, e1, e2, List.take_of_length_le (by omega), hr h'.1.2 hx]
    rfl
  | f :: g :: fs, off, ty, x, h, hx => by
    cases ty <;> simp only [F4w] at h <;> try cases h
    rename_i a b
    simp only [Bool.and_eq_true] at h
    obtain ⟨⟨⟨h1, h2⟩, h3⟩, h4⟩ := h
    obtain ⟨c1, c2, e, r1, r2⟩ := hx
    have l1 := Rep.length r1
    have e1 := Nat.eq_of_beq_eq_true h1
    have e3 := Nat.eq_of_beq_eq_true h3
    obtain ⟨ls, hls, hfl⟩ := D9w (cs := cs) (off := off + a.size) (x := x.2) hr h4 (by rw [<- List.drop_drop, e, List.drop_left' l1]; exact r2)
    refine ⟨D0e a x.1 :: ls, ?_, by simp [D0e, hfl]⟩
    rw [List.mapM_cons, e1, e3, e, List.take_left' l1, hr h2 r1, hls]
    rfl
theorem D9i {n e sz : Nat} {r : Ty -> Bool} (hr : ∀ {ty : Ty} {cs : List Value} {x : ty.den}, r ty = true -> Rep ty w Z cs x -> P.keyLits n e cs = some (D0e ty x)) :
    ∀ {m i : Nat} {ty : Ty} {cs : List Value} {x : ty.den}, F3r r sz m ty = true -> Rep ty w Z (cs.drop (i * sz)) x -> ∃ ls, (List.range' i m).mapM (fun i => P.keyLits n e ((cs.drop (i * sz)).take sz)) = some ls /\ ls.flatten = D0e ty x
  | 0, i, ty, cs, x, h, hx => by
    cases ty <;> simp [F3r] at h
    exact ⟨[], rfl, rfl⟩
  | 1, i, ty, cs, x, h, hx => by
    have h' : (r ty && Nat.beq ty.size sz) = true := by cases ty <;> exact h
    simp only [Bool.and_eq_true] at h'
    have e2 := Nat.eq_of_beq_eq_true h'.2
    have hl := Rep.length hx
    refine ⟨[D0e ty x], ?_, by simp⟩
    rw [List.range'_one, List.mapM_cons, List.take_of_length_le (by omega), hr h'.1 hx]
    rfl
  | m + 2, i, ty, cs, x, h, hx => by
    cases ty <;> simp only [F3r] at h <;> try cases h
    rename_i a b
    simp only [Bool.and_eq_true] at h
    obtain ⟨⟨h1, h2⟩, h3⟩ := h
    obtain ⟨c1, c2, e, r1, r2⟩ := hx
    have l1 := Rep.length r1
    have e2 := Nat.eq_of_beq_eq_true h2
    obtain ⟨ls, hls, hfl⟩ := D9i (cs := cs) (i := i + 1) (x := x.2) hr h3 (by rw [Nat.succ_mul, <- List.drop_drop, e, List.drop_left' (by omega)]; exact r2)
    refine ⟨D0e a x.1 :: ls, ?_, by simp [D0e, hfl]⟩
    rw [List.range'_succ, List.mapM_cons, e, List.take_left' (by omega), hr h1 r1, hls]
    rfl
theorem D7y : ∀ {n : Nat} {T : TypeId} {ty : Ty} {cs : List Value} {x : ty.den}, F6n P n T ty = true -> Rep ty w Z cs x -> P.keyLits n T cs = some (D0e ty x)
  | 0, _, _, _, _, h, _ => by cases h
  | n + 1, T, ty, cs, x, h, hx => by
    unfold F6n at h
    unfold Program.keyLits
    split at h
    . rename_i k hu
      cases ty <;> simp only at h <;> try cases h
      have := of_decide_eq_true h
      subst this
      obtain ⟨e, hi⟩ := hx
      simp only [hu, e]
      rw [if_pos ⟨trivial, by simp only [Lit.wf, Bool.and_eq_true, decide_eq_true_eq]; exact hi⟩]
      rfl
    . rename_i hu
      cases ty <;> simp only at h <;> try cases h
      simp only [hu, show cs = _ from hx]
      rfl
    . rename_i fs hu
      simp only [Bool.and_eq_true] at h
      have hl := Rep.length hx
      obtain ⟨ls, h1, h2⟩ := D9w (n := n) (cs := cs) (off := 0) (fun hh hx => D7y hh hx) h.1.1 (by simpa using hx)
      simp only [hu]
      rw [if_pos ⟨by rw [hl, Nat.eq_of_beq_eq_true h.1.2], h.2⟩, h1]
      simp [h2]
    . rename_i m e hu
      simp only [Bool.and_eq_true] at h
      have hl := Rep.length hx
      obtain ⟨ls, h1, h2⟩ := D9i (n := n) (e := e) (sz := P.cellsOf e) (i := 0) (cs := cs) (fun hh hx => D7y hh hx) h.1 (by simpa using hx)
      simp only [hu]
      rw [if_pos (by rw [hl, Nat.eq_of_beq_eq_true h.2]), List.range_eq_range', h1]
      simp [h2]
    . cases h
def E1t (P : Program) (T : TypeId) (a : Bool) (ty : Ty) : Bool := F6n P 20 T ty && P.keyTypeAt 20 T && A5l ty && !(P.eqGuardType P.depth T) && (match P.underlying T with | some (.struct _) => a | some (.array _ _) => a | _ => !a)
theorem C4o {T : TypeId} {a : Bool} {ty : Ty} {v : Value} {x : ty.den} (h : E1t P T a ty = true) (hv : A5z (Rep ty w Z) a v x) : v.formed P T = true /\ P.keyLits 20 T v.cells.toList = some (D0e ty x) := by
  simp only [E1t, Bool.and_eq_true] at h
  obtain ⟨⟨⟨⟨h1, h2⟩, h3⟩, _⟩, h4⟩ := h
  cases a with
  | true =>
    obtain ⟨cs, e, hr⟩ := hv
    subst e
    have h5 := D7y h1 hr
    have hl := Rep.length hr
    refine ⟨?_, h5⟩
    unfold F6n at h1
    split at h1
    . rename_i hu; simp [hu] at h4
    . rename_i hu; simp [hu] at h4
    . rename_i hu
      simp only [Bool.and_eq_true] at h1
      simp only [Value.formed, hu]
      have := Nat.eq_of_beq_eq_true h1.1.2
      simp [this, hl]
    . rename_i hu
      simp only [Bool.and_eq_true] at h1
      simp only [Value.formed, hu]
      have := Nat.eq_of_beq_eq_true h1.2
      simp [this, hl]
    . cases h1
  | false =>
    have hr : Rep ty w Z [v] x := hv
    have h5 := D7y h1 hr
    unfold F6n at h1
    split at h1
    . rename_i k hu
      cases ty <;> simp only at h1 <;> try cases h1
      have e := hr.1
      simp only [List.cons.injEq, and_true] at e
      subst e
      exact ⟨by simp [Value.formed, hu], h5⟩
    . rename_i hu
      cases ty <;> simp only at h1 <;> try cases h1
      have e : [v] = [.bool x] := hr
      simp only [List.cons.injEq, and_true] at e
      subst e
      exact ⟨by simp [Value.formed, hu], h5⟩
    . rename_i hu; simp [hu] at h4
    . rename_i hu; simp [hu] at h4
    . cases h1
theorem C1t {T : TypeId} {a : Bool} {ty : Ty} (h : E1t P T a ty = true) : A5l ty = true := by
  simp only [E1t, Bool.and_eq_true] at h; exact h.1.1.2
theorem E0e {T : TypeId} {a : Bool} {ty : Ty} {v v' : Value} {x y : ty.den} (h : E1t P T a ty = true) (hv : A5z (Rep ty w Z) a v x) (hv' : A5z (Rep ty w Z) a v' y) (w' : World) : (Op.equalIn 10000 T v v').run P w' = .ok (eqB ty x y) w' := by
  obtain ⟨f1, l1⟩ := C4o h hv
  obtain ⟨f2, l2⟩ := C4o h hv'
  have hp := C1t h
  simp only [E1t, Bool.and_eq_true] at h
  obtain ⟨r, hr, hiff⟩ := run_equalIn_deep (P := P) 9980 20 T h.1.1.1.2 w' 20 20 v v' _ _ f1 f2 l1 l2
  rw [hr]
  have : r = eqB ty x y := by
    rw [D7n hp, <- C4g hp] at hiff
    cases r <;> cases he : eqB ty x y <;> simp_all
  rw [this]
theorem B0y {T : TypeId} {a : Bool} {ty : Ty} {v : Value} {x : ty.den} (h : E1t P T a ty = true) (hv : A5z (Rep ty w Z) a v x) (w' : World) (em : Bool) : (Instr.checkKey em 10000 T v).run P w' = .ok () w' := by
  obtain ⟨f1, l1⟩ := C4o h hv
  simp only [E1t, Bool.and_eq_true] at h
  exact run_checkKey_deep (P := P) em 9980 20 T h.1.1.1.2 w' 20 v _ f1 l1
def T1 {α : Type} (t : Ty) (k : t.den) : List (t.den × α) -> Nat -> Option Nat
  | [], _ => none
  | x :: l, i => bif eqB t k x.1 then some i else T1 t k l (i + 1)
def J0 {α : Type} (t : Ty) (k : t.den) : List (t.den × α) -> Option α
  | [] => none
  | x :: l => bif eqB t k x.1 then some x.2 else J0 t k l
def C3k {α : Type} (t : Ty) (k : t.den) (v : α) : List (t.den × α) -> List (t.den × α)
  | [] => [(k, v)]
  | x :: l => bif eqB t k x.1 then (k, v) :: l else x :: C3k t k v l
theorem B9z {T : TypeId} {ka : Bool} {kt : Ty} {ν : Type} {Rv : Value -> ν -> Prop} {v : Value} {k : kt.den} (h : E1t P T ka kt = true) (hv : A5z (Rep kt w Z) ka v k) (w' : World) :
    ∀ {l : List (kt.den × ν)} {es : List MapEntry}, X4 (A5z (Rep kt w Z) ka) Rv es l -> (Instr.findKey T v es).run P w' = .ok ((T1 kt k l 0).bind fun j => (es[j]?).map fun e => (j, e.val)) w' := by
  have main : ∀ {l : List (kt.den × ν)} {es : List MapEntry} (i : Nat), X4 (A5z (Rep kt w Z) ka) Rv es l -> (Instr.findAsking T v es i).run P w' = .ok ((T1 kt k l i).bind fun j => (es[j - i]?).map fun e => (j, e.val)) w' := by
    intro l
    induction l with
    | nil => intro es i he; rw [show es = [] from he]; rfl
    | cons x l ih =>
      intro es i he
      obtain ⟨e, es', rfl, h1, h2, h3⟩ := he
      have hq := E0e h hv h1 w'
      unfold Instr.findAsking T1
      simp only [Sem.run_bind, Op.equal, Op.maxDepth, hq, Result.andThen_ok]
      cases eqB kt k x.1 with
      | true => simp
      | false =>
        simp only [Bool.false_eq_true, if_false, cond_false]
        rw [ih (i + 1) h3]
        cases hm : T1 kt k l (i + 1) with
        | none => rfl
        | some j =>
          have hj : i + 1 <= j := by
            have : ∀ (l : List (kt.den × ν)) (i j : Nat), T1 kt k l i = some j -> i <= j := by
              intro l
              induction l with
              | nil => intro i j hh; cases hh
              | cons y l ih =>
                intro i j hh
                unfold T1 at hh
                cases hb : eqB kt k y.1 with
                | true => simp [hb] at hh; omega
                | false => simp [hb] at hh; have := ih _ _ hh; omega
            exact this _ _ _ hm
          simp only [Option.bind_some]
          rw [show j - i = (j - (i + 1)) + 1 from by omega]
          simp
  intro l es he
  have hask := main 0 he
  by_cases hwide : (match P.underlying T with | some (.array _ _) | some (.struct _) => true | _ => false) = true
  . rw [run_findKey_eq w' hwide]; exact hask
  . have hfl := h
    simp only [E1t, Bool.and_eq_true] at hfl
    obtain ⟨⟨⟨⟨g1, _⟩, _⟩, _⟩, g4⟩ := hfl
    have now : ∀ (d : TypeDesc), P.underlying T = some d -> (∀ (v v' : Value) (x y : kt.den), A5z (Rep kt w Z) ka v x -> A5z (Rep kt w Z) ka v' y -> Instr.sameNow d v v' = some (eqB kt x y)) -> ∀ {l : List (kt.den × ν)} {es : List MapEntry} (i : Nat), X4 (A5z (Rep kt w Z) ka) Rv es l -> Instr.findNow d v es i = some ((T1 kt k l i).bind fun j => (es[j - i]?).map fun e => (j, e.val)) := by
      intro d hd hsame l
      induction l with
      | nil => intro es i he; rw [show es = [] from he]; rfl
      | cons x l ih =>
        intro es i he
        obtain ⟨e, es', rfl, h1, h2, h3⟩ := he
        unfold Instr.findNow T1
        rw [hsame _ _ _ _ hv h1]
        cases hb : eqB kt k x.1 with
        | true => simp
        | false =>
          simp only [cond_false]
          rw [ih (i + 1) h3]
          cases hm : T1 kt k l (i + 1) with
          | none => rfl
          | some j =>
            have hj : i + 1 <= j := by
              have : ∀ (l : List (kt.den × ν)) (i j : Nat), T1 kt k l i = some j -> i <= j := by
                intro l
                induction l with
                | nil => intro i j hh; cases hh
                | cons y l ih =>
                  intro i j hh
                  unfold T1 at hh
                  cases hb : eqB kt k y.1 with
                  | true => simp [hb] at hh; omega
                  | false => simp [hb] at hh; have := ih _ _ hh; omega
              exact this _ _ _ hm
            simp only [Option.bind_some]
            rw [show j - i = (j - (i + 1)) + 1 from by omega]
            simp
    unfold F6n at g1
    split at g1
    . rename_i q hu
      simp only [hu, Bool.not_eq_true'] at g4
      subst g4
      cases kt <;> simp only at g1 <;> try cases g1
      have := of_decide_eq_true g1
      subst this
      have := now _ hu (fun v v' x y h1 h2 => by
        have e1 := h1.1; have e2 := h2.1
        simp only [List.cons.injEq, and_true] at e1 e2
        rw [e1, e2]; simp [Instr.sameNow, eqB, BEq.beq]) 0 he
      simp [Instr.findKey, run_underlying hu, this]
    . rename_i hu
      simp only [hu, Bool.not_eq_true'] at g4
      subst g4
      cases kt <;> simp only at g1 <;> try cases g1
      have := now _ hu (fun v v' x y h1 h2 => by
        have e1 : [v] = [.bool x] := h1; have e2 : [v'] = [.bool y] := h2
        simp only [List.cons.injEq, and_true] at e1 e2
        rw [e1, e2]; simp [Instr.sameNow, eqB]) 0 he
      simp [Instr.findKey, run_underlying hu, this]
    . rename_i hu; simp [hu] at hwide
    . rename_i hu; simp [hu] at hwide
    . cases g1
end
theorem A8u (k : IntKind) (n : Int) : inR k (k.wrap n) := by
  unfold inR
  cases k <;> simp only [IntKind.wrap, IntKind.min, IntKind.max, IntKind.signed, IntKind.bits] <;> simp <;> (try split) <;> omega
theorem E6j (k : IntKind) : inR k 0 := by unfold inR; cases k <;> decide
theorem F6q (k : IntKind) : k.min <= 0 /\ 0 <= k.max := E6j k
theorem F5l {k : IntKind} {a b : Int} (ha : inR k a) : inR k (a.tmod b) := by
  have h0 := F6q k
  unfold inR at *
  rcases Int.le_total 0 a with h | h
  . have h1 := Int.tmod_nonneg b h
    have h2 : a.tmod b <= a := by
      rw [Int.tmod_eq_emod_of_nonneg h]
      by_cases hb : b = 0
      . subst hb; simp
      . have e1 := Int.mul_ediv_add_emod a b
        rcases Int.le_total 0 b with hb' | hb'
        . have := Int.mul_nonneg hb' (Int.ediv_nonneg h hb'); omega
        . have := Int.mul_nonneg_of_nonpos_of_nonpos hb' (Int.ediv_nonpos_of_nonneg_of_nonpos h hb'); omega
    omega
  . have h1 : 0 <= (-a).tmod b := Int.tmod_nonneg b (by omega)
    have h2 : (-a).tmod b <= -a := by
      rw [Int.tmod_eq_emod_of_nonneg (by omega)]
      by_cases hb : b = 0
      . subst hb; simp
      . have e1 := Int.mul_ediv_add_emod (-a) b
        rcases Int.le_total 0 b with hb' | hb'
        . have := Int.mul_nonneg hb' (Int.ediv_nonneg (show 0 <= -a by omega) hb'); omega
        . have := Int.mul_nonneg_of_nonpos_of_nonpos hb' (Int.ediv_nonpos_of_nonneg_of_nonpos (show 0 <= -a by omega) hb'); omega
    rw [Int.neg_tmod] at h1 h2
    omega
theorem F5g {k : IntKind} {a : Int} (n : Nat) (ha : inR k a) : inR k (a.fdiv (2 ^ n)) := by
  have h0 := F6q k
  have hp : (0 : Int) < 2 ^ n := Int.pow_pos (by decide)
  have h1 : (1 : Int) <= 2 ^ n := hp
  unfold inR at *
  rw [Int.fdiv_eq_ediv_of_nonneg _ (by omega)]
  constructor
  . rw [Int.le_ediv_iff_mul_le hp]
    have : k.min * 2 ^ n <= k.min * 1 := Int.mul_le_mul_of_nonpos_left h0.1 h1
    omega
  . have : a / 2 ^ n < k.max + 1 := by
      rw [Int.ediv_lt_iff_lt_mul hp]
      have : (k.max + 1) * 1 <= (k.max + 1) * 2 ^ n := Int.mul_le_mul_of_nonneg_left h1 (by omega)
      omega
    omega
structure TI where
  ty : Ty
  agg : Bool
  elem : TypeId := 0
  fields : List (Nat × Nat × Bool) := []
  arr : Nat := 0
  bytes : Nat := 0
  eq : Bool := false
  key : TypeId := 0
  rows : Bool := false
def zc (t : Ty) (vs : List Value) : Option (List Value) :=
  match t with
  | .int k => (match vs with | .int k' n :: r => bif decide (k = k') && decide (n = 0) then some r else none | _ => none)
  | .bool => (match vs with | .bool b :: r => bif b then none else some r | _ => none)
  | .str => (match vs with | .string s :: r => bif s.data.isEmpty then some r else none | _ => none)
  | .unit => some vs
  | .pair a b => (zc a vs).bind (zc b)
  | .sl _ => (match vs with | .slice none 0 0 :: r => some r | _ => none)
  | .ptr _ => (match vs with | .pointer none :: r => some r | _ => none)
  | .mp _ _ _ _ => (match vs with | .map none :: r => some r | _ => none)
def B0a : Ty -> List Value
  | .int k => [.int k 0]
  | .bool => [.bool false]
  | .str => [.string ⟨#[]⟩]
  | .unit => []
  | .pair a b => B0a a ++ B0a b
  | .sl _ => [.slice none 0 0]
  | .ptr _ => [.pointer none]
  | .mp _ _ _ _ => [.map none]
theorem E2i : ∀ {t : Ty} {vs r : List Value}, zc t vs = some r -> vs = B0a t ++ r
  | .int k, vs, r, h => by
    simp only [zc] at h
    split at h
    . rename_i k' n r'
      cases hk : decide (k = k') <;> simp [hk] at h
      cases hn : decide (n = 0) <;> simp at hn hk <;> simp [hn] at h
      subst hn hk h; rfl
    . cases h
  | .bool, vs, r, h => by
    simp only [zc] at h
    split at h
    . rename_i b r'
      cases b <;> simp at h
      subst h; rfl
    . cases h
  | .str, vs, r, h => by
    simp only [zc] at h
    split at h
    . rename_i s r'
      cases hs : s.data.isEmpty <;> simp [hs] at h
      subst h
      have : s = ⟨#[]⟩ := by cases s; simp at hs; simp [hs]
      rw [this]; rfl
    . cases h
  | .unit, vs, r, h => by simp [zc] at h; subst h; rfl
  | .pair a b, vs, r, h => by
    simp only [zc] at h
    cases h1 : zc a vs with
    | none => simp [h1] at h
    | some r1 =>
      simp [h1] at h
      rw [E2i h1, E2i h]; simp [B0a]
  | .sl t, vs, r, h => by
    simp only [zc] at h
    split at h
    . cases h; rfl
    . cases h
  | .ptr t, vs, r, h => by
    simp only [zc] at h
    split at h
    . cases h; rfl
    . cases h
  | .mp _ _ _ _, vs, r, h => by
    simp only [zc] at h
    split at h
    . cases h; rfl
    . cases h
def isB (P : Program) (T : TypeId) : Bool := match P.underlying T with | some .bool => true | _ => false
def E9i (P : Program) (T : TypeId) (f sz : Nat) (agg : Bool) : Bool :=
  match P.underlying T with
  | some (.struct fs) => (match fs[f]? with | some x => bif agg then F6z P x.type sz else (A4k P x.type && Nat.beq sz 1) | none => false)
  | _ => false
def B9v (P : Program) (T : TypeId) : Nat -> List (Nat × Nat × Bool) -> Bool
  | _, [] => true
  | f, (off, sz, agg) :: r => D4z P T f off && E9i P T f sz agg && B9v P T (f + 1) r
def B4p (P : Program) (T : TypeId) (t : Ty) : Bool := match A8y P T with | some z => (match zc t z.cells.toList with | some [] => true | _ => false) | none => false
def B8m (P : Program) (T : TypeId) (va : Bool) : Bool := match A8y P T with | some (.agg _) => va | some (.tuple _) => false | some _ => !va | none => false
def D5i (P : Program) (T : TypeId) (ti : TI) : Bool :=
  C0i P T ti.ty.size && (bif ti.agg then F6z P T ti.ty.size else (A4k P T && Nat.beq ti.ty.size 1)) && B4p P T ti.ty &&
  (match ti.ty with
   | .bool => isB P T
   | .str => (match P.underlying T with | some .string => true | _ => false)
   | .sl t => A5m P T ti.elem t.size && B4p P ti.elem t && (match P.info? ti.elem with | some i => Nat.beq i.bytes ti.bytes | none => false)
   | .int k => (match P.underlying T with | some (.int k') => decide (k = k') | _ => false)
   | .mp ka kt va vt => (match P.underlying T with | some (.map k e) => Nat.beq k ti.key && Nat.beq e ti.elem | _ => false) && E1t P ti.key ka kt && B4p P ti.elem vt && B8m P ti.elem va
   | _ => true) &&
  (bif ti.fields.isEmpty then true else (B9v P T 0 ti.fields && (match C4n P T with | some pl => decide (pl = ti.fields.map fun x => (x.1, x.2.1)) | none => false))) &&
  (bif Nat.beq ti.arr 0 then true else (match P.underlying T with | some (.array n e) => Nat.beq n ti.arr && Nat.beq e ti.elem | _ => false)) &&
  (bif ti.eq then E1t P T ti.agg ti.ty else true)
def B4q : Value -> C
  | .int k n => bif decide (k.min <= n) && decide (n <= k.max) then .val (.int k) n else .raw (.int k n)
  | .bool b => .val .bool b
  | .string s => .val .str s
  | v => bif v.oneCell' then .raw v else .dead
def E3u : Value -> SV
  | .agg cs => ⟨true, cs.toList.map B4q⟩
  | v => ⟨false, [B4q v]⟩
theorem B7x {w : World} {Z : Nat -> Prop} {B : Nat -> Value} {n : Nat} (v : Value) : RC w Z B (B4q v) v /\ B0s n (B4q v) := by
  cases v with
  | int k m =>
    simp only [B4q]
    cases h : decide (k.min <= m) && decide (m <= k.max) with
    | true => simp at h; simp only [cond_true]; exact ⟨⟨rfl, h⟩, trivial⟩
    | false => simp only [cond_false]; exact ⟨⟨rfl, rfl⟩, trivial⟩
  | _ => exact ⟨by first | rfl | exact ⟨rfl, rfl⟩ | trivial, by first | trivial | rfl⟩
theorem A1q {w : World} {Z : Nat -> Prop} {B : Nat -> Value} {n : Nat} : ∀ vs : List Value, RCs w Z B (vs.map B4q) vs /\ ∀ c ∈ vs.map B4q, B0s n c
  | [] => ⟨rfl, by simp⟩
  | v :: vs => ⟨⟨v, vs, rfl, (B7x (n := n) v).1, (A1q (n := n) vs).1⟩, fun c hc => by
      simp only [List.map_cons, List.mem_cons] at hc
      rcases hc with rfl | hc
      . exact (B7x (w := w) (Z := Z) (B := B) v).2
      . exact (A1q (w := w) (Z := Z) (B := B) vs).2 c hc⟩
theorem E7b {w : World} {Z : Nat -> Prop} {B : Nat -> Value} {n : Nat} (v : Value) : RS w Z B (E3u v) v /\ C8z n (E3u v) := by
  have base : ∀ v, RS w Z B ⟨false, [B4q v]⟩ v /\ C8z n ⟨false, [B4q v]⟩ := fun v => ⟨⟨v, [], rfl, (B7x (n := n) v).1, rfl⟩, fun c hc => by simp at hc; rw [hc]; exact (B7x (w := w) (Z := Z) (B := B) v).2⟩
  cases v with
  | agg cs => exact ⟨⟨cs.toList, by simp, (A1q (n := n) cs.toList).1⟩, (A1q (w := w) (Z := Z) (B := B) cs.toList).2⟩
  | _ => exact base _
abbrev Ctx := List (Tmp × Bool)
def F2o (t : Tmp) (b : Bool) : Ctx -> Bool
  | [] => false
  | (t', b') :: r => (Nat.beq t' t && (b == b')) || F2o t b r
def St.ev (st : St) (ctx : Ctx) : Operand -> Option SV
  | .tmp t => match st.S t with
    | .one v => some v
    | .cnd t' b v => bif F2o t' b ctx then some v else none
    | _ => none
  | .const v => some (E3u v)
  | .func f => some ⟨false, [.fn f []]⟩
  | .global _ => none
def gctx (st : St) : Nat -> Tmp -> Bool -> Ctx
  | 0, t, b => [(t, b)]
  | n + 1, t, b => (t, b) :: match st.S t with
    | .cnd t' b' _ => gctx st n t' b'
    | _ => []
def D9l : SV -> Option Bool
  | ⟨false, [.val .bool e]⟩ => some e
  | _ => none
def gval (st : St) (t : Tmp) : Option Bool := match st.S t with
  | .one v => D9l v
  | .cnd _ _ v => D9l v
  | _ => none
def ctxP (st : St) : Ctx -> Prop
  | [] => True
  | (t, b) :: r => match gval st t with
    | some e => match r with
      | [] => e = b
      | r => e = b /\ ctxP st r
    | none => ctxP st r
theorem C8i {st : St} {t : Tmp} {b e : Bool} {r : Ctx} (hg : gval st t = some e) : ctxP st ((t, b) :: r) ↔ e = b /\ ctxP st r := by
  simp only [ctxP, hg]
  cases r with
  | nil => simp [ctxP]
  | cons _ _ => rfl
def W2 (E : Env) (ctx : Ctx) : Prop := ∀ t b, (t, b) ∈ ctx -> E t = .bool b
theorem D9z {t : Tmp} {b : Bool} : ∀ {ctx : Ctx}, F2o t b ctx = true -> (t, b) ∈ ctx
  | (t', b') :: r, h => by
    simp only [F2o, Bool.or_eq_true, Bool.and_eq_true] at h
    rcases h with ⟨h1, h2⟩ | h
    . have := Nat.eq_of_beq_eq_true h1; simp at h2; subst this h2; simp
    . simp [D9z h]
theorem C0v (b : Bool) : undef ≠ .bool b := by simp [undef]
section
variable {za : Zn} {w0 w : World} {Z : Nat -> Prop} {B : Nat -> Value} {st : St} {E : Env}
theorem Rel.ev (h : Rel za w0 st E w Z B) {ctx : Ctx} (hc : W2 E ctx) {x : Operand} {v : SV} (hv : st.ev ctx x = some v) : RS w Z B v (Gw.ev E x) /\ C8z st.nx v := by
  cases x with
  | tmp t =>
    have hs := h.slots t
    have hr := h.refs t
    simp only [St.ev] at hv
    cases hd : st.S t with
    | one u => rw [hd] at hs hr hv; cases hv; exact ⟨hs, hr⟩
    | tup _ => rw [hd] at hv; cases hv
    | dead => rw [hd] at hv; cases hv
    | cnd t' b u =>
      rw [hd] at hs hr hv
      cases hi : F2o t' b ctx with
      | false => simp [hi] at hv
      | true =>
        simp [hi] at hv
        subst hv
        rcases hs with ⟨_, hs⟩ | ⟨hs, _⟩
        . exact ⟨hs, hr⟩
        . exact absurd (hc t' b (D9z hi)) hs
  | const u => cases hv; exact E7b u
  | func f => cases hv; exact ⟨⟨_, [], rfl, by show _ = _; rfl, rfl⟩, fun c hc => by simp at hc; subst hc; exact fun k hk => by cases hk⟩
  | global g => cases hv
theorem Rel.gctx (h : Rel za w0 st E w Z B) : ∀ {n : Nat} {t : Tmp} {b : Bool}, E t = .bool b -> W2 E (gctx st n t b)
  | 0, t, b, he => fun t' b' hm => by simp [Vc.gctx] at hm; rw [hm.1, hm.2]; exact he
  | n + 1, t, b, he => fun t' b' hm => by
    unfold Vc.gctx at hm
    rcases List.mem_cons.1 hm with hm | hm
    . cases hm; exact he
    . have hs := h.slots t
      cases hd : st.S t with
      | cnd t1 b1 u =>
        rw [hd] at hs hm
        rcases hs with ⟨h1, _⟩ | ⟨_, h1⟩
        . exact h.gctx h1 t' b' hm
        . rw [he] at h1; exact absurd h1.symm (C0v b)
      | one _ => rw [hd] at hm; cases hm
      | tup _ => rw [hd] at hm; cases hm
      | dead => rw [hd] at hm; cases hm
theorem B3f {v : SV} {e : Bool} {u : Value} (h : RS w Z B v u) (hb : D9l v = some e) : u = .bool e := by
  unfold D9l at hb
  split at hb
  . cases hb
    obtain ⟨_, _, e1, h1, _⟩ := h
    cases e1
    simpa [RC, Rep] using h1
  . cases hb
theorem Rel.gval (h : Rel za w0 st E w Z B) {t : Tmp} {b e : Bool} (he : E t = .bool b) (hg : gval st t = some e) : e = b := by
  have hs := h.slots t
  unfold Vc.gval at hg
  cases hd : st.S t with
  | one u => rw [hd] at hs hg; have := B3f hs hg; rw [he] at this; cases this; rfl
  | tup _ => rw [hd] at hg; cases hg
  | dead => rw [hd] at hg; cases hg
  | cnd t' b' u =>
    rw [hd] at hs hg
    rcases hs with ⟨_, hs⟩ | ⟨_, hs⟩
    . have := B3f hs hg; rw [he] at this; cases this; rfl
    . rw [he] at hs; exact absurd hs.symm (C0v b)
theorem Rel.ctxP (h : Rel za w0 st E w Z B) : ∀ {ctx : Ctx}, W2 E ctx -> ctxP st ctx
  | [], _ => trivial
  | (t, b) :: r, hc => by
    have ih := h.ctxP (ctx := r) fun t b hm => hc t b (List.mem_cons_of_mem _ hm)
    cases hg : Vc.gval st t with
    | none => simp only [Vc.ctxP, hg]; exact ih
    | some e => exact (C8i hg).2 ⟨h.gval (hc t b (by simp)) hg, ih⟩
end
def explode : (t : Ty) -> t.den -> List C
  | .pair a b, x => explode a x.1 ++ explode b x.2
  | .unit, _ => []
  | .int k, x => [.val (.int k) x]
  | .bool, x => [.val .bool x]
  | .str, x => [.val .str x]
  | .sl t, x => [.val (.sl t) x]
  | .ptr t, x => [.pf t x 0]
  | .mp ka kt va vt, x => [.val (.mp ka kt va vt) x]
def E8z (t : Ty) : C -> Option t.den
  | .val t' x => if h : t' = t then some (h ▸ x) else none
  | .raw (.slice none 0 0) => match t with
    | .sl _ => some []
    | _ => none
  | .raw (.map none) => match t with
    | .mp _ _ _ _ => some []
    | _ => none
  | .pf t' x 0 => if h : Ty.ptr t' = t then some (h ▸ (show (Ty.ptr t').den from x)) else none
  | _ => none
def D0m : (t : Ty) -> List C -> Option (t.den × List C)
  | .pair a b, cs => (D0m a cs).bind fun x => (D0m b x.2).map fun y => ((x.1, y.1), y.2)
  | .unit, cs => some ((), cs)
  | .int k, c :: r => (E8z (.int k) c).map fun x => (x, r)
  | .bool, c :: r => (E8z .bool c).map fun x => (x, r)
  | .str, c :: r => (E8z .str c).map fun x => (x, r)
  | .sl t, c :: r => (E8z (.sl t) c).map fun x => (x, r)
  | .ptr t, c :: r => (E8z (.ptr t) c).map fun x => (x, r)
  | .mp ka kt va vt, c :: r => (E8z (.mp ka kt va vt) c).map fun x => (x, r)
  | _, _ => none
def B4c (agg : Bool) (t : Ty) (s : SV) : Option t.den :=
  bif s.agg == agg then (match D0m t s.cs with | some (x, []) => some x | _ => none) else none
section
variable {w : World} {Z : Nat -> Prop} {B : Nat -> Value} {n : Nat}
theorem RCs.append : ∀ {cs cs' : List C} {vs vs' : List Value}, RCs w Z B cs vs -> RCs w Z B cs' vs' -> RCs w Z B (cs ++ cs') (vs ++ vs')
  | [], _, _, _, h, h' => by rw [show _ = _ from h]; exact h'
  | _ :: _, _, _, vs', ⟨v, vs1, e, h1, h2⟩, h' => ⟨v, vs1 ++ vs', by rw [e]; rfl, h1, RCs.append h2 h'⟩
theorem Q8 : ∀ {t : Ty} {cs : List Value} {x : t.den}, Rep t w Z cs x -> RCs w Z B (explode t x) cs
  | .int k, _, _, h => ⟨_, [], h.1, ⟨rfl, h.2⟩, rfl⟩
  | .bool, _, _, h => ⟨_, [], h, rfl, rfl⟩
  | .str, _, _, h => ⟨_, [], h, rfl, rfl⟩
  | .unit, _, _, h => h
  | .pair a b, _, _, ⟨c1, c2, e, h1, h2⟩ => by rw [e]; exact (Q8 h1).append (Q8 h2)
  | .sl t, _, _, h => by
    obtain ⟨a, cap, e, r⟩ := h
    exact ⟨_, [], e, ⟨a, cap, rfl, r⟩, rfl⟩
  | .ptr t, _, _, h => by
    obtain ⟨b, o, ec, e, r⟩ := h
    exact ⟨_, [], e, ⟨b, o, ec, rfl, r⟩, rfl⟩
  | .mp ka kt va vt, _, _, h => by
    rcases h with ⟨e, h⟩ | ⟨b, es, cl, e, h⟩
    . exact ⟨_, [], e, .inl ⟨rfl, h⟩, rfl⟩
    . exact ⟨_, [], e, .inr ⟨b, es, cl, rfl, h⟩, rfl⟩
theorem D3 : ∀ {t : Ty} {x : t.den}, ∀ c ∈ explode t x, B0s n c
  | .int k, _, c, h => by simp [explode] at h; subst h; trivial
  | .bool, _, c, h => by simp [explode] at h; subst h; trivial
  | .str, _, c, h => by simp [explode] at h; subst h; trivial
  | .unit, _, c, h => by simp [explode] at h
  | .pair a b, x, c, h => by
    simp only [explode, List.mem_append] at h
    rcases h with h | h
    . exact D3 c h
    . exact D3 c h
  | .sl t, _, c, h => by simp [explode] at h; subst h; trivial
  | .ptr t, _, c, h => by simp [explode] at h; subst h; trivial
  | .mp _ _ _ _, _, c, h => by simp [explode] at h; subst h; trivial
theorem D5g {t : Ty} {c : C} {x : t.den} {v : Value} (h : RC w Z B c v) (ha : E8z t c = some x) : Rep t w Z [v] x := by
  unfold E8z at ha
  split at ha
  . rename_i t' x'
    split at ha
    . rename_i e; subst e; cases ha; exact h
    . cases ha
  . split at ha
    . cases ha
      rw [show v = _ from h.1]
      exact ⟨none, 0, rfl, Nat.le_refl _, Nat.zero_le _, fun _ => rfl, .inl rfl⟩
    . cases ha
  . split at ha
    . cases ha
      rw [show v = _ from h.1]
      exact .inl ⟨rfl, rfl⟩
    . cases ha
  . rename_i t' x'
    split at ha
    . rename_i e; subst e; cases ha
      obtain ⟨b, o, ec, e, hb, hc, hr⟩ := h
      exact ⟨b, o, ec, by rw [e]; rfl, hb, hc, hr⟩
    . cases ha
  . cases ha
theorem F7r : ∀ {t : Ty} {cs r : List C} {vs : List Value} {x : t.den}, RCs w Z B cs vs -> D0m t cs = some (x, r) -> ∃ v1 v2, vs = v1 ++ v2 /\ Rep t w Z v1 x /\ RCs w Z B r v2 := by
  have one : ∀ (t : Ty) {cs r : List C} {vs : List Value} {x : t.den} (c : C), RCs w Z B (c :: cs) vs -> (E8z t c).map (fun x => (x, cs)) = some (x, r) -> ∃ v1 v2, vs = v1 ++ v2 /\ Rep t w Z v1 x /\ RCs w Z B r v2 := by
    intro t cs r vs x c h hp
    obtain ⟨v, vs', e, h1, h2⟩ := h
    cases ha : E8z t c with
    | none => simp [ha] at hp
    | some y =>
      simp [ha] at hp
      obtain ⟨rfl, rfl⟩ := hp
      exact ⟨[v], vs', e, D5g h1 ha, h2⟩
  intro t
  induction t with
  | pair a b iha ihb =>
    intro cs r vs x h hp
    simp only [D0m] at hp
    cases h1 : D0m a cs with
    | none => simp [h1] at hp
    | some y =>
      simp only [h1, Option.bind_some] at hp
      cases h2 : D0m b y.2 with
      | none => simp [h2] at hp
      | some z =>
        simp [h2] at hp
        obtain ⟨rfl, rfl⟩ := hp
        obtain ⟨v1, v2, e, r1, r2⟩ := iha h (by rw [h1])
        obtain ⟨v3, v4, e', r3, r4⟩ := ihb r2 (by rw [h2])
        exact ⟨v1 ++ v3, v4, by rw [e, e']; simp, ⟨v1, v3, rfl, r1, r3⟩, r4⟩
  | unit => intro cs r vs x h hp; simp [D0m] at hp; subst hp; exact ⟨[], vs, rfl, rfl, h⟩
  | int k => intro cs r vs x h hp; cases cs with
    | nil => simp [D0m] at hp
    | cons c cs => exact one _ c h hp
  | bool => intro cs r vs x h hp; cases cs with
    | nil => simp [D0m] at hp
    | cons c cs => exact one _ c h hp
  | str => intro cs r vs x h hp; cases cs with
    | nil => simp [D0m] at hp
    | cons c cs => exact one _ c h hp
  | sl t _ => intro cs r vs x h hp; cases cs with
    | nil => simp [D0m] at hp
    | cons c cs => exact one _ c h hp
  | ptr t _ => intro cs r vs x h hp; cases cs with
    | nil => simp [D0m] at hp
    | cons c cs => exact one _ c h hp
  | mp ka kt va vt _ _ => intro cs r vs x h hp; cases cs with
    | nil => simp [D0m] at hp
    | cons c cs => exact one _ c h hp
theorem A3s {t : Ty} {cs : List C} {vs : List Value} {x : t.den} (h : RCs w Z B cs vs) (hp : D0m t cs = some (x, [])) : Rep t w Z vs x := by
  obtain ⟨v1, v2, e, h1, h2⟩ := F7r h hp
  rw [show v2 = [] from h2, List.append_nil] at e
  rw [e]; exact h1
theorem A0m {a : Bool} {t : Ty} {s : SV} {v : Value} {x : t.den} (h : RS w Z B s v) (hp : B4c a t s = some x) : A7z a t w Z v x := by
  obtain ⟨sa, cs⟩ := s
  unfold B4c at hp
  cases he : (sa == a) with
  | false => simp [he] at hp
  | true =>
    simp only [he, cond_true] at hp
    have : sa = a := by simpa using he
    subst this
    split at hp
    . rename_i y hy
      cases hp
      cases sa with
      | true => obtain ⟨vs, e, h⟩ := h; exact ⟨vs, e, A3s h hy⟩
      | false => exact A3s (vs := [v]) h hy
    . cases hp
theorem A7z.explode {a : Bool} {t : Ty} {v : Value} {x : t.den} (h : A7z a t w Z v x) : RS w Z B ⟨a, explode t x⟩ v := by
  cases a with
  | true => obtain ⟨cs, e, h⟩ := h; exact ⟨cs, e, Q8 h⟩
  | false => exact Q8 (cs := [v]) h
theorem RCs.len : ∀ {cs : List C} {vs : List Value}, RCs w Z B cs vs -> cs.length = vs.length
  | [], _, h => by rw [show _ = _ from h]; rfl
  | _ :: _, _, ⟨v, vs', e, _, h2⟩ => by rw [e, List.length_cons, List.length_cons, RCs.len h2]
theorem RCs.drop : ∀ {cs : List C} {vs : List Value} (i : Nat), RCs w Z B cs vs -> RCs w Z B (cs.drop i) (vs.drop i)
  | cs, vs, 0, h => h
  | [], _, i + 1, h => by rw [show _ = _ from h]; simp; rfl
  | _ :: _, _, i + 1, ⟨v, vs', e, _, h2⟩ => by rw [e]; simp only [List.drop_succ_cons]; exact RCs.drop i h2
theorem RCs.take : ∀ {cs : List C} {vs : List Value} (i : Nat), RCs w Z B cs vs -> RCs w Z B (cs.take i) (vs.take i)
  | cs, vs, 0, h => by simp; rfl
  | [], _, i + 1, h => by rw [show _ = _ from h]; simp; rfl
  | _ :: _, _, i + 1, ⟨v, vs', e, h1, h2⟩ => by rw [e]; simp only [List.take_succ_cons]; exact ⟨v, _, rfl, h1, RCs.take i h2⟩
end
def F1i (op : BinOp) (k : IntKind) (a b : Int) : Option (Option Prop × C) :=
  match op with
  | .add => some (none, .val (.int k) (k.wrap (a + b)))
  | .sub => some (none, .val (.int k) (k.wrap (a - b)))
  | .mul => some (none, .val (.int k) (k.wrap (a * b)))
  | .quo => some (some (b ≠ 0), .val (.int k) (k.wrap (a.tdiv b)))
  | .rem => some (some (b ≠ 0), .val (.int k) (a.tmod b))
  | .and => some (none, .val (.int k) (k.wrap (BitVec.ofInt k.bits a &&& BitVec.ofInt k.bits b).toNat))
  | .or => some (none, .val (.int k) (k.wrap (BitVec.ofInt k.bits a ||| BitVec.ofInt k.bits b).toNat))
  | .xor => some (none, .val (.int k) (k.wrap (BitVec.ofInt k.bits a ^^^ BitVec.ofInt k.bits b).toNat))
  | .eql => some (none, .val .bool (decide (a = b)))
  | .neq => some (none, .val .bool (decide (a ≠ b)))
  | .lss => some (none, .val .bool (decide (a < b)))
  | .leq => some (none, .val .bool (decide (a <= b)))
  | .gtr => some (none, .val .bool (decide (b < a)))
  | .geq => some (none, .val .bool (decide (b <= a)))
  | _ => none
def G2j (op : BinOp) : C -> C -> Option (Option Prop × C)
  | .val (.int k) a, .val (.int k') b =>
    match op with
    | .shl => some (some (0 <= b), .val (.int k) (k.wrap (a * 2 ^ (min b.toNat k.bits))))
    | .shr => some (some (0 <= b), .val (.int k) (a.fdiv (2 ^ (min b.toNat k.bits))))
    | op => bif decide (k = k') then F1i op k a b else none
  | .val .bool a, .val .bool b =>
    match op with
    | .eql => some (none, .val .bool (a == b))
    | .neq => some (none, .val .bool (a != b))
    | _ => none
  | _, _ => none
section
variable {za : Zn} {w0 w : World} {Z : Nat -> Prop} {B : Nat -> Value} {P : Program} {E : Env}
theorem G3a {ty : TypeId} {T T' : TypeId} {x y : Operand} {a b : Bool} (hx : Gw.ev E x = .bool a) (hy : Gw.ev E y = .bool b) (hT : P.underlying T = some .bool) : Gw.G3 P E ty (.binOp .eql T x y T') w (.bool (a == b)) w := fun _ _ _ _ => by
  have h1 := run_equalIn_bool' (P := P) w 9999 T a b hT
  have hg : (eqGuard .eql T x y (.bool a) (.bool b)).run P w = .ok () w := rfl
  have h2 : (binOp .eql T (.bool a) (.bool b)).run P w = .ok (.bool (a == b)) w := by
    show ((Op.equal T (.bool a) (.bool b)) >>= fun r => pure (Value.bool r)).run P w = _
    unfold Op.equal Op.maxDepth
    rw [Sem.run_bind, h1]
    rfl
  simp only [execOp, hx, hy]
  simp [hg, h2]
theorem F4q {T : TypeId} (h : isB P T = true) : P.underlying T = some .bool := by
  unfold isB at h; split at h
  . assumption
  . cases h
theorem E9l {op : BinOp} {k : IntKind} {a b : Int} {φ : Option Prop} {c : C} (h : F1i op k a b = some (φ, c)) (hφ : okP φ) (ha : inR k a) : ∃ v, (∀ (w' : World) (T : TypeId), (binOp op T (.int k a) (.int k b)).run P w' = .ok v w') /\ RC w Z B c v /\ ∀ n, B0s n c := by
  cases op <;> simp only [F1i, Option.some.injEq, Prod.mk.injEq, reduceCtorEq] at h <;> (try exact h.elim) <;> obtain ⟨rfl, rfl⟩ := h
  case rem => exact ⟨_, fun w' T => by simp [binOp, Op.intDiv, show b ≠ 0 from hφ, go_sem], ⟨rfl, F5l ha⟩, fun _ => trivial⟩
  case quo => exact ⟨_, fun w' T => by simp [binOp, Op.intDiv, show b ≠ 0 from hφ, go_sem], ⟨rfl, A8u _ _⟩, fun _ => trivial⟩
  case add | sub | mul => exact ⟨_, fun w' T => by simp [binOp, Op.intArith, go_sem], ⟨rfl, A8u _ _⟩, fun _ => trivial⟩
  case and | or | xor => exact ⟨_, fun w' T => by simp [binOp, Op.intBits, go_sem], ⟨rfl, A8u _ _⟩, fun _ => trivial⟩
  all_goals exact ⟨.bool _, fun w' T => by simp [binOp, Op.intCmp, go_sem]; try rfl, rfl, fun _ => trivial⟩
theorem F8x {op : BinOp} {x y : Operand} {cx cy c : C} {φ : Option Prop} {T T' ty : TypeId} (h : G2j op cx cy = some (φ, c)) (hφ : okP φ) (hx : RC w Z B cx (Gw.ev E x)) (hy : RC w Z B cy (Gw.ev E y)) (hT : isB P T = true \/ ∀ e, cx ≠ .val .bool e) :
    ∃ v, (∀ w', Gw.G3 P E ty (.binOp op T x y T') w' v w') /\ RC w Z B c v /\ ∀ n, B0s n c := by
  unfold G2j at h
  split at h
  . rename_i k a k' b
    obtain ⟨hx, ha⟩ := hx
    obtain ⟨hy, hb⟩ := hy
    simp only [List.cons.injEq, and_true] at hx hy
    split at h
    . cases h
      have hb0 : ¬ b < 0 := Int.not_lt.2 hφ
      have hv : ∀ w', Gw.G3 P E ty (.binOp .shl T x y T') w' (.int k (k.wrap (a * 2 ^ (min b.toNat k.bits)))) w' := fun w' => F8n hx hy (by simp [binOp, Op.shift, hb0, go_sem])
      exact ⟨_, hv, ⟨rfl, A8u _ _⟩, fun _ => trivial⟩
    . cases h
      have hb0 : ¬ b < 0 := Int.not_lt.2 hφ
      have hv : ∀ w', Gw.G3 P E ty (.binOp .shr T x y T') w' (.int k (a.fdiv (2 ^ (min b.toNat k.bits)))) w' := fun w' => F8n hx hy (by simp [binOp, Op.shift, hb0, go_sem])
      exact ⟨_, hv, ⟨rfl, F5g _ ha⟩, fun _ => trivial⟩
    . cases hk : decide (k = k') with
      | false => simp [hk] at h
      | true =>
        simp only [hk, cond_true] at h
        have := of_decide_eq_true hk
        subst this
        obtain ⟨v, h1, h2⟩ := E9l (P := P) (w := w) (Z := Z) (B := B) h hφ ha
        exact ⟨v, fun w' => F8n hx hy (h1 w' T), h2⟩
  . rename_i a b
    have hx : Gw.ev E x = .bool a := by simpa [RC, Rep] using hx
    have hy : Gw.ev E y = .bool b := by simpa [RC, Rep] using hy
    have hu : P.underlying T = some .bool := by
      rcases hT with hT | hT
      . exact F4q hT
      . exact absurd rfl (hT a)
    split at h
    . cases h; exact ⟨_, fun w' => G3a hx hy hu, rfl, fun _ => trivial⟩
    . cases h; exact ⟨_, fun w' => G2o hx hy hu, rfl, fun _ => trivial⟩
    . cases h
  . cases h
end
structure Cx where
  P : Program
  tys : List (Nat × TI)
def A8n {α : Type} (s : Nat) : List (Nat × α) -> Option α
  | [] => none
  | (t, x) :: l => bif Nat.beq t s then some x else A8n s l
def Cx.ti (cx : Cx) (T : TypeId) : Option TI := A8n T cx.tys
def R2 (P : Program) : List (Nat × TI) -> Bool
  | [] => true
  | (T, ti) :: l => D5i P T ti && R2 P l
theorem B7 {P : Program} : ∀ {l : List (Nat × TI)}, R2 P l = true -> ∀ {T : TypeId} {ti : TI}, A8n T l = some ti -> D5i P T ti = true
  | (T', ti') :: l, h, T, ti, hf => by
    simp only [R2, Bool.and_eq_true] at h
    simp only [A8n] at hf
    cases hb : Nat.beq T' T with
    | true => simp [hb] at hf; have := Nat.eq_of_beq_eq_true hb; subst hf this; exact h.1
    | false => simp [hb] at hf; exact B7 h.2 hf
def c1 : SV -> Option C
  | ⟨false, [c]⟩ => some c
  | _ => none
def faC (off : Nat) : C -> Option C
  | .box k o => some (.box k (o + off))
  | .elp k sz i o => some (.elp k sz i (o + off))
  | .pf t x o => some (.pf t x (o + off))
  | _ => none
def cut (off n : Nat) (cs : List C) : Option (List C) := (fun s => bif Nat.beq s.length n then some s else none) ((cs.drop off).take n)
def E0h (q : Nat) : List (Nat × Nat) -> Option Nat
  | [] => none
  | (i, p) :: r => bif Nat.beq p q then some i else E0h q r
def G1v (st : St) (k : Nat) : Option ((t : Ty) × List t.den) := match st.L k with
  | .row t _ l => some ⟨t, l⟩
  | .al j => match st.L j with
    | .rows t _ _ ls al none => (E0h k al).map fun i => ⟨t, ls.getD i []⟩
    | _ => none
  | _ => none
def hdC (st : St) (k : Nat) : Option ((t : Ty) × List t.den) := match st.L k with
  | .rows t _ _ ls _ _ => some ⟨.sl t, ls⟩
  | _ => G1v st k
def F7y (st : St) (n : Nat) : C -> Option (List C)
  | .box k off => match st.L k with
    | .box _ cs => cut off n cs
    | .sbox q t x => bif Nat.beq q k then cut off n (explode t x) else none
    | _ => none
  | .pf t x off => cut off n (explode t x)
  | .elp k sz i off => match G1v st k with
    | some ⟨t, l⟩ => bif Nat.beq sz t.size then cut off n (explode t (l.getD i t.dflt)) else none
    | none => none
  | _ => none
def gx {α : Type} (d : α) (l : List α) (i : Int) : α := l.getD i.toNat d
def G2l (st : St) (i : Int) : C -> Option (Option Prop × C)
  | .val (.sl t) l => some (some (0 <= i /\ i < (l.length : Int)), .pf t (gx t.dflt l i) 0)
  | .row k => match hdC st k with
    | some ⟨t, l⟩ => some (some (0 <= i /\ i < (l.length : Int)), .elp k t.size i.toNat 0)
    | none => none
  | .win k sz lo hi => some (some (0 <= i /\ i < hi - lo), .elp k sz (lo + i).toNat 0)
  | _ => none
def G2k (st : St) : C -> Option Int
  | .val (.sl _) l => some (l.length : Int)
  | .row k => match hdC st k with
    | some ⟨_, l⟩ => some (l.length : Int)
    | none => none
  | .mp k => match st.L k with
    | .map _ _ _ _ es => some (es.length : Int)
    | _ => none
  | .raw (.slice none 0 0) => some 0
  | .win _ _ lo hi => some (hi - lo)
  | _ => none
def F2y : SV -> Option Int
  | ⟨false, [.val (.int _) n]⟩ => some n
  | _ => none
def F1u (st : St) (lo hi : Option Int) : C -> Option (Option Prop × C)
  | .val (.sl t) l => some (some (0 <= lo.getD 0 /\ lo.getD 0 <= hi.getD (l.length : Int) /\ hi.getD (l.length : Int) <= (l.length : Int)), .val (.sl t) ((l.take (hi.getD (l.length : Int)).toNat).drop (lo.getD 0).toNat))
  | .row k => match st.L k with
    | .row t _ l => some (some (0 <= lo.getD 0 /\ lo.getD 0 <= hi.getD (l.length : Int) /\ hi.getD (l.length : Int) <= (l.length : Int)), .win k t.size (lo.getD 0) (hi.getD (l.length : Int)))
    | _ => none
  | _ => none
def G2c : Op -> Bool
  | .load _ _ => true
  | .lookup _ _ _ _ => true
  | _ => false
section
variable {za : Zn} {w0 w : World} {Z : Nat -> Prop} {B : Nat -> Value} {st : St} {E : Env} {P : Program}
def POk (P : Program) (st : St) (E : Env) (w : World) (Z : Nat -> Prop) (B : Nat -> Value) (ty : TypeId) (op : Op) (d : DV) : Prop :=
  ∃ v, (∀ w', (G2c op = true -> Ext w w') -> Gw.G3 P E ty op w' v w') /\ (∀ E', RD w Z B E' d v) /\ E5f st.nx d
theorem B9j {ty : TypeId} {op : Op} {c : C} {v : Value} (hy : ∀ w', (G2c op = true -> Ext w w') -> Gw.G3 P E ty op w' v w') (hc : RC w Z B c v) (hr : B0s st.nx c) : POk P st E w Z B ty op (.one ⟨false, [c]⟩) :=
  ⟨v, hy, fun _ => ⟨v, [], rfl, hc, rfl⟩, fun c' hc' => by simp at hc'; subst hc'; exact hr⟩
theorem E9n {s : SV} {c : C} {v : Value} (h : RS w Z B s v) (hr : C8z st.nx s) (hc : c1 s = some c) : RC w Z B c v /\ B0s st.nx c := by
  unfold c1 at hc
  split at hc
  . cases hc
    obtain ⟨_, _, e, h1, _⟩ := h
    cases e
    exact ⟨h1, hr _ (by simp)⟩
  . cases hc
theorem F7o {s : SV} {n : Int} {v : Value} (h : RS w Z B s v) (hc : F2y s = some n) : ∃ k, v = .int k n /\ inR k n := by
  unfold F2y at hc
  split at hc
  . cases hc
    obtain ⟨_, _, e, h1, _⟩ := h
    cases e
    obtain ⟨h1, h2⟩ := h1
    simp only [List.cons.injEq, and_true] at h1
    exact ⟨_, h1, h2⟩
  . cases hc
theorem G2v {T ty : TypeId} {x : Operand} {c c' : C} {f off : Nat} (hf : D4z P T f off = true) (hx : RC w Z B c (Gw.ev E x)) (hr : B0s st.nx c) (h : faC off c = some c') : POk P st E w Z B ty (.fieldAddr T x f) (.one ⟨false, [c']⟩) := by
  unfold faC at h
  split at h <;> cases h
  . obtain ⟨b, e, hv⟩ := hx
    exact B9j (fun w' _ => B7o hv hf) ⟨b, e, rfl⟩ hr
  . obtain ⟨b, m, cap, e, hi, hv⟩ := hx
    exact B9j (fun w' _ => B7o hv hf) ⟨b, m, cap, e, hi, by rw [Nat.add_assoc]⟩ hr
  . obtain ⟨b, o, ec, e, hz, hc, hx⟩ := hx
    exact B9j (fun w' _ => B7o e hf) ⟨b, o, ec, by rw [Nat.add_assoc], hz, hc, hx⟩ hr
theorem E1l {cs cs' : List C} {vs : List Value} {off n : Nat} (h : RCs w Z B cs vs) (hc : cut off n cs = some cs') : RCs w Z B cs' ((vs.drop off).take n) /\ ((vs.drop off).take n).length = n /\ ∀ c ∈ cs', c ∈ cs := by
  unfold cut at hc
  have h1 := (h.drop off).take n
  cases hb : Nat.beq ((cs.drop off).take n).length n with
  | false => simp only [hb, cond_false] at hc; cases hc
  | true =>
    simp only [hb, cond_true, Option.some.injEq] at hc
    subst hc
    exact ⟨h1, by rw [<- h1.len]; exact Nat.eq_of_beq_eq_true hb, fun c hc => List.mem_of_mem_drop (List.mem_of_mem_take hc)⟩
theorem C7l {T ty : TypeId} {x : Operand} {b o : Nat} {cs : List C} {vs : List Value} {agg : Bool} (hv : Gw.ev E x = .pointer (some ⟨b, o, none⟩)) (hb : b < w.heap.size) (hc : M6 w ⟨b, o, none⟩ vs) (hr : RCs w Z B cs vs) (hn : ∀ c ∈ cs, B0s st.nx c)
    (ht : (agg = true /\ F6z P T vs.length = true) \/ (agg = false /\ A4k P T = true /\ vs.length = 1)) : POk P st E w Z B ty (.load T x) (.one ⟨agg, cs⟩) := by
  have hc' : ∀ w', Ext w w' -> M6 w' ⟨b, o, none⟩ vs := fun w' hx j v hj => by
    have := hc j v hj
    rw [N2] at this ⊢
    rw [<- this]
    exact World.cell?_of_block (hx.block b hb)
  rcases ht with ⟨rfl, ht⟩ | ⟨rfl, ht, hl⟩
  . exact ⟨.agg vs.toArray, fun w' hx => E8r hv ht rfl (hc' w' (hx rfl)), fun _ => ⟨vs, rfl, hr⟩, hn⟩
  . match vs, hl with
    | [v], _ =>
      refine ⟨v, fun w' hx => F6c hv ht ?_, fun _ => hr, hn⟩
      have := hc' w' (hx rfl) 0 v rfl
      rwa [N2] at this
theorem B2f {q i : Nat} : ∀ {al : List (Nat × Nat)}, E0h q al = some i -> (i, q) ∈ al
  | [], h => by cases h
  | (j, p) :: r, h => by
    simp only [E0h] at h
    cases hb : Nat.beq p q with
    | true => simp only [hb, cond_true, Option.some.injEq] at h; have := Nat.eq_of_beq_eq_true hb; subst this; subst h; simp
    | false => simp only [hb, cond_false] at h; exact List.mem_cons_of_mem _ (B2f h)
theorem F2g {U : Nat -> Prop} {t : Ty} {k e e' i q : Nat} {ls : List (List t.den)} {al : List (Nat × Nat)} (h : RL U w Z B k (.rows t e e' ls al none)) (hq : E0h q al = some i) :
    ∃ xs ys, w.ownsRow 0 e 1 (B k) ls.length xs /\ xs[i]? = some (B q) /\ ls[i]? = some (ls.getD i []) /\ w.ownsRow 0 e' t.size (B q) (ls.getD i []).length ys /\ Q3 (Rep t w Z) ys (ls.getD i []) := by
  obtain ⟨xs, h1, ⟨h2, h3, h4⟩, h5, h6⟩ := h
  have hx := h2 _ (B2f hq)
  have hil : i < ls.length := by have := (List.getElem?_eq_some_iff.1 hx).1; have h0 := h1.1; omega
  have hls : ls[i]? = some (ls.getD i []) := by rw [List.getD_eq_getElem?_getD, List.getElem?_eq_getElem hil]; rfl
  obtain ⟨ys, g1, g2⟩ := h3 i _ _ rfl hls hx
  exact ⟨xs, ys, h1, hx, hls, g1, g2⟩
theorem F2l (h : Rel za w0 st E w Z B) {k : Nat} {t : Ty} {l : List t.den} (hr : G1v st k = some ⟨t, l⟩) : ∃ e xs, w.ownsRow 0 e t.size (B k) l.length xs /\ Q3 (Rep t w Z) xs l := by
  unfold G1v at hr
  split at hr
  . rename_i t' e l' hk
    cases hr
    have hL := h.locs k
    rw [hk] at hL
    obtain ⟨xs, hown, heach, _⟩ := hL
    exact ⟨e, xs, hown, heach⟩
  . rename_i j hk
    split at hr
    . rename_i t' e e' ls al hj
      simp only [Option.map_eq_some_iff] at hr
      obtain ⟨i, hi, hr⟩ := hr
      cases hr
      have hL := h.locs j
      rw [hj] at hL
      obtain ⟨_, ys, _, _, _, g1, g2⟩ := F2g hL hi
      exact ⟨e', ys, g1, g2⟩
    . cases hr
  . cases hr
theorem F6y (h : Rel za w0 st E w Z B) {k : Nat} {t : Ty} {l : List t.den} (hr : hdC st k = some ⟨t, l⟩) : ∃ e xs, w.ownsRow 0 e t.size (B k) l.length xs := by
  unfold hdC at hr
  split at hr
  . rename_i t' e e' ls al ho hk
    cases hr
    have hL := h.locs k
    rw [hk] at hL
    obtain ⟨xs, hown, _⟩ := hL
    exact ⟨e, xs, hown⟩
  . obtain ⟨e, xs, hown, _⟩ := F2l h hr
    exact ⟨e, xs, hown⟩
theorem F9t (h : Rel za w0 st E w Z B) {T ty : TypeId} {x : Operand} {c : C} {cs : List C} {n : Nat} {agg : Bool} (hx : RC w Z B c (Gw.ev E x)) (hl : F7y st n c = some cs)
    (ht : (agg = true /\ F6z P T n = true) \/ (agg = false /\ A4k P T = true /\ n = 1)) : POk P st E w Z B ty (.load T x) (.one ⟨agg, cs⟩) := by
  unfold F7y at hl
  split at hl
  . rename_i k off
    split at hl
    . rename_i ty' cs0 hk
      have hL := h.locs k
      have hR := h.refl k
      rw [hk] at hL hR
      obtain ⟨b, vs, e, _, _, hblk, hcs⟩ := hL
      obtain ⟨b', e', hv⟩ := hx
      rw [e] at e'; cases e'
      obtain ⟨h1, h2, h3⟩ := E1l hcs hl
      have := R3 hblk.cellsAt off n
      rw [Nat.zero_add] at this
      exact C7l hv hblk.lt this h1 (fun c hc => hR c (h3 c hc)) (by rw [h2]; exact ht)
    . rename_i q t y hk
      cases hqk : Nat.beq q k with
      | false => simp only [hqk, cond_false] at hl; cases hl
      | true =>
        simp only [hqk, cond_true] at hl
        have := Nat.eq_of_beq_eq_true hqk
        subst this
        have hL := h.locs q
        rw [hk] at hL
        obtain ⟨_, ⟨b, o, ec, e1, hz, hc, hrep⟩, _⟩ := hL
        simp only [List.cons.injEq, and_true] at e1
        obtain ⟨b', e', hv⟩ := hx
        rw [e1] at e'
        cases e'
        obtain ⟨h1, h2, h3⟩ := E1l (Q8 (B := B) hrep) hl
        have hcs := R3 hc off n
        rw [Nat.zero_add] at hcs
        exact C7l hv (h.zlt _ hz) hcs h1 (fun c hc => D3 c (h3 c hc)) (by rw [h2]; exact ht)
    . cases hl
  . rename_i t y off
    obtain ⟨b, o, ec, hv, hz, hc, hrep⟩ := hx
    obtain ⟨h1, h2, h3⟩ := E1l (Q8 (B := B) hrep) hl
    exact C7l hv (h.zlt b hz) (R3 hc off n) h1 (fun c hc => D3 c (h3 c hc)) (by rw [h2]; exact ht)
  . rename_i k sz i off
    split at hl
    . rename_i t l hk
      cases hsz : Nat.beq sz t.size with
      | false => simp [hsz] at hl
      | true =>
        simp only [hsz, cond_true] at hl
        have hs := Nat.eq_of_beq_eq_true hsz
        subst hs
        obtain ⟨e, xs, hown, heach⟩ := F2l h hk
        obtain ⟨b, m, cap, hB, hi, hv⟩ := hx
        rw [hB] at hown
        have hm : m = l.length := by
          rcases hown.2 with ⟨hh, _⟩ | ⟨_, _, _, hh, _⟩ <;> cases hh
          rfl
        subst hm
        have hget := Q3.get (fun _ _ h => Rep.length h) heach (List.getElem?_eq_getElem hi)
        have hgd : l.getD i t.dflt = l[i] := by rw [List.getD_eq_getElem?_getD, List.getElem?_eq_getElem hi]; rfl
        rw [hgd] at hl
        obtain ⟨h1, h2, h3⟩ := E1l (Q8 (B := B) hget) hl
        have hblt := (World.ownsRow.lt hown b rfl).2
        have hcells : M6 w ⟨b, 0, none⟩ xs := fun j v hj => by
          rcases hown.2 with ⟨hh, _⟩ | ⟨g, cap', cur, hh, _, hg, _, _, _, htk⟩
          . cases hh
          . cases hh
            rw [N2, Nat.zero_add]
            simp only [World.cell?, hg]
            rw [<- htk, List.getElem?_take] at hj
            split at hj
            . simpa using hj
            . cases hj
        have hsub := R3 (R3 hcells (i * t.size) t.size) off n
        rw [Nat.zero_add] at hsub
        exact C7l hv hblt hsub h1 (fun c hc => D3 c (h3 c hc)) (by rw [h2]; exact ht)
    . cases hl
  . cases hl
theorem M7 {α : Type} {d : α} {l : List α} {i : Int} (h0 : 0 <= i) (h1 : i < (l.length : Int)) : l[i.toNat]? = some (gx d l i) := by
  have hlt : i.toNat < l.length := by omega
  rw [gx, List.getD_eq_getElem?_getD, List.getElem?_eq_getElem hlt]; rfl
theorem F5w (h : Rel za w0 st E w Z B) {T ty e : TypeId} {x ix : Operand} {c c' : C} {i : Int} {φ : Option Prop} {kd : IntKind} (hx : RC w Z B c (Gw.ev E x)) (hi' : Gw.ev E ix = .int kd i) (hc : G2l st i c = some (φ, c')) (hφ : okP φ)
    (hT : ∀ s, (∃ t y, c' = .pf t y 0 /\ s = t.size) \/ (∃ k j, c' = .elp k s j 0) -> A5m P T e s = true) (hr : B0s st.nx c) : POk P st E w Z B ty (.indexAddr T x ix) (.one ⟨false, [c']⟩) := by
  unfold G2l at hc
  split at hc
  . rename_i t l
    cases hc
    obtain ⟨h0, h1⟩ := hφ
    have hsl := hT t.size (.inl ⟨t, _, rfl, rfl⟩)
    obtain ⟨a, cap, he, hcap, hmx, hnn, hh⟩ := hx
    simp only [List.cons.injEq, and_true] at he
    have hg := M7 (d := t.dflt) h0 h1
    rcases hh with hh | ⟨b, o, ec, ha, hz, hcells, heach⟩
    . subst hh; simp at h1; omega
    . subst ha
      have hget := Q3.get (fun _ _ h => Rep.length h) heach hg
      refine B9j (v := .pointer (some ⟨b, o + i.toNat * t.size + 0, none⟩)) (fun w' _ => ?_) ⟨b, o + i.toNat * t.size, _, rfl, hz, R3 hcells _ t.size, hget⟩ trivial
      have := F9h (P := P) (w := w') (ty := ty) (sz := t.size) he hi' hsl h0 h1
      rwa [N2] at this
  . rename_i k
    split at hc
    . rename_i t l hk
      cases hc
      obtain ⟨h0, h1⟩ := hφ
      have hsl := hT t.size (.inr ⟨_, _, rfl⟩)
      obtain ⟨e', xs, hown⟩ := F6y h hk
      rcases hown.2 with ⟨_, hn⟩ | ⟨g, cap, cur, hB, _⟩
      . rw [hn] at h1; omega
      . have hxv : Gw.ev E x = .slice (some ⟨g, 0, none⟩) l.length cap := (show Gw.ev E x = B k from hx).trans hB
        refine B9j (v := .pointer (some ⟨g, i.toNat * t.size + 0, none⟩)) (fun w' _ => ?_) ⟨g, l.length, cap, hB, by omega, rfl⟩ hr
        have := F9h (P := P) (w := w') (ty := ty) (sz := t.size) hxv hi' hsl h0 h1
        rwa [N2, Nat.zero_add] at this
    . cases hc
  . rename_i k sz lo hi
    cases hc
    obtain ⟨h0, h1⟩ := hφ
    have hsl := hT sz (.inr ⟨_, _, rfl⟩)
    obtain ⟨a, n, cap, hB, ga, gn, g0, g1, g2, g3, g4, hv⟩ := hx
    have hne : ¬ cap = lo.toNat := by omega
    rw [if_neg hne] at hv
    obtain ⟨g, rfl⟩ : ∃ g, a = some ⟨g, 0, none⟩ := by
      cases a with
      | none => have := gn rfl; omega
      | some x => obtain ⟨g, rfl⟩ := ga x rfl; exact ⟨g, rfl⟩
    have hxv : Gw.ev E x = .slice (some ⟨g, lo.toNat * sz, none⟩) (hi.toNat - lo.toNat) (cap - lo.toNat) := by
      rw [hv, Option.map_some, N2, Nat.zero_add]
    refine B9j (v := .pointer (some ⟨g, (lo + i).toNat * sz + 0, none⟩)) (fun w' _ => ?_) ⟨g, n, cap, hB, by omega, rfl⟩ hr
    have := F9h (P := P) (w := w') (ty := ty) (sz := sz) hxv hi' hsl h0 (by omega)
    rw [N2] at this
    rw [show (lo + i).toNat * sz + 0 = lo.toNat * sz + i.toNat * sz by rw [<- Nat.add_mul, show (lo + i).toNat = lo.toNat + i.toNat by omega, Nat.add_zero]]
    exact this
  . cases hc
theorem G0m (h : Rel za w0 st E w Z B) {T ty e : TypeId} {s : Nat} {x : Operand} {c : C} {n : Int} (hx : RC w Z B c (Gw.ev E x)) (hn : G2k st c = some n) (ht : A5m P T e s = true) (hnm : ∀ k, c ≠ .mp k) :
    POk P st E w Z B ty (.call ⟨.builtin .len, #[x], #[T]⟩) (.one ⟨false, [.val (.int .i64) n]⟩) := by
  have mk : ∀ (a : Option Addr) (m cap : Nat), Gw.ev E x = .slice a m cap -> m <= maxLen -> POk P st E w Z B ty (.call ⟨.builtin .len, #[x], #[T]⟩) (.one ⟨false, [.val (.int .i64) (m : Int)]⟩) := fun a m cap hv hm =>
    B9j (fun w' _ => G2t hv ht) ⟨rfl, by
      unfold inR
      have h1 : IntKind.i64.min = -9223372036854775808 := by decide
      have h2 : IntKind.i64.max = 9223372036854775807 := by decide
      simp only [maxLen] at hm
      omega⟩ trivial
  unfold G2k at hn
  split at hn
  . cases hn
    obtain ⟨a, cap, he, hcap, hmx, _⟩ := hx
    simp only [List.cons.injEq, and_true] at he
    exact mk a _ cap he (Nat.le_trans hcap hmx)
  . rename_i k
    split at hn
    . rename_i t l hk
      cases hn
      obtain ⟨e', xs, hown⟩ := F6y h hk
      have hx : Gw.ev E x = B k := hx
      rcases hown.2 with ⟨hv, hn⟩ | ⟨g, cap, cur, hB, _, _, h3, h4, _⟩
      . rw [hn]; exact mk none 0 0 (hx.trans hv) (Nat.zero_le _)
      . exact mk _ _ cap (hx.trans hB) (Nat.le_trans h3 h4)
    . cases hn
  . exact absurd rfl (hnm _)
  . cases hn; exact mk none 0 0 (show _ = _ from hx.1) (Nat.zero_le _)
  . rename_i k sz lo hi
    cases hn
    obtain ⟨a, n, cap, hB, ga, gn, g0, g1, g2, g3, g4, hv⟩ := hx
    have := mk _ _ _ hv (by omega)
    rwa [show ((hi.toNat - lo.toNat : Nat) : Int) = hi - lo by omega] at this
  . cases hn
end
section
variable {za : Zn} {w0 w : World} {Z : Nat -> Prop} {B : Nat -> Value} {st : St} {E : Env} {P : Program}
theorem F1j {T e ty : TypeId} {x : Operand} {lo hi : Option Operand} {a : Option Addr} {len cap size l h : Nat} (hx : Gw.ev E x = .slice a len cap) (ht : A5m P T e size = true)
    (hlo : match lo with | none => l = 0 | some o => ∃ k, Gw.ev E o = .int k (l : Int)) (hhi : match hi with | none => h = len | some o => ∃ k, Gw.ev E o = .int k (h : Int)) (hlh : l <= h) (hhc : h <= cap) (w : World) :
    Gw.G3 P E ty (.slice T x lo hi none) w (.slice (if cap = l then a else a.map (·.add (l * size))) (h - l) (cap - l)) w := fun _ _ _ _ => by
  obtain ⟨hu, hz⟩ := A5c ht
  have h3 := Gw.Z9 (P := P) (w := w) hz
  have b1 : (l : Int) <= (h : Int) := by omega
  have b2 : (h : Int) <= (cap : Int) := by omega
  have hb : (Instr.sliceBounds true len cap (lo.map (Gw.ev E)) (hi.map (Gw.ev E)) none).run P w = .ok (l, h, cap) w := by
    unfold Instr.sliceBounds
    cases hi with
    | none =>
      simp only at hhi; subst hhi
      cases lo with
      | none => simp only at hlo; subst hlo; simp [go_sem]
      | some o => obtain ⟨k, ho⟩ := hlo; simp [Instr.sliceBound, asIntOf, ho, b1, hlh, go_sem]
    | some o' =>
      obtain ⟨k', ho'⟩ := hhi
      cases lo with
      | none => simp only at hlo; subst hlo; simp [Instr.sliceBound, asIntOf, ho', b2, hhc, go_sem]
      | some o => obtain ⟨k, ho⟩ := hlo; simp [Instr.sliceBound, asIntOf, ho, ho', b1, b2, hlh, hhc, go_sem]
  simp only [execOp, hx]
  unfold Instr.sliceAt Instr.slice
  simp only [Sem.run_bind, run_underlying hu, Result.andThen_ok, Option.map_none, hb, h3, Sem.run_pure]
def F9f (E : Env) : Option Operand -> Option Int -> Prop
  | none, i => i = none
  | some o, i => ∃ k j, i = some j /\ Gw.ev E o = .int k j
theorem F2v {t : Ty} {a : Option Addr} {n cap : Nat} {l : List t.den} {L H : Int} (h : Rep (.sl t) w Z [.slice a n cap] l) (h0 : 0 <= L) (h1 : L <= H) (h2 : H <= (n : Int)) :
    Rep (.sl t) w Z [.slice (if cap = L.toNat then a else a.map (·.add (L.toNat * t.size))) (H.toNat - L.toNat) (cap - L.toNat)] ((l.take H.toNat).drop L.toNat) := by
  obtain ⟨a', cap', he, hcap, hmx, hnn, hh⟩ := h
  simp only [List.cons.injEq, and_true, Value.slice.injEq] at he
  obtain ⟨rfl, rfl, rfl⟩ := he
  have hl2 : ((l.take H.toNat).drop L.toNat).length = H.toNat - L.toNat := by simp; omega
  refine ⟨_, _, by rw [hl2], by rw [hl2]; omega, by omega, fun hz => ?_, ?_⟩
  . split at hz
    . omega
    . have := hnn (by simpa using hz); omega
  by_cases hemp : H.toNat = L.toNat
  . left; exact List.eq_nil_of_length_eq_zero (by rw [hl2]; omega)
  . right
    rcases hh with hh | ⟨b, o, ec, ha, hz, hcells, heach⟩
    . subst hh; simp at h2; omega
    . subst ha
      have e1 := Q3.drop (fun _ _ h => Rep.length h) L.toNat (Q3.take (fun _ _ h => Rep.length h) H.toNat heach)
      refine ⟨b, o + L.toNat * t.size, (ec.take (H.toNat * t.size)).drop (L.toNat * t.size), ?_, hz, ?_, e1⟩
      . rw [if_neg (by omega), Option.map_some, N2]
      . have hx1 := R3 hcells 0 (H.toNat * t.size)
        rw [List.drop_zero, Nat.add_zero] at hx1
        have hx2 := R3 hx1 (L.toNat * t.size) ((ec.take (H.toNat * t.size)).drop (L.toNat * t.size)).length
        rwa [List.take_length] at hx2
theorem E6e (h : Rel za w0 st E w Z B) {T ty e : TypeId} {x : Operand} {lo hi : Option Operand} {loI hiI : Option Int} {c c' : C} {φ : Option Prop} (hx : RC w Z B c (Gw.ev E x)) (hc : F1u st loI hiI c = some (φ, c')) (hr : B0s st.nx c) (hφ : okP φ)
    (hlo : F9f E lo loI) (hhi : F9f E hi hiI)
    (ht : ∀ s, (∃ t y, c' = .val (.sl t) y /\ s = t.size) \/ (∃ k lo hi, c' = .win k s lo hi) -> A5m P T e s = true) : POk P st E w Z B ty (.slice T x lo hi none) (.one ⟨false, [c']⟩) := by
  unfold F1u at hc
  split at hc
  . rename_i t l
    cases hc
    have hsl := ht t.size (.inl ⟨t, _, rfl, rfl⟩)
    obtain ⟨h0, h1, h2⟩ := hφ
    obtain ⟨a, cap, he, hcap, hmx, hnn, hh⟩ := hx
    simp only [List.cons.injEq, and_true] at he
    generalize hL : loI.getD 0 = L at *
    generalize hH : hiI.getD (l.length : Int) = H at *
    have hl2 : ((l.take H.toNat).drop L.toNat).length = H.toNat - L.toNat := by simp; omega
    refine B9j (fun w' _ => F1j (l := L.toNat) (h := H.toNat) he hsl ?_ ?_ (by omega) (by omega) w') ?_ trivial
    . cases lo with
      | none => rw [show loI = none from hlo] at hL; simp at hL; simp only; omega
      | some o => obtain ⟨k, i, e1, e2⟩ := hlo; subst e1; simp at hL; subst hL; exact ⟨k, by rw [e2]; congr 1; omega⟩
    . cases hi with
      | none => rw [show hiI = none from hhi] at hH; simp at hH; simp only; omega
      | some o => obtain ⟨k, i, e1, e2⟩ := hhi; subst e1; simp at hH; subst hH; exact ⟨k, by rw [e2]; congr 1; omega⟩
    . refine ⟨_, _, by rw [hl2], by rw [hl2]; omega, by omega, fun hz => ?_, ?_⟩
      . split at hz
        . omega
        . have := hnn (by simpa using hz); omega
      by_cases hemp : H.toNat = L.toNat
      . left; exact List.eq_nil_of_length_eq_zero (by rw [hl2]; omega)
      . right
        rcases hh with hh | ⟨b, o, ec, ha, hz, hcells, heach⟩
        . subst hh; simp at h2; omega
        . subst ha
          have e1 := Q3.drop (fun _ _ h => Rep.length h) L.toNat (Q3.take (fun _ _ h => Rep.length h) H.toNat heach)
          refine ⟨b, o + L.toNat * t.size, (ec.take (H.toNat * t.size)).drop (L.toNat * t.size), ?_, hz, ?_, e1⟩
          . rw [if_neg (by omega), Option.map_some, N2]
          . have hx1 := R3 hcells 0 (H.toNat * t.size)
            rw [List.drop_zero, Nat.add_zero] at hx1
            have hx2 := R3 hx1 (L.toNat * t.size) ((ec.take (H.toNat * t.size)).drop (L.toNat * t.size)).length
            rwa [List.take_length] at hx2
  . rename_i k
    split at hc
    . rename_i t e' l hk
      cases hc
      have hsl := ht t.size (.inr ⟨_, _, _, rfl⟩)
      obtain ⟨h0, h1, h2⟩ := hφ
      have hL := h.locs k
      rw [hk] at hL
      obtain ⟨xs, hown, _, _⟩ := hL
      have hBx : Gw.ev E x = B k := hx
      generalize hLo : loI.getD 0 = L at *
      generalize hHi : hiI.getD (l.length : Int) = H at *
      obtain ⟨a, cap, hB, ga, gn, gc, gm⟩ : ∃ a cap, B k = .slice a l.length cap /\ (∀ x, a = some x -> ∃ g, x = ⟨g, 0, none⟩) /\ (a = none -> cap = 0) /\ l.length <= cap /\ cap <= maxLen := by
        rcases hown.2 with ⟨hv, hn⟩ | ⟨g, cap, cur, hv, _, _, hnc, hcm, _⟩
        . exact ⟨none, 0, by rw [hv, hn], fun x hx => (by cases hx), fun _ => rfl, by omega, Nat.zero_le _⟩
        . exact ⟨some ⟨g, 0, none⟩, cap, hv, fun x hx => ⟨g, by cases hx; rfl⟩, fun hx => (by cases hx), hnc, hcm⟩
      refine B9j (fun w' _ => F1j (l := L.toNat) (h := H.toNat) (hBx.trans hB) hsl ?_ ?_ (by omega) (by omega) w') ⟨a, l.length, cap, hB, ga, gn, h0, h1, h2, gc, gm, rfl⟩ hr
      . cases lo with
        | none => rw [show loI = none from hlo] at hLo; simp at hLo; simp only; omega
        | some o => obtain ⟨k, i, e1, e2⟩ := hlo; subst e1; simp at hLo; subst hLo; exact ⟨k, by rw [e2]; congr 1; omega⟩
      . cases hi with
        | none => rw [show hiI = none from hhi] at hHi; simp at hHi; simp only; omega
        | some o => obtain ⟨k, i, e1, e2⟩ := hhi; subst e1; simp at hHi; subst hHi; exact ⟨k, by rw [e2]; congr 1; omega⟩
    . cases hc
  . cases hc
def G2a (P : Program) (T : TypeId) (k : IntKind) : Bool := match P.underlying T with | some (.int k') => decide (k = k') | _ => false
theorem E1c {T : TypeId} {k : IntKind} (h : G2a P T k = true) : P.underlying T = some (.int k) := by
  unfold G2a at h; split at h
  . rename_i k' hk; have := of_decide_eq_true h; subst this; exact hk
  . cases h
theorem F8c {T T' ty : TypeId} {x : Operand} {k k' : IntKind} {a : Int} (hx : RC w Z B (.val (.int k) a) (Gw.ev E x)) (h1 : ∃ d, P.underlying T = some d) (h2 : G2a P T' k' = true) : POk P st E w Z B ty (.convert T T' x) (.one ⟨false, [.val (.int k') (k'.wrap a)]⟩) := by
  obtain ⟨hx, _⟩ := hx
  simp only [List.cons.injEq, and_true] at hx
  obtain ⟨d, hd⟩ := h1
  have hu := E1c h2
  refine B9j (v := .int k' (k'.wrap a)) (fun w' _ => ?_) ⟨rfl, A8u _ _⟩ trivial
  intro _ _ _ _
  simp [execOp, convert, hx, run_underlying hd, run_underlying hu, Conv.intToInt, go_sem]
def unC (op : UnOp) : C -> Option C
  | .val .bool b => match op with
    | .not => some (.val .bool (!b))
    | _ => none
  | .val (.int k) a => match op with
    | .neg => some (.val (.int k) (k.wrap (-a)))
    | .xor => some (.val (.int k) (k.wrap (BitVec.ofInt k.bits (if k.signed then -1 else k.max) ^^^ BitVec.ofInt k.bits a).toNat))
    | _ => none
  | _ => none
theorem G2u {op : UnOp} {T ty : TypeId} {x : Operand} {c c' : C} (hx : RC w Z B c (Gw.ev E x)) (h : unC op c = some c') : POk P st E w Z B ty (.unOp op T x) (.one ⟨false, [c']⟩) := by
  unfold unC at h
  split at h
  . split at h
    . cases h
      rename_i b _
      have hx : Gw.ev E x = .bool b := by simpa [RC, Rep] using hx
      exact B9j (fun w' _ => G2m hx) rfl trivial
    . cases h
  . obtain ⟨hx, _⟩ := hx
    simp only [List.cons.injEq, and_true] at hx
    split at h
    . cases h
      exact B9j (fun w' _ => G2i hx) ⟨rfl, A8u _ _⟩ trivial
    . cases h
      refine B9j (v := .int _ _) (fun w' _ _ _ _ _ => by simp [execOp, hx, Op.unary, Op.intBits, go_sem]) ⟨rfl, A8u _ _⟩ trivial
    . cases h
  . cases h
def C7u (place : Nat -> Option (Nat × Nat)) : List C -> List (Nat × List C) -> Option (List C)
  | cs, [] => some cs
  | cs, (i, ps) :: r => match place i with
    | none => none
    | some (off, sz) => bif Nat.beq ps.length sz && Nat.ble (off + sz) cs.length then C7u place (cs.take off ++ ps ++ cs.drop (off + sz)) r else none
def A3e : C -> Bool
  | .dead => false
  | _ => true
theorem Rep.one1 {t : Ty} {v : Value} {x : t.den} (h : Rep t w Z [v] x) : v.oneCell' = true := Rep.oneCell h v (by simp)
theorem RC.one (h : Rel za w0 st E w Z B) {c : C} {v : Value} (hd : A3e c = true) (hr : RC w Z B c v) : v.oneCell' = true := by
  cases c with
  | val t x => exact Rep.one1 hr
  | row k => rw [show v = _ from hr]; exact h.bone k
  | box k off => obtain ⟨b, _, e⟩ := hr; rw [e]; rfl
  | elp k sz i off => obtain ⟨b, _, _, _, _, e⟩ := hr; rw [e]; rfl
  | win k sz lo hi => obtain ⟨_, _, _, _, _, _, _, _, _, _, _, e⟩ := hr; rw [e]; rfl
  | pf t x off => obtain ⟨b, _, _, e, _⟩ := hr; rw [e]; rfl
  | mp k => rw [show v = _ from hr]; exact h.bone k
  | fn f caps => rw [show v = _ from hr]; rfl
  | fv _ _ _ _ _ _ => obtain ⟨_, _, e, _⟩ := hr; rw [e]; rfl
  | raw v0 => rw [hr.1]; exact hr.2
  | dead => cases hd
end
section
variable {za : Zn} {w0 w : World} {Z : Nat -> Prop} {B : Nat -> Value} {st : St} {E : Env} {P : Program}
def F3j (w : World) (Z : Nat -> Prop) (B : Nat -> Value) : List (Nat × List C) -> List (Nat × Value) -> Prop
  | [], vs => vs = []
  | (i, ps) :: r, vs => ∃ v vs', vs = (i, v) :: vs' /\ RCs w Z B ps v.cells.toList /\ F3j w Z B r vs'
theorem E4k {place : Nat -> Option (Nat × Nat)} : ∀ {parts : List (Nat × List C)} {vals : List (Nat × Value)} {cs cs' : List C} {vs : Array Value}, F3j w Z B parts vals -> RCs w Z B cs vs.toList -> C7u place cs parts = some cs' -> ∃ vs', Instr.fill place vs vals = some vs' /\ RCs w Z B cs' vs'.toList
  | [], _, cs, cs', vs, hp, h, hf => by
    rw [show _ = _ from hp]
    simp only [C7u, Option.some.injEq] at hf
    subst hf
    exact ⟨vs, rfl, h⟩
  | (i, ps) :: r, _, cs, cs', vs, ⟨v, vals, e, h1, h2⟩, h, hf => by
    subst e
    simp only [C7u] at hf
    cases hpl : place i with
    | none => simp [hpl] at hf
    | some q =>
      obtain ⟨off, sz⟩ := q
      simp only [hpl] at hf
      cases hb : Nat.beq ps.length sz && Nat.ble (off + sz) cs.length with
      | false => simp [hb] at hf
      | true =>
        simp only [hb, cond_true] at hf
        simp only [Bool.and_eq_true] at hb
        have hl1 : ps.length = sz := Nat.eq_of_beq_eq_true hb.1
        have hl2 : off + sz <= cs.length := Nat.le_of_ble_eq_true hb.2
        have hsz : v.cells.size = sz := by rw [<- hl1, h1.len]; simp
        have hcv : cs.length = vs.size := by rw [h.len]; simp
        have hfold := B2k off v.cells.toList 0 vs (by simp; omega)
        simp only [Nat.add_zero] at hfold
        generalize hc' : (v.cells.toList.zipIdx 0).foldl (fun cs (x : Value × Nat) => cs.setIfInBounds (off + x.2) x.1) vs = vs1 at hfold
        have hr : RCs w Z B (cs.take off ++ ps ++ cs.drop (off + sz)) vs1.toList := by
          rw [hfold]
          have hvl : v.cells.toList.length = sz := by simpa using hsz
          rw [hvl]
          exact ((h.take off).append h1).append (h.drop (off + sz))
        obtain ⟨vs', h3, h4⟩ := E4k h2 hr hf
        refine ⟨vs', ?_, h4⟩
        unfold Instr.fill
        simp only [hpl]
        rw [if_neg (by simp; omega)]
        rw [<- h3, <- hc', <- Array.foldl_toList]
        simp
theorem D0y {place : Nat -> Option (Nat × Nat)} {Q : C -> Prop} : ∀ {parts : List (Nat × List C)} {cs cs' : List C}, (∀ x ∈ parts, ∀ c ∈ x.2, Q c) -> (∀ c ∈ cs, Q c) -> C7u place cs parts = some cs' -> ∀ c ∈ cs', Q c
  | [], cs, cs', _, h, hf => by
    simp only [C7u, Option.some.injEq] at hf
    subst hf; exact h
  | (i, ps) :: r, cs, cs', hp, h, hf => by
    simp only [C7u] at hf
    cases hpl : place i with
    | none => simp [hpl] at hf
    | some q =>
      simp only [hpl] at hf
      cases hb : Nat.beq ps.length q.2 && Nat.ble (q.1 + q.2) cs.length with
      | false => simp [hb] at hf
      | true =>
        simp only [hb, cond_true] at hf
        refine D0y (fun x hx => hp x (List.mem_cons_of_mem _ hx)) ?_ hf
        intro c hc
        simp only [List.mem_append] at hc
        rcases hc with (hc | hc) | hc
        . exact h c (List.mem_of_mem_take hc)
        . exact hp (i, ps) (by simp) c hc
        . exact h c (List.mem_of_mem_drop hc)
def A8h (st : St) (ctx : Ctx) : List (Nat × Operand) -> Option (List (Nat × List C))
  | [] => some []
  | (i, x) :: r => match st.ev ctx x with
    | some s => bif s.cs.all A3e then (A8h st ctx r).map fun l => (i, s.cs) :: l else none
    | none => none
theorem RS.cells (h : Rel za w0 st E w Z B) {s : SV} {v : Value} (hs : RS w Z B s v) (hd : s.cs.all A3e = true) : RCs w Z B s.cs v.cells.toList := by
  obtain ⟨a, cs⟩ := s
  cases a with
  | true => obtain ⟨vs, e, hs⟩ := hs; subst e; exact hs
  | false =>
    have hs : RCs w Z B cs [v] := hs
    match cs, hs with
    | [c], hs' =>
      obtain ⟨u, us, e, h1, h2⟩ := hs'
      cases e
      have hone := RC.one h (by simpa using hd) h1
      have : v.cells = #[v] := by cases v <;> simp [Value.cells, Value.oneCell'] at hone ⊢
      rw [this]; exact ⟨v, [], rfl, h1, h2⟩
    | [], hs' => cases hs'
    | c :: c' :: r, hs' => obtain ⟨u, us, e, h1, ⟨_, _, e2, _⟩⟩ := hs'; cases e; cases e2
theorem A7n (h : Rel za w0 st E w Z B) {ctx : Ctx} (hc : W2 E ctx) : ∀ {parts : List (Nat × Operand)} {l : List (Nat × List C)}, A8h st ctx parts = some l -> F3j w Z B l (parts.map fun x => (x.1, Gw.ev E x.2)) /\ ∀ x ∈ l, ∀ c ∈ x.2, B0s st.nx c
  | [], l, hl => by cases hl; exact ⟨rfl, by simp⟩
  | (i, x) :: r, l, hl => by
    simp only [A8h] at hl
    cases hv : st.ev ctx x with
    | none => simp [hv] at hl
    | some s =>
      simp only [hv] at hl
      cases hd : s.cs.all A3e with
      | false => simp only [hd, cond_false] at hl; cases hl
      | true =>
        simp only [hd, cond_true] at hl
        cases hr : A8h st ctx r with
        | none => simp [hr] at hl
        | some l' =>
          simp [hr] at hl
          subst hl
          obtain ⟨h1, h2⟩ := h.ev hc hv
          obtain ⟨h3, h4⟩ := A7n h hc hr
          refine ⟨⟨Gw.ev E x, _, rfl, RS.cells h h1 hd, h3⟩, fun y hy => ?_⟩
          rcases List.mem_cons.1 hy with rfl | hy
          . exact h2
          . exact h4 y hy
def E0n (t : Ty) : List C := (B0a t).map B4q
theorem A1u {T : TypeId} {t : Ty} (h : B4p P T t = true) : ∃ z, A8y P T = some z /\ z.cells.toList = B0a t := by
  unfold B4p at h
  split at h
  . rename_i z hz
    split at h
    . rename_i hzc; exact ⟨z, hz, by rw [E2i hzc]; simp⟩
    . cases h
  . cases h
theorem F3m (h : Rel za w0 st E w Z B) {ctx : Ctx} (hc : W2 E ctx) {T ty : TypeId} {t : Ty} {parts : List (Nat × Operand)} {l : List (Nat × List C)} {cs : List C} {pl : List (Nat × Nat)} (hz : B4p P T t = true) (hp : C4n P T = some pl)
    (hl : A8h st ctx parts = some l) (hf : C7u (fun i => pl[i]?) (E0n t) l = some cs) : POk P st E w Z B ty (.build T parts.toArray) (.one ⟨true, cs⟩) := by
  obtain ⟨z, hz1, hz2⟩ := A1u hz
  obtain ⟨h1, h2⟩ := A7n h hc hl
  have h3 := A1q (w := w) (Z := Z) (B := B) (n := st.nx) (B0a t)
  obtain ⟨vs', h4, h5⟩ := E4k (vs := z.cells) h1 (by rw [hz2]; exact h3.1) hf
  exact ⟨.agg vs', fun w' _ => F8d vs' hz1 hp h4, fun _ => ⟨vs'.toList, by simp, h5⟩, D0y h2 h3.2 hf⟩
theorem D9m (h : Rel za w0 st E w Z B) {ctx : Ctx} (hc : W2 E ctx) {T ty e : TypeId} {t : Ty} {len sz : Nat} {parts : List (Nat × Operand)} {l : List (Nat × List C)} {cs : List C} (hz : B4p P T t = true) (hT : P.underlying T = some (.array len e)) (hs : C0i P e sz = true)
    (hl : A8h st ctx parts = some l) (hf : C7u (fun i => some (i * sz, sz)) (E0n t) l = some cs) : POk P st E w Z B ty (.build T parts.toArray) (.one ⟨true, cs⟩) := by
  obtain ⟨z, hz1, hz2⟩ := A1u hz
  obtain ⟨h1, h2⟩ := A7n h hc hl
  have h3 := A1q (w := w) (Z := Z) (B := B) (n := st.nx) (B0a t)
  obtain ⟨vs', h4, h5⟩ := E4k (vs := z.cells) h1 (by rw [hz2]; exact h3.1) hf
  exact ⟨.agg vs', fun w' _ => E4i vs' hz1 hT hs h4, fun _ => ⟨vs'.toList, by simp, h5⟩, D0y h2 h3.2 hf⟩
def F9u : List SV -> Option (List Nat)
  | [] => some []
  | ⟨false, [.box k 0]⟩ :: r => (F9u r).map (k :: ·)
  | _ => none
def evL (st : St) (ctx : Ctx) : List Operand -> Option (List SV)
  | [] => some []
  | x :: r => match st.ev ctx x with
    | some s => (evL st ctx r).map (s :: ·)
    | none => none
theorem E0t (h : Rel za w0 st E w Z B) {ctx : Ctx} (hc : W2 E ctx) : ∀ {xs : List Operand} {ss : List SV}, evL st ctx xs = some ss -> RSs w Z B ss (xs.map (Gw.ev E)) /\ ∀ s ∈ ss, C8z st.nx s
  | [], ss, hs => by cases hs; exact ⟨rfl, by simp⟩
  | x :: r, ss, hs => by
    simp only [evL] at hs
    cases hv : st.ev ctx x with
    | none => simp [hv] at hs
    | some s =>
      simp only [hv] at hs
      cases hr : evL st ctx r with
      | none => simp [hr] at hs
      | some l =>
        simp [hr] at hs
        subst hs
        obtain ⟨h1, h2⟩ := h.ev hc hv
        obtain ⟨h3, h4⟩ := E0t h hc hr
        refine ⟨⟨_, _, rfl, h1, h3⟩, fun y hy => ?_⟩
        rcases List.mem_cons.1 hy with rfl | hy
        . exact h2
        . exact h4 y hy
theorem F0k {n : Nat} : ∀ {ss : List SV} {ks : List Nat} {vs : List Value}, RSs w Z B ss vs -> (∀ s ∈ ss, C8z n s) -> F9u ss = some ks -> vs = ks.map B /\ ∀ k ∈ ks, k < n
  | [], ks, vs, h, _, hk => by cases hk; exact ⟨h, by simp⟩
  | s :: r, ks, vs, ⟨v, vs', e, h1, h2⟩, hr, hk => by
    unfold F9u at hk
    split at hk
    . rename_i heq; cases heq
    . rename_i k r' heq
      cases heq
      cases hr' : F9u r with
      | none => simp [hr'] at hk
      | some l =>
        simp [hr'] at hk
        subst hk
        obtain ⟨h3, h4⟩ := F0k h2 (fun s hs => hr s (List.mem_cons_of_mem _ hs)) hr'
        obtain ⟨_, _, e1, ⟨b, hb, hv⟩, _⟩ := h1
        cases e1
        have hkn := hr ⟨false, [.box k 0]⟩ (by simp) (.box k 0) (by simp)
        refine ⟨by rw [e, h3, hv, <- hb]; rfl, fun q hq => ?_⟩
        rcases List.mem_cons.1 hq with rfl | hq
        . exact hkn
        . exact h4 q hq
    . cases hk
theorem F9z (h : Rel za w0 st E w Z B) {ctx : Ctx} (hc : W2 E ctx) {ty : TypeId} {f : FuncId} {caps : List Operand} {ss : List SV} {ks : List Nat} (h1 : evL st ctx caps = some ss) (h2 : F9u ss = some ks) :
    POk P st E w Z B ty (.makeFunc (.func f) #[] caps.toArray) (.one ⟨false, [.fn f ks]⟩) := by
  obtain ⟨h3, h4⟩ := E0t h hc h1
  obtain ⟨h5, h6⟩ := F0k h3 h4 h2
  exact B9j (fun w' _ => G2s h5) rfl h6
def F8g (e : Bool) : C -> C -> Option C
  | .val t x, .val t' y => if h : t' = t then some (.val t (sel e x (h ▸ y))) else none
  | _, _ => none
theorem F4i {e : Bool} {c1 c2 c : C} {v1 v2 : Value} (h : F8g e c1 c2 = some c) (h1 : e = true -> RC w Z B c1 v1) (h2 : e = false -> RC w Z B c2 v2) : RC w Z B c (bif e then v1 else v2) /\ ∀ n, B0s n c := by
  unfold F8g at h
  split at h
  . split at h
    . rename_i t x t' y heq
      subst heq; cases h
      refine ⟨?_, fun _ => trivial⟩
      cases e with
      | true => exact h1 rfl
      | false => exact h2 rfl
    . cases h
  . cases h
end
def C2v : Ty -> Bool
  | .ptr _ => false
  | .pair a b => C2v a && C2v b
  | _ => true
theorem B9o {w : World} {Z : Nat -> Prop} : ∀ {t : Ty}, C2v t = true -> Rep t w Z (B0a t) t.dflt
  | .int k, _ => ⟨rfl, E6j k⟩
  | .bool, _ => rfl
  | .str, _ => rfl
  | .unit, _ => rfl
  | .pair a b, h => by
    simp only [C2v, Bool.and_eq_true] at h
    exact ⟨_, _, rfl, B9o h.1, B9o h.2⟩
  | .sl _, _ => ⟨none, 0, rfl, Nat.le_refl _, Nat.zero_le _, fun _ => rfl, .inl rfl⟩
  | .ptr _, h => by cases h
  | .mp _ _ _ _, _ => .inl ⟨rfl, rfl⟩
def G2b (st : St) (ka : Bool) (kt : Ty) (va : Bool) (vt : Ty) : C -> Option (List (kt.den × vt.den))
  | .mp k => match st.L k with
    | .map ka' kt' va' vt' es => if h : Ty.mp ka' kt' va' vt' = Ty.mp ka kt va vt then some (h ▸ (show (Ty.mp ka' kt' va' vt').den from es) : (Ty.mp ka kt va vt).den) else none
    | .mapE ka' kt' va' vt' es _ _ => if h : Ty.mp ka' kt' va' vt' = Ty.mp ka kt va vt then some (h ▸ (show (Ty.mp ka' kt' va' vt').den from es) : (Ty.mp ka kt va vt).den) else none
    | _ => none
  | .val t es => if h : t = Ty.mp ka kt va vt then some (h ▸ es : (Ty.mp ka kt va vt).den) else none
  | .raw (.map none) => some []
  | _ => none
def G1y (st : St) (ctx : Ctx) (x : Operand) : Option (Option Prop × DV) :=
  match st.ev ctx x with
  | some s => some (none, .one s)
  | none => match x with
    | .tmp t => match st.S t with
      | .tup vs => some (none, .tup vs)
      | _ => none
    | _ => none
def G3k (st : St) (b : Bool) : Operand -> Ctx
  | .tmp t => gctx st 20 t b
  | _ => []
def one1 (c : C) : DV := .one ⟨false, [c]⟩
def F2w (st : St) (ctx : Ctx) (c a b : Operand) : Option (Option Prop × DV) := do
  let e <- (st.ev ctx c).bind D9l
  let ca <- (st.ev (G3k st true c ++ ctx) a).bind c1
  let cb <- (st.ev (G3k st false c ++ ctx) b).bind c1
  (F8g e ca cb).map fun c => (none, one1 c)
def F8a (st : St) (ctx : Ctx) (op : UnOp) (x : Operand) : Option (Option Prop × DV) := do
  let c <- (st.ev ctx x).bind c1
  (unC op c).map fun c => (none, one1 c)
def E4j : C -> Bool
  | .val .bool _ => true
  | _ => false
def F2h (cx : Cx) (st : St) (ctx : Ctx) (op : BinOp) (T : TypeId) (x y : Operand) : Option (Option Prop × DV) := do
  let sx <- st.ev ctx x
  let sy <- st.ev ctx y
  match c1 sx, c1 sy with
  | some a, some b => bif E4j a && !(isB cx.P T) then none else (G2j op a b).map fun r => (r.1, one1 r.2)
  | _, _ => do
    let ti <- cx.ti T
    let a <- B4c true ti.ty sx
    let b <- B4c true ti.ty sy
    bif ti.eq && ti.agg then (match op with
      | .eql => some (none, one1 (.val .bool (eqB ti.ty a b)))
      | .neq => some (none, one1 (.val .bool (!(eqB ti.ty a b))))
      | _ => none) else none
def D0x (st : St) (x : Operand) (i : Nat) : Option (Option Prop × DV) :=
  match x with
  | .tmp t => match st.S t with
    | .tup vs => (vs[i]?).map fun s => (none, .one s)
    | _ => none
  | _ => none
def B7d (cx : Cx) (st : St) (ctx : Ctx) (T : TypeId) (x : Operand) (f : Nat) : Option (Option Prop × DV) := do
  let ti <- cx.ti T
  let q <- ti.fields[f]?
  let c <- (st.ev ctx x).bind c1
  (faC q.1 c).map fun c => (none, one1 c)
def E3g (cx : Cx) (st : St) (ctx : Ctx) (T : TypeId) (x : Operand) (f : Nat) : Option (Option Prop × DV) := do
  let ti <- cx.ti T
  let q <- ti.fields[f]?
  let s <- st.ev ctx x
  bif s.agg then (cut q.1 q.2.1 s.cs).map fun cs => (none, .one ⟨q.2.2, cs⟩) else none
def F1m (cx : Cx) (st : St) (ctx : Ctx) (T : TypeId) (x : Operand) : Option (Option Prop × DV) := do
  let ti <- cx.ti T
  let c <- (st.ev ctx x).bind c1
  (F7y st ti.ty.size c).map fun cs => (none, .one ⟨ti.agg, cs⟩)
def G3z (cx : Cx) (st : St) (ctx : Ctx) (ti : TI) (x ix : Operand) : Option (Option Prop × DV) := do
  let te <- cx.ti ti.elem
  let c <- (st.ev ctx x).bind c1
  let i <- (st.ev ctx ix).bind F2y
  (faC (i.toNat * te.ty.size) c).map fun c' => (some (0 <= i /\ i < (ti.arr : Int)), one1 c')
def G1a (u : Ty) : Nat -> Ty
  | 0 => .unit
  | 1 => u
  | n + 2 => .pair u (G1a u (n + 1))
def selA (u : Ty) : (n : Nat) -> (G1a u n).den -> Int -> u.den
  | 0, _, _ => u.dflt
  | 1, x, _ => x
  | n + 2, x, i => sel (decide (i = 0)) x.1 (selA u (n + 1) x.2 (i - 1))
def G3u (cx : Cx) (st : St) (ctx : Ctx) (ti : TI) (x ix : Operand) : Option (Option Prop × DV) := do
  let te <- cx.ti ti.elem
  let c <- (st.ev ctx x).bind c1
  let i <- (st.ev ctx ix).bind F2y
  match c with
  | .pf t y 0 => if h : t = G1a te.ty ti.arr then some (some (0 <= i /\ i < (ti.arr : Int)), one1 (.pf te.ty (selA te.ty ti.arr (h ▸ y) i) 0)) else none
  | _ => none
def F1l : Operand -> Bool
  | .const _ => true
  | _ => false
def G3v (cx : Cx) (st : St) (ctx : Ctx) (T : TypeId) (x : Operand) : Option (Option Prop × DV) := do
  let ti <- cx.ti T
  let c <- (st.ev ctx x).bind c1
  match ti.ty, c with
  | .sl t, .raw (.slice none 0 0) => some (some False, one1 (.pf t t.dflt 0))
  | _, _ => none
def G3l (cx : Cx) (st : St) (ctx : Ctx) (T : TypeId) (x ix : Operand) : Option (Option Prop × DV) := do
  let ti <- cx.ti T
  let c <- (st.ev ctx x).bind c1
  let i <- (st.ev ctx ix).bind F2y
  let r <- G2l st i c
  match ti.ty, r.2 with
  | .sl t, .pf t' _ _ => bif decide (t = t') then some (r.1, one1 r.2) else none
  | .sl t, .elp _ sz _ _ => bif Nat.beq t.size sz then some (r.1, one1 r.2) else none
  | _, _ => none
def F9k (cx : Cx) (st : St) (ctx : Ctx) (T : TypeId) (x ix : Operand) : Option (Option Prop × DV) :=
  match cx.ti T with
  | some ti => bif Nat.beq ti.arr 0 then (match G3v cx st ctx T x with
    | some r => some r
    | none => G3l cx st ctx T x ix) else (bif F1l ix then G3z cx st ctx ti x ix else G3u cx st ctx ti x ix)
  | none => none
def G4c : C -> Bool
  | .box _ _ => true
  | .elp _ _ _ _ => true
  | .pf _ _ _ => true
  | .fn _ _ => true
  | .fv _ _ _ _ _ _ => true
  | _ => false
def F9l (st : St) (ctx : Ctx) (x : Operand) : Option (Option Prop × DV) := do
  let c <- (st.ev ctx x).bind c1
  bif G4c c then some (none, one1 c) else none
def G2d (st : St) (ctx : Ctx) : Option Operand -> Option (Option Int)
  | none => some none
  | some o => ((st.ev ctx o).bind F2y).map some
def E3h (cx : Cx) (st : St) (ctx : Ctx) (T : TypeId) (x : Operand) (lo hi : Option Operand) : Option (Option Prop × DV) := do
  let ti <- cx.ti T
  let c <- (st.ev ctx x).bind c1
  let l <- G2d st ctx lo
  let h <- G2d st ctx hi
  let r <- F1u st l h c
  match ti.ty, r.2 with
  | .sl t, .val (.sl t') _ => bif decide (t = t') then some (r.1, one1 r.2) else none
  | .sl t, .win _ sz _ _ => bif Nat.beq t.size sz then some (r.1, one1 r.2) else none
  | _, _ => none
def F0h (cx : Cx) (st : St) (ctx : Ctx) (T T' : TypeId) (x : Operand) : Option (Option Prop × DV) := do
  let ti <- cx.ti T
  let ti' <- cx.ti T'
  let c <- (st.ev ctx x).bind c1
  match ti.ty, ti'.ty, c with
  | .int _, .int k', .val (.int _) a => some (none, one1 (.val (.int k') (k'.wrap a)))
  | _, _, _ => none
def E3e (cx : Cx) (st : St) (ctx : Ctx) (T : TypeId) (parts : List (Nat × Operand)) : Option (Option Prop × DV) := do
  let ti <- cx.ti T
  let l <- A8h st ctx parts
  bif ti.fields.isEmpty then (do
    let te <- cx.ti ti.elem
    bif Nat.beq ti.arr 0 then none else (C7u (fun i => some (i * te.ty.size, te.ty.size)) (E0n ti.ty) l).map fun cs => (none, .one ⟨true, cs⟩))
  else (C7u (fun i => (ti.fields.map fun x => (x.1, x.2.1))[i]?) (E0n ti.ty) l).map fun cs => (none, .one ⟨true, cs⟩)
def E4v (t : Ty) : List C -> Option (List t.den)
  | [] => some []
  | c :: r => (E8z t c).bind fun x => (E4v t r).map (x :: ·)
def C9p (s : ByteArray) (i : Int) : Int := ((s.data.toList.getD i.toNat 0).toNat : Int)
def D7h (st : St) (ctx : Ctx) (x ix : Operand) : Option (Option Prop × DV) := do
  let c <- (st.ev ctx x).bind c1
  let i <- (st.ev ctx ix).bind F2y
  match c with
  | .val .str s => some (some (0 <= i /\ i < (s.data.toList.length : Int)), one1 (.val (.int .u8) (C9p s i)))
  | _ => none
def D7u (cx : Cx) (st : St) (ctx : Ctx) (T : TypeId) (x ix : Operand) : Option (Option Prop × DV) := do
  let ti <- cx.ti T
  let te <- cx.ti ti.elem
  let s <- st.ev ctx x
  let i <- (st.ev ctx ix).bind F2y
  let vs <- E4v te.ty s.cs
  bif s.agg && !te.agg && !(Nat.beq ti.arr 0) && Nat.beq te.ty.size 1 && Nat.beq vs.length ti.arr then
    (match te.ty, vs with
     | .int k, vs => some (some (0 <= i /\ i < (vs.length : Int)), one1 (.val (.int k) (gx 0 vs i)))
     | .bool, vs => some (some (0 <= i /\ i < (vs.length : Int)), one1 (.val .bool (gx false vs i)))
     | _, _ => none) else none
def E3v (cx : Cx) (st : St) (ctx : Ctx) (T : TypeId) (x ix : Operand) : Option (Option Prop × DV) :=
  match ((cx.ti T).map fun t : TI => t.ty : Option Ty) with
  | some .str => D7h st ctx x ix
  | _ => D7u cx st ctx T x ix
def G3y : C -> Bool
  | .mp _ => true
  | _ => false
def G3i : Ty -> Bool
  | .sl _ => true
  | _ => false
def D5m (cx : Cx) (st : St) (ctx : Ctx) (T : TypeId) (x ix : Operand) (ck : Bool) : Option (Option Prop × DV) := do
  let ti <- cx.ti T
  let c <- (st.ev ctx x).bind c1
  let sk <- st.ev ctx ix
  match ti.ty with
  | .mp ka kt va vt => do
    let es <- G2b st ka kt va vt c
    let k <- B4c ka kt sk
    bif ti.rows && G3y c && G3i vt && !ck && !va then some (some (J0 kt k es = none), one1 (.raw (.slice none 0 0))) else
    bif C2v vt then some (none, bif ck then .tup [⟨va, explode vt ((J0 kt k es).getD vt.dflt)⟩, ⟨false, [.val .bool (J0 kt k es).isSome]⟩] else .one ⟨va, explode vt ((J0 kt k es).getD vt.dflt)⟩) else none
  | _ => none
def F8i (st : St) (ctx : Ctx) (fn : Fn) (first caps : List Operand) : Option (Option Prop × DV) :=
  match fn, first with
  | .func f, [] => do
    let ss <- evL st ctx caps
    let ks <- F9u ss
    some (none, one1 (.fn f ks))
  | _, _ => none
def C8j (cx : Cx) (st : St) (ctx : Ctx) (b : Builtin) (args : List Operand) (ts : List TypeId) : Option (Option Prop × DV) :=
  match b, args, ts with
  | .len, [x], [T] => do
    let ti <- cx.ti T
    let c <- (st.ev ctx x).bind c1
    let n <- G2k st c
    match ti.ty, c with
    | _, .mp _ => none
    | .sl _, _ => some (none, one1 (.val (.int .i64) n))
    | _, _ => none
  | .max, [x, y], _ => do
    match <- (st.ev ctx x).bind c1, <- (st.ev ctx y).bind c1 with
    | .val (.int k) a, .val (.int k') b => bif decide (k = k') then some (none, one1 (.val (.int k) (max a b))) else none
    | _, _ => none
  | .min, [x, y], _ => do
    match <- (st.ev ctx x).bind c1, <- (st.ev ctx y).bind c1 with
    | .val (.int k) a, .val (.int k') b => bif decide (k = k') then some (none, one1 (.val (.int k) (min a b))) else none
    | _, _ => none
  | .max, [x, y, z], _ => do
    match <- (st.ev ctx x).bind c1, <- (st.ev ctx y).bind c1, <- (st.ev ctx z).bind c1 with
    | .val (.int k) a, .val (.int k') b, .val (.int k'') c => bif decide (k = k') && decide (k = k'') then some (none, one1 (.val (.int k) (max (max a b) c))) else none
    | _, _, _ => none
  | _, _, _ => none
def C5f (cx : Cx) (st : St) (ctx : Ctx) : Op -> Option (Option Prop × DV)
  | .move x => G1y st ctx x
  | .assign x => G1y st ctx x
  | .pick c a b => F2w st ctx c a b
  | .unOp op _ x => F8a st ctx op x
  | .binOp op T x y _ => F2h cx st ctx op T x y
  | .extract x i => D0x st x i
  | .fieldAddr T x f => B7d cx st ctx T x f
  | .field T x f => E3g cx st ctx T x f
  | .load T x => F1m cx st ctx T x
  | .indexAddr T x i => F9k cx st ctx T x i
  | .index T x i => E3v cx st ctx T x i
  | .lookup T x i ck => D5m cx st ctx T x i ck
  | .slice T x lo hi none => E3h cx st ctx T x lo hi
  | .convert T T' x => F0h cx st ctx T T' x
  | .build T parts => E3e cx st ctx T parts.toList
  | .nilCheck x => F9l st ctx x
  | .makeFunc fn first caps => F8i st ctx fn first.toList caps.toList
  | .call ⟨.builtin b, args, ts⟩ => C8j cx st ctx b args.toList ts.toList
  | _ => none
section
variable {za : Zn} {w0 w : World} {Z : Nat -> Prop} {B : Nat -> Value} {st : St} {E : Env} {cx : Cx}
theorem bind_some {α β : Type} {x : Option α} {f : α -> Option β} {b : β} : x.bind f = some b ↔ ∃ a, x = some a /\ f a = some b := Option.bind_eq_some_iff
theorem Rel.tup (h : Rel za w0 st E w Z B) {t : Tmp} {vs : List SV} (hd : st.S t = .tup vs) : ∃ us : List Value, E t = .tuple us.toArray /\ RSs w Z B vs us /\ ∀ s ∈ vs, C8z st.nx s := by
  have hs := h.slots t
  have hr := h.refs t
  rw [hd] at hs hr
  obtain ⟨us, e, h1⟩ := hs
  exact ⟨us, e, h1, hr⟩
theorem RSs.get : ∀ {ss : List SV} {vs : List Value} {i : Nat} {s : SV}, RSs w Z B ss vs -> ss[i]? = some s -> ∃ v, vs[i]? = some v /\ RS w Z B s v
  | [], _, _, _, _, hi => by simp at hi
  | s' :: ss, _, i, s, ⟨v, vs', e, h1, h2⟩, hi => by
    cases i with
    | zero => simp at hi; subst hi; exact ⟨v, by rw [e]; rfl, h1⟩
    | succ i => simp at hi; obtain ⟨u, h3, h4⟩ := RSs.get h2 hi; exact ⟨u, by rw [e]; simpa using h3, h4⟩
theorem O7 {P : Program} {T : TypeId} {ti : TI} (h : D5i P T ti = true) : C0i P T ti.ty.size = true /\ (ti.agg = true /\ F6z P T ti.ty.size = true \/ ti.agg = false /\ A4k P T = true /\ ti.ty.size = 1) /\ B4p P T ti.ty = true := by
  simp only [D5i, Bool.and_eq_true] at h
  obtain ⟨⟨⟨⟨⟨⟨h1, h2⟩, h3⟩, _⟩, _⟩, _⟩, _⟩ := h
  refine ⟨h1, ?_, h3⟩
  cases ha : ti.agg with
  | true => rw [ha] at h2; exact .inl ⟨rfl, h2⟩
  | false => simp only [ha, cond_false, Bool.and_eq_true] at h2; exact .inr ⟨rfl, h2.1, Nat.eq_of_beq_eq_true h2.2⟩
theorem C4h {P : Program} {T : TypeId} {ti : TI} {t : Ty} (h : D5i P T ti = true) (ht : ti.ty = .sl t) : A5m P T ti.elem t.size = true /\ B4p P ti.elem t = true /\ ∃ i, P.info? ti.elem = some i /\ i.bytes = ti.bytes := by
  simp only [D5i, Bool.and_eq_true] at h
  obtain ⟨⟨⟨⟨_, h4⟩, _⟩, _⟩, _⟩ := h
  rw [ht] at h4
  simp only [Bool.and_eq_true] at h4
  refine ⟨h4.1.1, h4.1.2, ?_⟩
  cases hi : P.info? ti.elem with
  | none => simp [hi] at h4
  | some i => simp only [hi] at h4; exact ⟨i, rfl, Nat.eq_of_beq_eq_true h4.2⟩
theorem E6p {P : Program} {T : TypeId} {ti : TI} {k : IntKind} (h : D5i P T ti = true) (ht : ti.ty = .int k) : G2a P T k = true := by
  simp only [D5i, Bool.and_eq_true] at h
  obtain ⟨⟨⟨⟨_, h4⟩, _⟩, _⟩, _⟩ := h
  rw [ht] at h4
  exact h4
theorem B7m {P : Program} {T : TypeId} {ti : TI} (h : D5i P T ti = true) (he : ti.fields.isEmpty = false) : B9v P T 0 ti.fields = true /\ C4n P T = some (ti.fields.map fun x => (x.1, x.2.1)) := by
  simp only [D5i, Bool.and_eq_true] at h
  obtain ⟨⟨⟨_, h5⟩, _⟩, _⟩ := h
  simp only [he, cond_false, Bool.and_eq_true] at h5
  refine ⟨h5.1, ?_⟩
  cases hp : C4n P T with
  | none => simp [hp] at h5
  | some pl => simp only [hp, decide_eq_true_eq] at h5; rw [h5.2]
theorem C7o {P : Program} {T : TypeId} {ti : TI} (h : D5i P T ti = true) (he : Nat.beq ti.arr 0 = false) : P.underlying T = some (.array ti.arr ti.elem) := by
  simp only [D5i, Bool.and_eq_true] at h
  obtain ⟨⟨_, h6⟩, _⟩ := h
  simp only [he, cond_false] at h6
  split at h6
  . rename_i n e hu
    simp only [Bool.and_eq_true] at h6
    rw [hu, Nat.eq_of_beq_eq_true h6.1, Nat.eq_of_beq_eq_true h6.2]
  . cases h6
theorem C3p {P : Program} {T : TypeId} {ti : TI} {ka va : Bool} {kt vt : Ty} (h : D5i P T ti = true) (ht : ti.ty = .mp ka kt va vt) : P.underlying T = some (.map ti.key ti.elem) /\ E1t P ti.key ka kt = true /\ B4p P ti.elem vt = true /\ B8m P ti.elem va = true := by
  simp only [D5i, Bool.and_eq_true] at h
  obtain ⟨⟨⟨⟨_, h4⟩, _⟩, _⟩, _⟩ := h
  rw [ht] at h4
  simp only [Bool.and_eq_true] at h4
  obtain ⟨⟨⟨h1, h2⟩, h3⟩, h5⟩ := h4
  refine ⟨?_, h2, h3, h5⟩
  split at h1
  . rename_i k e hu
    simp only [Bool.and_eq_true] at h1
    rw [hu, Nat.eq_of_beq_eq_true h1.1, Nat.eq_of_beq_eq_true h1.2]
  . cases h1
theorem F8f {P : Program} {T : TypeId} {ti : TI} (h : D5i P T ti = true) (he : ti.eq = true) : E1t P T ti.agg ti.ty = true := by
  simp only [D5i, Bool.and_eq_true] at h
  have := h.2
  rw [he] at this
  exact this
theorem B2r {P : Program} {T : TypeId} : ∀ {l : List (Nat × Nat × Bool)} {f0 f : Nat} {q : Nat × Nat × Bool}, B9v P T f0 l = true -> l[f]? = some q -> D4z P T (f0 + f) q.1 = true /\ E9i P T (f0 + f) q.2.1 q.2.2 = true
  | [], _, _, _, _, hi => by simp at hi
  | (off, sz, agg) :: l, f0, f, q, h, hi => by
    simp only [B9v, Bool.and_eq_true] at h
    cases f with
    | zero => simp at hi; subst hi; exact h.1
    | succ f =>
      simp at hi
      have := B2r h.2 hi
      rw [show f0 + 1 + f = f0 + (f + 1) from by omega] at this
      exact this
theorem A3p {α : Type} {l : List α} {i : Nat} {a : α} (h : l[i]? = some a) : l.isEmpty = false := by
  cases l with
  | nil => simp at h
  | cons _ _ => rfl
end
end Go.Vc
