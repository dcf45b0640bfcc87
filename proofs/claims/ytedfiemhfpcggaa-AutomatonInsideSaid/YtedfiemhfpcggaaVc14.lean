/- The meaning of operations, regions and code in the symbolic state: what has to be shown. -/
import Derived.Test.YtedfiemhfpcggaaVc13
namespace Go.Vc
open Go Go.RowKit Go.Gw

theorem bif_none {α : Type} {c : Bool} {a : Option α} {x : α} (h : (bif c then a else none) = some x) : c = true ∧ a = some x := by
  cases c
  · cases h
  · exact ⟨rfl, h⟩
theorem bif_prop {c : Bool} {p : Prop} (h : bif c then p else False) : c = true ∧ p := by
  cases c
  · exact h.elim
  · exact ⟨rfl, h⟩
def ctxFull (st : St) : Nat → Tmp → Bool
  | 0, _ => false
  | n + 1, t => match st.S t with
    | .one v => (boolC v).isSome
    | .cnd t' _ v => (boolC v).isSome && ctxFull st n t'
    | _ => false
def noOwn : List RT → Bool
  | [] => true
  | r :: rs => !(isOwn r) && noOwn rs
/-- The function that is called, and its arguments. -/
def callee (st : St) (ctx : Ctx) (f : Operand) (args : List Operand) : Option (FuncId × List SV) := do
  let c ← (st.ev ctx f).bind c1
  let ss ← evL st ctx args
  match c with
  | .fn g ks => bif ks.all (fun k => isBoxL (st.L k)) then some (g, ss ++ ks.map fun k => ⟨false, [.box k 0]⟩) else none
  | _ => none
/-- The rows among the values that are passed become still. -/
def settleA : St → List AM → List SV → St
  | st, .val _ _ :: r, s :: ss => settleA (settle st s.cs) r ss
  | st, .row _ _ :: r, _ :: ss => settleA st r ss
  | st, .box _ _ :: r, _ :: ss => settleA st r ss
  | st, .fn _ _ :: r, _ :: ss => settleA st r ss
  | st, _, _ => st
def dropM : St → List Nat → St
  | st, [] => st
  | st, k :: ks => dropM (st.setL k .none) ks
/-- What was written is told anew. -/
def addM : (as : List AM) → outs as → List Nat → St → St
  | .row t e :: r, o, k :: ks, st => addM r o.2 ks (st.setL k (.row t e o.1))
  | .box T t :: r, o, k :: ks, st => addM r o.2 ks (st.setL k (.box T (explode t o.1)))
  | .val _ _ :: r, o, ks, st => addM r o ks st
  | .fn _ _ :: r, o, ks, st => addM r o ks st
  | _, _, _, st => st
def callGo (cx : Cx) (sp : Specs) (st : St) (d : Tmp) (s : FSpec) (ss : List SV) (k : St → Prop) : Prop :=
  match mutIds s.args ss with
  | some mu => bif nodupB mu then
      (bif hasMut s.args then packK cx sp st mu s.shared s.args ss fun x => s.pre x ∧ ∀ r o, rwf s.res r → owf s.args o → s.post x r → s.mpost x r o → k ((addM s.args o mu (placeR s.res r (dropM st mu)).2).setS d (dvOf (placeR s.res r (dropM st mu)).1))
       else packK cx sp st mu s.shared s.args ss fun x => s.pre x ∧ ∀ r, rwf s.res r → s.post x r → k ((placeR s.res r st).2.setS d (dvOf (placeR s.res r st).1)))
    else False
  | none => False
def packB (st : St) : (as : List (Bool × Ty)) → List SV → Option (densB as)
  | [], [] => some ()
  | (a, t) :: r, s :: ss => (packA st [] a t s).bind fun x => (packB st r ss).map fun y => (x, y)
  | _, _ => none
def callSem (cx : Cx) (sp : Specs) (st : St) (d : Tmp) (f : Operand) (args : List Operand) (k : St → Prop) : Prop :=
  match (st.ev [] f).bind c1 with
  | some (.fv P as r ok φ) => (match evL st [] args with
    | some ss => (match packB st as ss with
      | some y => P = cx.P ∧ ok y ∧ (r.wf (φ y) → k (st.setS d (.one ⟨false, explode r (φ y)⟩)))
      | none => False)
    | none => False)
  | _ => match callee st [] f args with
    | some (g, ss) => match findO g sp with
      | some s => bif enters cx.P g then
          (bif s.shared then
            (match callee (settleA st s.args ss) [] f args with
             | some (g', ss') => bif Nat.beq g' g then callGo cx sp (settleA st s.args ss) d s ss' k else False
             | none => False)
          else callGo cx sp st d s ss k)
        else False
      | none => False
    | none => False
/-- May the call write? -/
def mutCall (sp : Specs) (st : St) (o : Oper) : Bool := match o.guard with
  | some _ => false
  | none => match o.op with
    | .call ⟨.value f, _, _⟩ => match (st.ev [] f).bind c1 with
      | some (.fn g _) => (match findO g sp with
        | some s => hasMut s.args
        | none => true)
      | some (.fv _ _ _ _ _) => false
      | _ => true
    | _ => false
def wrO (sp : Specs) (st : St) (o : Oper) : Bool := wrB o.op || mutCall sp st o
def callSemG (cx : Cx) (sp : Specs) (st : St) (ctx : Ctx) (t : Tmp) (b : Bool) (d : Tmp) (f : Operand) (args : List Operand) (k : St → Prop) : Prop :=
  match callee st ctx f args with
  | some (g, ss) => match findO g sp with
    | some s => bif enters cx.P g && noOwn s.res && !(hasMut s.args) then
        packK cx sp st [] s.shared s.args ss fun x => (ctxP st ctx → s.pre x) ∧ ∀ r, (ctxP st ctx → rwf s.res r ∧ s.post x r) → (match (placeR s.res r st).1 with
            | [sv] => k (st.setS d (.cnd t b sv))
            | _ => False)
      else False
    | none => False
  | none => False
def refB (n : Nat) : C → Bool
  | .row k => Nat.blt k n
  | .box k _ => Nat.blt k n
  | .elp k _ _ _ => Nat.blt k n
  | .mp k => Nat.blt k n
  | .fn _ caps => caps.all fun k => Nat.blt k n
  | _ => true
theorem blt_lt {a b : Nat} (h : Nat.blt a b = true) : a < b := Nat.le_of_ble_eq_true h
theorem refB_ok {n : Nat} {c : C} (h : refB n c = true) : refC n c := by
  cases c with
  | row k => exact blt_lt h
  | box k _ => exact blt_lt h
  | elp k _ _ _ => exact blt_lt h
  | mp k => exact blt_lt h
  | fn _ caps => exact fun k hk => blt_lt (List.all_eq_true.1 h k hk)
  | _ => trivial
def semOp (cx : Cx) (sp : Specs) (all : List Oper) (o : Oper) (k : St → Prop) (st : St) : Prop :=
  match o.guard with
  | none => match pureOp cx st [] o.op with
    | some (φ, v) => match o.dst with
      | some d => andP φ (k (st.setS d v))
      | none => False
    | none => match o.op with
      | .store T p v => match o.dst with
        | none => match storeS cx st T p v with
          | some (_, st') => k st'
          | none => False
        | some _ => False
      | .mapUpdate T m x y => match o.dst with
        | none => match mapUpS cx st T m x y with
          | some st' => k st'
          | none => False
        | some _ => False
      | .insert T m x y => match o.dst with
        | none => match mapUpS cx st T m x y with
          | some st' => k st'
          | none => False
        | some _ => False
      | .call ⟨.value f, args, _⟩ => match o.dst with
        | some d => callSem cx sp st d f args.toList k
        | none => False
      | op => match o.dst with
        | some d => match effS cx st d op with
          | some (φ, st') => andP φ (k st')
          | none => False
        | none => False
  | some (j, b) => match (all[j]?).bind (·.dst) with
    | some t => bif ctxFull st 20 t then (match o.dst with
      | some d => bif !(Nat.beq t d) then (match pureOp cx st (gctx st 20 t b) o.op with
        | some (φ, .one s) => bif s.cs.all (refB st.nx) then andP (impP (ctxP st (gctx st 20 t b)) φ) (k (st.setS d (.cnd t b s))) else False
        | some _ => False
        | none => match o.op with
          | .call ⟨.value f, args, _⟩ => callSemG cx sp st (gctx st 20 t b) t b d f args.toList k
          | _ => False) else False
      | none => False) else False
    | none => False
def semOps (cx : Cx) (sp : Specs) (all : List Oper) : List Oper → (St → Prop) → St → Prop
  | [], k => k
  | o :: r, k => semOp cx sp all o (semOps cx sp all r k)

section
variable {za : Zn} {w0 w w' : World} {Z : Nat → Prop} {B : Nat → Value} {st : St} {E : Env} {cx : Cx} {sp : Specs} {all : List Oper} {k : St → Prop}
theorem ctx_not (h : Rel za w0 st E w Z B) : ∀ {n : Nat} {t : Tmp} {b : Bool}, ctxFull st n t = true → E t ≠ .bool b → ¬ ctxP st (gctx st n t b)
  | 0, _, _, hf, _ => by cases hf
  | n + 1, t, b, hf, he => by
    have hs := h.slots t
    unfold ctxFull at hf
    unfold gctx
    cases hd : st.S t with
    | one v =>
      rw [hd] at hs hf
      simp only at hf
      obtain ⟨e, he'⟩ := Option.isSome_iff_exists.1 hf
      have hv := boolC_ok hs he'
      have hg : gval st t = some e := by unfold gval; rw [hd]; exact he'
      intro hh
      obtain ⟨rfl, _⟩ := (ctxP_cons hg).1 hh
      exact he hv
    | cnd t' b' v =>
      rw [hd] at hs hf
      simp only [Bool.and_eq_true] at hf
      obtain ⟨e, he'⟩ := Option.isSome_iff_exists.1 hf.1
      have hg : gval st t = some e := by unfold gval; rw [hd]; exact he'
      intro hh
      obtain ⟨rfl, hr⟩ := (ctxP_cons hg).1 hh
      rcases hs with ⟨_, hs⟩ | ⟨hs, _⟩
      · exact he (boolC_ok hs he')
      · exact ctx_not h hf.2 hs hr
    | tup _ => rw [hd] at hf; cases hf
    | dead => rw [hd] at hf; cases hf
theorem callee_ok (h : Rel za w0 st E w Z B) {ctx : Ctx} (hc : CtxOk E ctx) {f : Operand} {args : List Operand} {g : FuncId} {ss : List SV} (hs : callee st ctx f args = some (g, ss)) :
    ∃ cap : List Value, Gw.ev E f = .func (.func g) #[] cap.toArray ∧ RSs w Z B ss (args.map (Gw.ev E) ++ cap) ∧ ∀ s ∈ ss, refS st.nx s := by
  simp only [callee, Option.bind_eq_bind, bind_some] at hs
  obtain ⟨c, ⟨sf, hsf, hcf⟩, ss', hss, hs⟩ := hs
  have h1 := h.c1 hc (bind_some.2 ⟨sf, hsf, hcf⟩)
  obtain ⟨h2, h3⟩ := evL_ok h hc hss
  split at hs
  · rename_i g' ks
    cases hall : ks.all (fun k => isBoxL (st.L k)) with
    | false => simp [hall] at hs
    | true =>
      simp only [hall, cond_true] at hs
      cases hs
      refine ⟨ks.map B, h1.1, h2.append (caps_ok h hall), fun s hs => ?_⟩
      · rcases List.mem_append.1 hs with hs | hs
        · exact h3 s hs
        · obtain ⟨k, hk, rfl⟩ := List.mem_map.1 hs
          intro c hc
          simp at hc; subst hc
          exact h1.2 k hk
  · cases hs
theorem Rel.settleA (h : Rel za w0 st E w Z B) : ∀ {as : List AM} {ss : List SV}, ∃ Z', Rel za w0 (settleA st as ss) E w Z' B := by
  intro as
  induction as generalizing st Z with
  | nil => intro ss; exact ⟨Z, h⟩
  | cons a as ih =>
    intro ss
    cases ss with
    | nil => cases a <;> exact ⟨Z, h⟩
    | cons s ss =>
      cases a with
      | val _ _ => obtain ⟨Z1, h1⟩ := h.settle s.cs; exact ih h1
      | _ => exact ih h
theorem dropM_L (st : St) : ∀ (ks : List Nat) (q : Nat), (dropM st ks).L q = if q ∈ ks then .none else st.L q := by
  intro ks
  induction ks generalizing st with
  | nil => intro q; simp [dropM]
  | cons k ks ih =>
    intro q
    simp only [dropM, ih, St.L_setL]
    by_cases h1 : q ∈ ks
    · simp [h1]
    · by_cases h2 : q = k
      · simp [h2]
      · simp [h1, h2]
theorem dropM_nx (st : St) : ∀ (ks : List Nat), (dropM st ks).nx = st.nx := by
  intro ks
  induction ks generalizing st with
  | nil => rfl
  | cons k ks ih => simp only [dropM, ih]; rfl
theorem Rel.dropM (h : Rel za w0 st E w Z B) : ∀ ks : List Nat, Rel za w0 (dropM st ks) E w Z B := by
  intro ks
  induction ks generalizing st with
  | nil => exact h
  | cons k ks ih => exact ih (h.drop k)
theorem Rel.addL (h : Rel za w0 st E w Z B) {k : Nat} {lc : LC} (hk : k < st.nx) (hl : RL (up za w0 k) w Z B k lc) (hd : ∀ j b, j ≠ k → live (st.L j) → root (B k) = some b → root (B j) ≠ some b) (hr : refL st.nx lc) (hmk : ∀ b, za.k0 ≤ k → root (B k) = some b → za.b0 ≤ b) : Rel za w0 (st.setL k lc) E w Z B := by
  refine ⟨h.ext, h.zlt, h.slots, fun q => ?_, fun q q' b hne l1 l2 hb hb' => ?_, h.refs, fun q => ?_, fun q hq => ?_, h.bone, h.zin, h.nms, h.bfix, h.mrk.1, fun q b hk' hl' hb' => (by
    rw [St.L_setL] at hl'
    by_cases hqk : q = k
    · subst hqk; exact hmk b hk' hb'
    · rw [if_neg hqk] at hl'; exact h.mrk.2 q b hk' hl' hb')⟩
  · rw [St.L_setL]; split
    · rename_i hq; rw [hq]; exact hl
    · exact h.locs q
  · rw [St.L_setL] at l1 l2
    by_cases hq : q = k
    · subst hq
      rw [if_neg (Ne.symm hne)] at l2
      exact hd q' b (Ne.symm hne) l2 hb hb'
    · rw [if_neg hq] at l1
      by_cases hq' : q' = k
      · subst hq'; exact hd q b hq l1 hb' hb
      · rw [if_neg hq'] at l2; exact h.disj q q' b hne l1 l2 hb hb'
  · rw [St.L_setL]; split
    · exact hr
    · exact h.refl q
  · rw [St.L_setL, if_neg (by have : st.nx ≤ q := hq; omega)]
    exact h.fresh q hq
theorem mutIds_vals {as : List AM} : ∀ {ss : List SV} {vs : List Value} {mu : List Nat}, RSs w Z B ss vs → mutIds as ss = some mu → (∀ k ∈ mu, isBoxL (st.L k) = true → ∃ b, B k = .pointer (some ⟨b, 0, none⟩)) → mutVals as vs = mu.map B := by
  induction as with
  | nil =>
    intro ss vs mu hs hm _
    cases ss with
    | nil => cases hm; rw [show vs = [] from hs]; rfl
    | cons _ _ => cases hm
  | cons a as ih =>
    intro ss vs mu hs hm hb
    cases ss with
    | nil => cases a <;> cases hm
    | cons s ss =>
      obtain ⟨v, vs', e, h1, h2⟩ := hs
      subst e
      cases a with
      | val _ _ => exact ih h2 hm hb
      | fn _ _ => exact ih h2 hm hb
      | row _ _ =>
        simp only [mutIds, bind_some, Option.map_eq_some_iff] at hm
        obtain ⟨q, hq, mu', hm', rfl⟩ := hm
        rw [rowOf_ok hq] at h1
        obtain ⟨_, _, e1, e2, _⟩ := h1
        cases e1
        simp only [mutVals, isMut, cond_true, List.map_cons, ih h2 hm' (fun k hk => hb k (by simp [hk]))]
        rw [show v = B q from e2]
      | box _ _ =>
        simp only [mutIds, bind_some, Option.map_eq_some_iff] at hm
        obtain ⟨q, hq, mu', hm', rfl⟩ := hm
        rw [boxOf_ok hq] at h1
        obtain ⟨_, _, e1, ⟨b, e2, e3⟩, _⟩ := h1
        cases e1
        simp only [mutVals, isMut, cond_true, List.map_cons, ih h2 hm' (fun k hk => hb k (by simp [hk]))]
        rw [e3, e2]
theorem nodupB_spec : ∀ {l : List Nat}, nodupB l = true → l.Nodup
  | [], _ => List.nodup_nil
  | k :: l, h => by
    simp only [nodupB, Bool.and_eq_true, Bool.not_eq_true'] at h
    refine List.nodup_cons.2 ⟨fun hk => ?_, nodupB_spec h.2⟩
    have := List.any_eq_false.1 h.1 k hk
    simp at this
theorem any_mem {mu : List Nat} {k : Nat} : mu.any (Nat.beq k) = true ↔ k ∈ mu := by
  simp only [List.any_eq_true]
  exact ⟨fun ⟨x, hx, he⟩ => (Nat.eq_of_beq_eq_true he) ▸ hx, fun h => ⟨k, h, by simp⟩⟩
/-- All that may be written is there. -/
theorem packK_live {sh : Bool} {mu0 : List Nat} : ∀ {as : List AM} {ss : List SV} {k : dens as → Prop} {mu : List Nat}, packK cx sp st mu0 sh as ss k → mutIds as ss = some mu → ∀ q ∈ mu, live (st.L q)
  | [], [], _, mu, _, hm => by cases hm; simp
  | [], _ :: _, _, _, hk, _ => hk.elim
  | a :: r, [], _, _, hk, _ => by cases a <;> exact hk.elim
  | .val a t :: r, s :: ss, k, mu, hk, hm => by
    simp only [packK] at hk
    split at hk
    · exact packK_live hk hm
    · exact hk.elim
  | .row t e0 :: r, s :: ss, k, mu, hk, hm => by
    simp only [packK] at hk
    simp only [mutIds, bind_some, Option.map_eq_some_iff] at hm
    obtain ⟨q, hq, mu', hm', rfl⟩ := hm
    rw [hq] at hk
    simp only at hk
    split at hk
    · rename_i l hl
      obtain ⟨_, hk⟩ := bif_prop hk
      intro j hj
      rcases List.mem_cons.1 hj with rfl | hj
      · rw [rowAt_ok hl]; trivial
      · exact packK_live hk hm' j hj
    · exact hk.elim
  | .box T t :: r, s :: ss, k, mu, hk, hm => by
    simp only [packK] at hk
    simp only [mutIds, bind_some, Option.map_eq_some_iff] at hm
    obtain ⟨q, hq, mu', hm', rfl⟩ := hm
    rw [hq] at hk
    simp only at hk
    split at hk
    · rename_i l hl
      obtain ⟨_, hk⟩ := bif_prop hk
      intro j hj
      rcases List.mem_cons.1 hj with rfl | hj
      · obtain ⟨cs, hc, _⟩ := boxAt_ok hl; rw [hc]; trivial
      · exact packK_live hk hm' j hj
    · exact hk.elim
  | .fn as' r' :: r, s :: ss, k, mu, hk, hm => by
    simp only [packK] at hk
    split at hk
    · split at hk
      · obtain ⟨_, hk⟩ := bif_prop hk
        obtain ⟨_, _, _, hk⟩ := hk
        exact packK_live hk hm
      · exact hk.elim
    · split at hk
      · exact packK_live hk.2 hm
      · exact hk.elim
    · exact hk.elim
theorem dis_of (h : Rel za w0 st E w Z B) : ∀ {mu : List Nat}, mu.Nodup → (∀ q ∈ mu, live (st.L q)) → Dis (mu.map B)
  | [], _, _ => trivial
  | q :: mu, hn, hl => by
    rw [List.nodup_cons] at hn
    refine ⟨fun b hb u hu => ?_, dis_of h hn.2 (fun k hk => hl k (by simp [hk]))⟩
    obtain ⟨q', hq', rfl⟩ := List.mem_map.1 hu
    exact h.disj q q' b (fun e => hn.1 (e ▸ hq')) (hl q (by simp)) (hl q' (by simp [hq'])) hb
theorem ExtM.transM {m m' : Nat → Prop} {a b c : World} (h : ExtM m a b) (k : ExtM m' b c) (hm : ∀ q, m' q → a.heap.size ≤ q ∨ m q) : ExtM m a c :=
  ⟨k.os.trans h.os, k.tape.trans h.tape, k.output.trans h.output, Nat.le_trans h.size k.size, fun i hi hn => (k.block i (Nat.lt_of_lt_of_le hi h.size) (fun hh => by rcases hm i hh with g | g; exact absurd hi (by omega); exact hn g)).trans (h.block i hi hn)⟩
/-- What was written is put into the state. -/
theorem addM_ok {st0 : St} {Zn Z' : Nat → Prop} {B' : Nat → Value} (h0 : Rel za w0 st0 E w Z B) (hB : ∀ k, k < st0.nx → B' k = B k) (hzn : ∀ b, Zn b → Z' b) (hnz : ∀ k b, live (st0.L k) → root (B k) = some b → ¬ Z' b) :
    ∀ {as : List AM} {vs : List Value} {o : outs as} {mu : List Nat} {stx : St}, Rel za w0 stx E w' Z' B' → st0.nx ≤ stx.nx → mu.Nodup → (∀ q ∈ mu, live (st0.L q)) → mutVals as vs = mu.map B → RepO w' Zn as vs o → (∀ j b, live (stx.L j) → root (B' j) = some b → w.heap.size ≤ b ∨ (j < st0.nx ∧ live (st0.L j) ∧ j ∉ mu)) →
      Rel za w0 (addM as o mu stx) E w' Z' B' ∧ (addM as o mu stx).nx = stx.nx := by
  intro as
  induction as with
  | nil => intro vs o mu stx h1 hnx hn hl hv ho hq; cases mu <;> exact ⟨h1, rfl⟩
  | cons a as ih =>
    intro vs o mu stx h1 hnx hn hl hv ho hq
    cases vs with
    | nil => cases a <;> exact ho.elim
    | cons v vs =>
      have step : ∀ (k : Nat) (mu' : List Nat) (lc : LC) (o' : outs as), (k :: mu').Nodup → (∀ q ∈ k :: mu', live (st0.L q)) → mutVals as vs = mu'.map B → RepO w' Zn as vs o' → live lc → RL (up za w0 k) w' Z' B' k lc → refL stx.nx lc → (∀ j b, live (stx.L j) → root (B' j) = some b → w.heap.size ≤ b ∨ (j < st0.nx ∧ live (st0.L j) ∧ j ∉ k :: mu')) →
          Rel za w0 (addM as o' mu' (stx.setL k lc)) E w' Z' B' ∧ (addM as o' mu' (stx.setL k lc)).nx = stx.nx := fun k mu' lc o' hn hl hv ho hll hrl hrf hq => by
        have hk0 := hl k (by simp)
        have hkn : k < st0.nx := live_lt h0 hk0
        rw [List.nodup_cons] at hn
        have h2 := h1.addL (k := k) (lc := lc) (Nat.lt_of_lt_of_le hkn hnx) hrl (fun j b hjk hj hb hb' => by
          rw [hB k hkn] at hb
          rcases hq j b hj hb' with g | ⟨g1, g2, g3⟩
          · have := ((h0.locs k).root hk0 hb).2.1; omega
          · rw [hB j g1] at hb'
            exact h0.disj j k b hjk g2 hk0 hb' hb) hrf (fun b hkk hb => by rw [hB k hkn] at hb; exact h0.mrk.2 k b hkk hk0 hb)
        refine ih h2 hnx hn.2 (fun q hq => hl q (by simp [hq])) hv ho (fun j b hj hb => ?_)
        rw [St.L_setL] at hj
        by_cases hjk : j = k
        · subst hjk
          exact .inr ⟨hkn, hk0, hn.1⟩
        · rw [if_neg hjk] at hj
          exact (hq j b hj hb).imp id fun ⟨g1, g2, g3⟩ => ⟨g1, g2, fun hh => g3 (by simp [hh])⟩
      cases a with
      | val _ _ => exact ih h1 hnx hn hl hv ho hq
      | fn _ _ => exact ih h1 hnx hn hl hv ho hq
      | row t e =>
        cases mu with
        | nil => simp [mutVals, isMut] at hv
        | cons k mu' =>
          simp only [mutVals, isMut, cond_true, List.map_cons, List.cons.injEq] at hv
          obtain ⟨⟨xs, g1, g2⟩, ho⟩ := ho
          have hk0 := hl k (by simp)
          have hkn : k < st0.nx := live_lt h0 hk0
          have hbk : B' k = v := by rw [hB k hkn, hv.1]
          refine step k mu' (.row t e o.1) o.2 hn hl hv.2 ho trivial ⟨xs, by rw [hbk]; exact g1, g2.mono fun _ _ => Rep.mono hzn (fun _ _ => rfl), fun b hb => ?_⟩ trivial hq
          rw [hbk] at hb
          have hr : root (B k) = some b := by rw [← hv.1, own_root g1]; exact hb
          exact ⟨((h0.locs k).root hk0 hr).1, hnz k b hk0 hr⟩
      | box T t =>
        cases mu with
        | nil => simp [mutVals, isMut] at hv
        | cons k mu' =>
          simp only [mutVals, isMut, cond_true, List.map_cons, List.cons.injEq] at hv
          obtain ⟨⟨b, us, g1, g2, g3⟩, ho⟩ := ho
          have hk0 := hl k (by simp)
          have hkn : k < st0.nx := live_lt h0 hk0
          have hbk : B' k = .pointer (some ⟨b, 0, none⟩) := by rw [hB k hkn, ← hv.1, g1]
          have hr : root (B k) = some b := by rw [← hv.1, g1]; rfl
          exact step k mu' (.box T (explode t o.1)) o.2 hn hl hv.2 ho trivial ⟨b, us, hbk, ((h0.locs k).root hk0 hr).1, hnz k b hk0 hr, g2, explode_ok (g3.mono hzn (fun _ _ => rfl))⟩ explode_ref hq
/-- A call, told. -/
theorem call_next (h : Rel za w0 st E w Z B) {s : FSpec} {x : dens s.args} {vs : List Value} {g : FuncId} {mu : List Nat} (hm : Meets cx.P g s) (hre : RepAs cx.P w (lz st mu B Z s.shared) s.args vs x) (hmv : mutVals s.args vs = mu.map B) (hnd : mu.Nodup) (hlv : ∀ q ∈ mu, live (st.L q)) (hpre : s.pre x) :
    Gw.Ret cx.P g vs w fun v w' => ExtM (mset s.args vs) w w' ∧ ∃ r o us, rwf s.res r ∧ owf s.args o ∧ s.post x r ∧ (hasMut s.args = true → s.mpost x r o) ∧ v = valOf us ∧ ∃ Z' B', Rel za w0 (addM s.args o mu (placeR s.res r (dropM st mu)).2) E w' Z' B' ∧ RSs w' Z' B' (placeR s.res r (dropM st mu)).1 us ∧ (∀ q ∈ (placeR s.res r (dropM st mu)).1, refS (addM s.args o mu (placeR s.res r (dropM st mu)).2).nx q) := by
  refine (hm w _ vs x (lz_lt h) hre (by rw [hmv]; exact dis_of h hnd hlv) hpre).mono fun v w' ⟨hx, r, o, us, Zn, hpost, hmpost, hv, hzn, hrep, hro⟩ => ?_
  have hms : ∀ b, mset s.args vs b → ∃ q ∈ mu, root (B q) = some b := fun b ⟨u, hu, hb⟩ => by
    rw [hmv] at hu
    obtain ⟨q, hq, rfl⟩ := List.mem_map.1 hu
    exact ⟨q, hq, hb⟩
  have hzn' : ∀ b, Zn b → Z b ∨ (w.heap.size ≤ b ∧ b < w'.heap.size) := fun b hb => by
    rcases hzn b hb with hb | ⟨hs, hb⟩
    · exact .inr hb
    · rcases hb with hb | ⟨hf, _⟩
      · exact .inl hb
      · rw [hs] at hf; cases hf
  have h1 : Rel za w0 (dropM st mu) E w' (fun b => Z b ∨ Zn b) B := by
    refine (h.dropM mu).keep (h.ext.transM hx fun b hb => ?_) hx.size (fun b hb => hx.block b ?_ ?_) (fun _ => .inl) (fun b hb => ?_)
    · obtain ⟨q, hq, hqb⟩ := hms b hb
      exact ((h.locs q).root (hlv q hq) hqb).1.m
    · rcases hb with hb | ⟨k, hl, hr⟩
      · exact h.zlt b hb
      · rw [dropM_L] at hl
        split at hl
        · exact hl.elim
        · exact ((h.locs k).root hl hr).2.1
    · intro hmb
      obtain ⟨q, hq, hqb⟩ := hms b hmb
      rcases hb with hb | ⟨k, hl, hr⟩
      · exact ((h.locs q).root (hlv q hq) hqb).2.2 hb
      · rw [dropM_L] at hl
        split at hl
        · exact hl.elim
        · rename_i hkm
          exact h.disj k q b (fun e => hkm (e ▸ hq)) hl (hlv q hq) hr hqb
    · rcases hb with hb | hb
      · exact .inl hb
      · rcases hzn' b hb with hb | hb
        · exact .inl hb
        · refine .inr ⟨hb.2, Nat.le_trans h.ext.size hb.1, fun k hl hr => ?_⟩
          rw [dropM_L] at hl
          split at hl
          · exact hl.elim
          · have := ((h.locs k).root hl hr).2.1; omega
  obtain ⟨B', g1, g2, g3, g4, g5, g6, g7⟩ := Rel.place h1 h.ext.size h.mrk.1 (fun _ => .inr) (fun b hb hz => by
    rcases hz with hz | hz
    · have := h.zlt b hz; omega
    · exact hz) (fun b hb q hq hr => by
      rw [dropM_L] at hq
      split at hq
      · exact hq.elim
      · have := ((h.locs q).root hq hr).2.1; omega) hrep
  rw [dropM_nx] at g4 g5
  have hold : ∀ j b, live ((placeR s.res r (dropM st mu)).2.L j) → root (B' j) = some b → w.heap.size ≤ b ∨ (j < st.nx ∧ live (st.L j) ∧ j ∉ mu) := fun j b hj hb => by
    by_cases hlt : j < st.nx
    · have := g6 j (by rw [dropM_nx]; exact hlt)
      rw [this, dropM_L] at hj
      split at hj
      · exact hj.elim
      · rename_i hjm; exact .inr ⟨hlt, hj, hjm⟩
    · exact .inl (g7 j b (by rw [dropM_nx]; omega) hj hb)
  obtain ⟨q1, q2⟩ := addM_ok (Z' := fun b => Z b ∨ Zn b) h g4 (fun _ => .inr) (fun k b hl hb hz => by
    rcases hz with hz | hz
    · exact ((h.locs k).root hl hb).2.2 hz
    · have hk := (h.locs k).root hl hb
      rcases hzn' b hz with hz | hz
      · exact hk.2.2 hz
      · omega) g1 g5 hnd hlv hmv hro hold
  exact ⟨hx, r, o, us, hrep.rwf, hro.owf, hpost, hmpost, hv, _, B', q1, g2, fun q hq => by rw [q2]; exact g3 q hq⟩
variable {d : Tmp} {ty : TypeId} {pos : String} {aft : Array Edge} {gd : Option (Nat × Bool)}
theorem RSs_len : ∀ {ss : List SV} {vs : List Value}, RSs w Z B ss vs → ss.length = vs.length
  | [], _, h => by rw [show _ = _ from h]; rfl
  | _ :: _, _, ⟨v, vs', e, _, h2⟩ => by rw [e, List.length_cons, List.length_cons, RSs_len h2]
theorem packB_ok (h : Rel za w0 st E w Z B) : ∀ {as : List (Bool × Ty)} {ss : List SV} {vs : List Value} {y : densB as}, RSs w Z B ss vs → packB st as ss = some y → RepB w (lz st [] B Z false) as vs y
  | [], [], vs, _, hs, _ => hs
  | [], _ :: _, _, _, _, hp => by cases hp
  | (a, t) :: r, [], _, _, _, hp => by cases hp
  | (a, t) :: r, s :: ss, _, x, ⟨v, vs', e, h1, h2⟩, hp => by
    simp only [packB, bind_some, Option.map_eq_some_iff] at hp
    obtain ⟨y, hy, z, hz, rfl⟩ := hp
    exact ⟨v, vs', e, packA_ok h h1 hy, packB_ok h h2 hz⟩
theorem callGo_ok (h : Rel za w0 st E w Z B) (hsp : SpOk cx.P sp) {g : FuncId} {s : FSpec} {ss : List SV} {f : Operand} {args : List Operand} {ts : Array TypeId} {cap : List Value} (hf : Gw.ev E f = .func (.func g) #[] cap.toArray) (hrs : RSs w Z B ss (args.map (Gw.ev E) ++ cap)) (hfs : findO g sp = some s) (hen : enters cx.P g = true) (hs : callGo cx sp st d s ss k) (hg : wantedE all ⟨some d, .call ⟨.value f, args.toArray, ts⟩, ty, pos, aft, gd⟩ E = true) :
    stepI cx.P all ⟨some d, .call ⟨.value f, args.toArray, ts⟩, ty, pos, aft, gd⟩ (NxE za w0 w (hasMut s.args) k) E w := by
  unfold callGo at hs
  split at hs
  · rename_i mu hmu
    obtain ⟨hnd, hs⟩ := bif_prop hs
    have hnd := nodupB_spec hnd
    have hboxes : ∀ k ∈ mu, isBoxL (st.L k) = true → ∃ b, B k = .pointer (some ⟨b, 0, none⟩) := fun k _ hk => by
      have hL := h.locs k
      cases hl : st.L k <;> rw [hl] at hk hL <;> try (cases hk)
      obtain ⟨b, _, e, _⟩ := hL
      exact ⟨b, e⟩
    have hmv := mutIds_vals hrs hmu hboxes
    cases hmt : hasMut s.args with
    | true =>
      simp only [hmt, cond_true] at hs
      have hlv := packK_live hs hmu
      obtain ⟨x, hre, hpre, hs⟩ := packK_ok h hsp hrs hs
      refine step_c (enters_fn hf hen rfl) (call_next h (hsp g s hfs) hre hmv hnd hlv hpre) hg ?_
      rintro v w' ⟨hx, r, o, us, hwf, how, hpost, hmp, rfl, Z', B', g1, g2, g3⟩
      exact ⟨fun hh => (by cases hh), _, _, _, g1.setS d (valOf_ok g2 _) (dvOf_ref g3), hs r o hwf how hpost (hmp hmt)⟩
    | false =>
      simp only [hmt, cond_false] at hs
      have hlv := packK_live hs hmu
      obtain ⟨x, hre, hpre, hs'⟩ := packK_ok h hsp hrs hs
      have hmn : mu = [] := by
        have := noMut_mut hmt (args.map (Gw.ev E) ++ cap)
        rw [hmv] at this
        simpa using this
      subst hmn
      refine step_c (enters_fn hf hen rfl) (call_next h (hsp g s hfs) hre hmv hnd hlv hpre) hg ?_
      rintro v w' ⟨hx, r, o, us, hwf, how, hpost, hmp, rfl, Z', B', g1, g2, g3⟩
      have had : ∀ (as : List AM) (o : outs as) (st' : St), hasMut as = false → addM as o [] st' = st' := by
        intro as
        induction as with
        | nil => intros; rfl
        | cons a as ih =>
          intro o st' ha
          simp only [hasMut, List.any_cons, Bool.or_eq_false_iff] at ha
          cases a with
          | val _ _ => exact ih o st' ha.2
          | fn _ _ => exact ih o st' ha.2
          | row _ _ => cases ha.1
          | box _ _ => cases ha.1
      rw [had _ _ _ hmt] at g1 g3
      refine ⟨fun _ => hx.ext (fun b ⟨u, hu, _⟩ => by rw [noMut_mut hmt] at hu; cases hu), _, _, _, g1.setS d (valOf_ok g2 _) (dvOf_ref g3), hs' r hwf hpost⟩
  · exact hs.elim
theorem callSem_ok (h : Rel za w0 st E w Z B) (hsp : SpOk cx.P sp) {f : Operand} {args : List Operand} {ts : Array TypeId} (hs : callSem cx sp st d f args k) (hg : wantedE all ⟨some d, .call ⟨.value f, args.toArray, ts⟩, ty, pos, aft, none⟩ E = true) :
    stepI cx.P all ⟨some d, .call ⟨.value f, args.toArray, ts⟩, ty, pos, aft, none⟩ (NxE za w0 w (wrO sp st ⟨some d, .call ⟨.value f, args.toArray, ts⟩, ty, pos, aft, none⟩) k) E w := by
  unfold callSem at hs
  split at hs
  · rename_i P' as r ok φ hfc
    split at hs
    · rename_i ss hss
      split at hs
      · rename_i y hy
        obtain ⟨rfl, hok, hs⟩ := hs
        obtain ⟨g, caps, hf, hen, hcall⟩ := (h.c1 (ctxNil E) hfc).1
        have hrs := (evL_ok h (ctxNil E) hss).1
        have hre := packB_ok h hrs hy
        refine step_c (enters_fn hf hen rfl) (hcall w _ _ y (fun _ _ => rfl) h.zlt (lz_lt h) hre hok) hg ?_
        rintro v w' ⟨hx, hrep⟩
        have h1 := h.more (Z' := Z) hx (fun _ => id) (fun _ => .inl)
        exact ⟨fun _ => hx, _, _, _, h1.setS d (x := .one ⟨false, explode r (φ y)⟩) (RepV.explode (a := false) (Rep.mono (fun _ hh => hh.elim) (fun _ hh => hh.elim) hrep)) explode_ref, hs (Rep.wf hrep)⟩
      · exact hs.elim
    · exact hs.elim
  · rename_i hnf
    split at hs
    · rename_i g ss hcal
      split at hs
      · rename_i s hfs
        obtain ⟨hen, hs⟩ := bif_prop hs
        have hwr : wrO sp st ⟨some d, .call ⟨.value f, args.toArray, ts⟩, ty, pos, aft, none⟩ = false → hasMut s.args = false := fun hh => by
          simp only [wrO, Bool.or_eq_false_iff] at hh
          have h2 := hh.2
          simp only [mutCall] at h2
          simp only [callee, Option.bind_eq_bind, bind_some] at hcal
          obtain ⟨c, hc, ss', hss', hcal⟩ := hcal
          rw [show (st.ev [] f).bind c1 = some c from bind_some.2 hc] at h2
          split at hcal
          · rename_i g' ks
            obtain ⟨_, hcal⟩ := bif_none hcal
            cases hcal
            simp only [hfs] at h2
            exact h2
          · cases hcal
        have conv : ∀ {E' : Env} {w' : World}, NxE za w0 w (hasMut s.args) k E' w' → NxE za w0 w (wrO sp st ⟨some d, .call ⟨.value f, args.toArray, ts⟩, ty, pos, aft, none⟩) k E' w' := fun ⟨a, b⟩ => ⟨fun hh => a (hwr hh), b⟩
        cases hsh : s.shared with
        | true =>
          simp only [hsh, cond_true] at hs
          obtain ⟨Z1, h1⟩ := h.settleA (as := s.args) (ss := ss)
          split at hs
          · rename_i g' ss' hcal'
            obtain ⟨hgg, hs'⟩ := bif_prop hs
            have := Nat.eq_of_beq_eq_true hgg
            subst this
            obtain ⟨cap, hf, hrs, _⟩ := callee_ok h1 (ctxNil E) hcal'
            exact stepI_mono (fun _ _ => conv) (callGo_ok h1 hsp hf hrs hfs hen hs' hg)
          · exact hs.elim
        | false =>
          simp only [hsh, cond_false] at hs
          obtain ⟨cap, hf, hrs, _⟩ := callee_ok h (ctxNil E) hcal
          exact stepI_mono (fun _ _ => conv) (callGo_ok h hsp hf hrs hfs hen hs hg)
      · exact hs.elim
    · exact hs.elim
theorem packK_some {sh : Bool} {mu : List Nat} : ∀ {as : List AM} {ss : List SV} {k : dens as → Prop}, packK cx sp st mu sh as ss k → ∃ x, k x
  | [], [], _, h => ⟨_, h⟩
  | [], _ :: _, _, h => h.elim
  | a :: r, [], _, h => by cases a <;> exact h.elim
  | .val a t :: r, s :: ss, _, h => by
    simp only [packK] at h
    split at h
    · obtain ⟨y, hy⟩ := packK_some h; exact ⟨_, hy⟩
    · exact h.elim
  | .row t e0 :: r, s :: ss, _, h => by
    simp only [packK] at h
    split at h
    · split at h
      · obtain ⟨_, h⟩ := bif_prop h
        obtain ⟨y, hy⟩ := packK_some h; exact ⟨_, hy⟩
      · exact h.elim
    · exact h.elim
  | .box t e0 :: r, s :: ss, _, h => by
    simp only [packK] at h
    split at h
    · split at h
      · obtain ⟨_, h⟩ := bif_prop h
        obtain ⟨y, hy⟩ := packK_some h; exact ⟨_, hy⟩
      · exact h.elim
    · exact h.elim
  | .fn as' r' :: r, s :: ss, _, h => by
    simp only [packK] at h
    split at h
    · split at h
      · obtain ⟨_, h⟩ := bif_prop h
        obtain ⟨ok, φ, hp, h⟩ := h
        obtain ⟨y, hy⟩ := packK_some h; exact ⟨_, hy⟩
      · exact h.elim
    · split at h
      · obtain ⟨y, hy⟩ := packK_some h.2; exact ⟨_, hy⟩
      · exact h.elim
    · exact h.elim
theorem noOwn_place : ∀ {rs : List RT} {r : rdens rs} {st : St}, noOwn rs = true → (placeR rs r st).2 = st
  | [], _, _, _ => rfl
  | .val a t :: rs, r, st, h => by
    simp only [noOwn, isOwn, Bool.and_eq_true] at h
    exact noOwn_place (rs := rs) h.2
  | .own _ _ :: _, _, _, h => by simp [noOwn, isOwn] at h
theorem callSemG_ok (h : Rel za w0 st E w Z B) (hsp : SpOk cx.P sp) {t : Tmp} {b : Bool} {j : Nat} {f : Operand} {args : List Operand} {ts : Array TypeId} (hj : (all[j]?).bind (·.dst) = some t) (hfull : ctxFull st 20 t = true) (htd : t ≠ d) (hs : callSemG cx sp st (gctx st 20 t b) t b d f args k) :
    stepI cx.P all ⟨some d, .call ⟨.value f, args.toArray, ts⟩, ty, pos, aft, some (j, b)⟩ (NxE za w0 w false k) E w := by
  unfold callSemG at hs
  split at hs
  · rename_i g ss hcal
    split at hs
    · rename_i s hfs
      cases hen : enters cx.P g && noOwn s.res && !(hasMut s.args) with
      | false => simp [hen] at hs
      | true =>
        simp only [hen, cond_true] at hs
        simp only [Bool.and_eq_true, Bool.not_eq_true'] at hen
        obtain ⟨⟨hen, hno⟩, hav⟩ := hen
        have hs0 := hs
        · by_cases hw : E t = .bool b
          · have hctx := h.gctx (n := 20) hw
            have hcp := h.ctxP hctx
            obtain ⟨cap, hf, hrs, _⟩ := callee_ok h hctx hcal
            obtain ⟨x, hre, hs⟩ := packK_ok h hsp hrs hs0
            refine step_c (enters_fn hf hen rfl) (call_next (mu := []) h (hsp g s hfs) hre (noMut_mut hav _) List.nodup_nil (fun _ hh => by cases hh) (hs.1 hcp)) (on_of hj hw) ?_
            rintro v w' ⟨hx, r, o, us, hwf, _, hpost, _, rfl, Z', B', g1, g2, g3⟩
            replace hx : Ext w w' := hx.ext (fun b ⟨u, hu, _⟩ => by rw [noMut_mut hav] at hu; cases hu)
            have hk := hs.2 r (fun _ => ⟨hwf, hpost⟩)
            have had : ∀ (as : List AM) (o : outs as) (st' : St), hasMut as = false → addM as o [] st' = st' := by
              intro as
              induction as with
              | nil => intros; rfl
              | cons a as ih =>
                intro o st' ha
                simp only [hasMut, List.any_cons, Bool.or_eq_false_iff] at ha
                cases a with
                | val _ _ => exact ih o st' ha.2
                | fn _ _ => exact ih o st' ha.2
                | row _ _ => cases ha.1
                | box _ _ => cases ha.1
            rw [had _ _ _ hav] at g1 g3
            simp only [dropM] at g1 g2 g3
            rw [noOwn_place hno] at g1
            have hnx : (placeR s.res r st).2.nx = st.nx := by rw [noOwn_place hno]
            split at hk
            · rename_i sv hsv
              rw [hsv] at g2 g3
              obtain ⟨u, us', e, q1, q2⟩ := g2
              rw [show us' = [] from q2] at e
              subst e
              refine ⟨fun _ => hx, _, _, _, g1.setS d (x := .cnd t b sv) (.inl ⟨?_, q1⟩) (by have := g3 sv (by simp); rwa [hnx] at this), hk⟩
              rw [upd_other _ _ _ _ htd]; exact hw
            · exact hk.elim
          · have hcn := ctx_not h hfull hw
            obtain ⟨x, hs⟩ := packK_some hs0
            have hk := hs.2 (rdflt s.res) (fun hh => absurd hh hcn)
            split at hk
            · rename_i sv hsv
              have hoff : wantedE all ⟨some d, .call ⟨.value f, args.toArray, ts⟩, ty, pos, aft, some (j, b)⟩ E = false := by
                unfold wantedE yieldedE
                simp only [hj]
                cases hEt : E t with
                | bool b' => simp only [beq_eq_false_iff_ne, ne_eq, Option.some.injEq]; intro hh; exact hw (by rw [hEt, hh])
                | _ => rfl
              refine step_off hoff ⟨fun _ => Ext.refl w, _, _, _, h.setS d (x := .cnd t b sv) (.inr ⟨?_, rfl⟩) ?_, hk⟩
              · rw [upd_other _ _ _ _ htd]; exact hw
              · have : ∀ {rs : List RT} {r : rdens rs}, noOwn rs = true → ∀ q ∈ (placeR rs r st).1, refS st.nx q := by
                  intro rs
                  induction rs with
                  | nil => intro r _ q hq; simp [placeR] at hq
                  | cons r0 rs ih =>
                    intro r hn q hq
                    cases r0 with
                    | own _ _ => simp [noOwn, isOwn] at hn
                    | val a t =>
                      simp only [noOwn, isOwn, Bool.and_eq_true] at hn
                      simp only [placeR, List.mem_cons] at hq
                      rcases hq with rfl | hq
                      · exact explode_ref
                      · exact ih hn.2 q hq
                exact this hno sv (by rw [hsv]; simp)
            · exact hk.elim
    · exact hs.elim
  · exact hs.elim
theorem semOp_ok {o : Oper} (h : Rel za w0 st E w Z B) (hmkd : za.b0 = 0 ∨ okMark za.k0 st o.op = true) (hty : tysOk cx.P cx.tys = true) (hsp : SpOk cx.P sp) (hs : semOp cx sp all o k st) : stepI cx.P all o (NxE za w0 w (wrO sp st o) k) E w := by
  obtain ⟨dst, op, ty, pos, aft, gd⟩ := o
  unfold semOp at hs
  simp only at hs
  split at hs
  · have hwant : ∀ dst, wantedE all ⟨dst, op, ty, pos, aft, none⟩ E = true := fun _ => rfl
    have nxw : ∀ {E' : Env} {w' : World}, NxE za w0 w (wrB op) k E' w' → NxE za w0 w (wrO sp st ⟨dst, op, ty, pos, aft, none⟩) k E' w' := fun ⟨a, b⟩ => ⟨fun hh => a (by simp only [wrO, Bool.or_eq_false_iff] at hh; exact hh.1), b⟩
    split at hs
    · rename_i φ v hp
      split at hs
      · rename_i d
        replace hs := andP_iff.1 hs
        obtain ⟨u, h1, h2, h3⟩ := pureOp_ok (ty := ty) h hty (ctxNil E) hp hs.1
        exact step_y (h1 w (fun _ => Ext.refl w)) (hwant _) ⟨fun _ => Ext.refl w, _, _, _, h.setS d (h2 _) h3, hs.2⟩
      · exact hs.elim
    · split at hs
      · split at hs
        · split at hs
          · rename_i φ st' hst
            refine stepI_mono ?_ (storeS_ok h hty hst hs (hwant _))
            rintro E' w' ⟨_, n⟩
            exact ⟨fun hh => (by simp [wrO, wrB] at hh), n⟩
          · exact hs.elim
        · exact hs.elim
      · split at hs
        · split at hs
          · rename_i st' hst
            obtain ⟨w', g1, _, Z', B', g2⟩ := mapUpS_ok (ty := ty) h hty hst
            exact step_s g1 (hwant _) ⟨fun hh => (by simp [wrO, wrB] at hh), _, _, _, g2, hs⟩
          · exact hs.elim
        · exact hs.elim
      · split at hs
        · split at hs
          · rename_i st' hst
            obtain ⟨w', _, g1, Z', B', g2⟩ := mapUpS_ok (ty := ty) h hty hst
            exact step_s g1 (hwant _) ⟨fun hh => (by simp [wrO, wrB] at hh), _, _, _, g2, hs⟩
          · exact hs.elim
        · exact hs.elim
      · split at hs
        · rename_i f args ts heq xx d
          have := callSem_ok (ty := ty) (pos := pos) (aft := aft) (all := all) (ts := ts) h hsp hs (by rfl)
          simpa using this
        · exact hs.elim
      · split at hs
        · split at hs
          · rename_i heff
            replace hs := andP_iff.1 hs
            exact stepI_mono (fun _ _ => nxw) (effS_ok h (hmkd.imp id fun hh op e => by subst e; exact hh) hty heff hs.1 hs.2 (hwant _))
          · exact hs.elim
        · exact hs.elim
  · rename_i j b
    split at hs
    · rename_i t hj
      cases hfull : ctxFull st 20 t with
      | false => simp [hfull] at hs
      | true =>
        simp only [hfull, cond_true] at hs
        split at hs
        · rename_i d
          obtain ⟨htd', hs⟩ := bif_prop hs
          · have htd : t ≠ d := Nat.ne_of_beq_eq_false (by simpa using htd')
            split at hs
            · rename_i φ s hp
              cases hrb : s.cs.all (refB st.nx) with
              | false => simp [hrb] at hs
              | true =>
              simp only [hrb, cond_true] at hs
              replace hs := andP_iff.1 hs
              rw [impP_iff] at hs
              by_cases hw : E t = .bool b
              · have hctx := h.gctx (n := 20) hw
                obtain ⟨u, h1, h2, h3⟩ := pureOp_ok (ty := ty) h hty hctx hp (hs.1 (h.ctxP hctx))
                refine step_y (h1 w (fun _ => Ext.refl w)) (on_of hj hw) ⟨fun _ => Ext.refl w, _, _, _, h.setS d (x := .cnd t b s) (.inl ⟨?_, h2 E⟩) h3, hs.2⟩
                rw [upd_other _ _ _ _ htd]; exact hw
              · have hoff : wantedE all ⟨some d, op, ty, pos, aft, some (j, b)⟩ E = false := by
                  unfold wantedE yieldedE
                  simp only [hj]
                  cases hEt : E t with
                  | bool b' => simp only [beq_eq_false_iff_ne, ne_eq, Option.some.injEq]; intro hh; exact hw (by rw [hEt, hh])
                  | _ => rfl
                refine step_off hoff ⟨fun _ => Ext.refl w, _, _, _, h.setS d (x := .cnd t b s) (.inr ⟨?_, rfl⟩) ?_, hs.2⟩
                · rw [upd_other _ _ _ _ htd]; exact hw
                · exact fun c hc => refB_ok (List.all_eq_true.1 hrb c hc)
            · exact hs.elim
            · split at hs
              · rename_i f args ts _ heq
                have := callSemG_ok (ty := ty) (pos := pos) (aft := aft) (d := d) (all := all) (ts := ts) h hsp hj hfull htd hs
                refine stepI_mono (next := NxE za w0 w false k) ?_ (by simpa using this)
                rintro _ _ ⟨a, b⟩
                exact ⟨fun _ => a rfl, b⟩
              · exact hs.elim
        · exact hs.elim
    · exact hs.elim
theorem semOps_ok (hb0 : za.b0 = 0) (hty : tysOk cx.P cx.tys = true) (hsp : SpOk cx.P sp) : ∀ {rest : List Oper} {st : St} {E : Env} {w : World} {Z : Nat → Prop} {B : Nat → Value}, Rel za w0 st E w Z B → semOps cx sp all rest k st → opsI cx.P all (Nx za w0 k) rest E w
  | [], _, _, _, _, _, h, hs => ⟨_, _, _, h, hs⟩
  | o :: r, _, _, _, _, _, h, hs => by
    refine stepI_mono ?_ (semOp_ok h (.inl hb0) hty hsp hs)
    rintro E' w' ⟨_, st', Z', B', h', hk⟩
    exact semOps_ok hb0 hty hsp h' hk
end
end Go.Vc
