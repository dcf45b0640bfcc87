/- Code: what has to be shown of it, and that this is enough. -/
import Derived.Test.YtedfiemhfpcggaaVc18
namespace Go.Vc
open Go Go.RowKit Go.Gw

structure K where
  n : St → Prop
  x : Nat → St → Prop
  r : St → Prop
def K.at (k : K) : Exit → St → Prop
  | .normal => k.n
  | .exit i => k.x i
  | .ret => k.r
  | _ => fun _ => False
structure An where
  join : List (Nat × Ann) := []
  loop : List (Nat × Ann) := []
  plan : List (Nat × List Nat × List Nat × Plan) := []
def lead : Code → Option Nat
  | .region id _ _ => some id
  | .seq a b => match lead a with
    | some i => some i
    | none => lead b
  | .cond _ a b => match lead a with
    | some i => some i
    | none => lead b
  | .block _ c => lead c
  | .loop c => lead c
  | _ => none
def annOf (l : List (Nat × Ann)) : Option Nat → Option Ann
  | some i => findO i l
  | none => none
/-- Two ways meet. -/
def Join (A : Ann) (st : St) (body : (St → Prop) → Prop) (rest : St → Prop) : Prop :=
  ∃ J : A.den → Prop, body (arrive A st J) ∧ ∀ p, A.wf p → J p → rest (reflect A st p)
/-- A loop: an invariant and a number that falls. -/
def Loop (A : Ann) (st : St) (body : (St → Prop) → St → Prop) : Prop :=
  match gath A st with
  | some (st1, p0) => bif (A.rowL.all fun x => Nat.blt x.1 st1.nx) && (A.boxL.all fun x => Nat.blt x.1 st1.nx) then
      (∃ (I : A.den → Prop) (μ : A.den → Nat), I p0 ∧ ∀ p, A.wf p → I p → body (arrive A st1 fun p' => I p' ∧ μ p' < μ p) (reflect A st1 p)) else False
  | none => False
def semPure (cx : Cx) (all : List Oper) (o : Oper) (k : St → Prop) (st : St) : Prop :=
  match o.guard with
  | none => match pureOp cx st [] o.op with
    | some (φ, v) => match o.dst with
      | some d => andP φ (k (st.setS d v))
      | none => False
    | none => False
  | some (j, b) => match (all[j]?).bind (·.dst) with
    | some t => bif ctxFull st 20 t then (match o.dst with
      | some d => bif !(Nat.beq t d) then (match pureOp cx st (gctx st 20 t b) o.op with
        | some (φ, .one s) => bif s.cs.all (refB st.nx) then andP (impP (ctxP st (gctx st 20 t b)) φ) (k (st.setS d (.cnd t b s))) else False
        | _ => False) else False
      | none => False) else False
    | none => False
def semPlan (cx : Cx) (sp : Specs) (all : List Oper) (tails : List Nat) (n0 : Nat) : Plan → Bool → Bool → (St → Prop) → St → Prop
  | .done, _, _, k => k
  | .q i p, pre, t, k => fun st => match all[i]? with
    | some o => bif pre then semPure cx all o (semPlan cx sp all tails n0 p pre t k) st else False
    | none => False
  | .p i p, pre, t, k => fun st => match all[i]? with
    | some o => bif !(memB o.op) then semPure cx all o (semPlan cx sp all tails n0 p pre t k) st else False
    | none => False
  | .e i p, _, t, k => fun st => match all[i]? with
    | some o => bif ((t || tails.contains i) || !(wrO sp st o) || frO n0 st o.op) && okMark n0 st o.op then semOp cx sp all o (semPlan cx sp all tails n0 p false (t || tails.contains i) k) st else False
    | none => False
  | .br i p j p', _, t, k => fun st =>
    (match all[i]? with
    | some o => bif ((t || tails.contains i) || !(wrO sp st o) || frO n0 st o.op) && okMark n0 st o.op then semOp cx sp all o (semPlan cx sp all tails n0 p false (t || tails.contains i) k) st else False
    | none => False) ∧
    (match all[j]? with
    | some o => bif ((t || tails.contains j) || !(wrO sp st o) || frO n0 st o.op) && okMark n0 st o.op then semOp cx sp all o (semPlan cx sp all tails n0 p' false (t || tails.contains j) k) st else False
    | none => False)
def semC (cx : Cx) (sp : Specs) (an : An) : Code → K → St → Prop
  | .skip, k => k.n
  | .label _, k => k.n
  | .region id ops draw, k => fun st => bif draw then (match findO id an.plan with
      | some (heads, tails, p) => bif planned ops.toList heads tails p && cx.P.follows .mixedOrders then semPlan cx sp ops.toList tails st.nx p true false k.n st else False
      | none => False) else semOps cx sp ops.toList ops.toList k.n st
  | .seq a b, k => fun st => match annOf an.join (lead b) with
    | some A => Join A st (fun j => semC cx sp an a { k with n := j } st) (semC cx sp an b k)
    | none => semC cx sp an a { k with n := semC cx sp an b k } st
  | .cond c a b, k => fun st => match (st.ev [] c).bind boolC with
    | some e => (e = true → semC cx sp an a k st) ∧ (e = false → semC cx sp an b k st)
    | none => False
  | .block id c, k => semC cx sp an c { k with x := fun i st => bif Nat.beq i id then k.n st else k.x i st }
  | .loop c, k => fun st => match annOf an.loop (lead c) with
    | some A => Loop A st fun j => semC cx sp an c { k with n := j }
    | none => False
  | .exit i, k => k.x i
  | .ret, k => k.r
  | _, _ => fun _ => False

section
variable {za : Zn} {w0 : World} {cx : Cx} {sp : Specs} {an : An} {all : List Oper}
theorem semPure_step {o : Oper} {k k' : St → Prop} {st : St} (h : semPure cx all o k st) (hk : ∀ st', Evo st st' → k st' → k' st') : semPure cx all o k' st := by
  unfold semPure at h ⊢
  split at h
  · split at h
    · split at h
      · exact andP_iff.2 ⟨(andP_iff.1 h).1, hk _ (Evo.setS _ _ _) (andP_iff.1 h).2⟩
      · exact h
    · exact h
  · split at h
    · obtain ⟨hf, h⟩ := bif_prop h
      simp only [hf, cond_true]
      split at h
      · obtain ⟨htd, h⟩ := bif_prop h
        simp only [htd, cond_true]
        split at h
        · obtain ⟨hrb, h⟩ := bif_prop h
          simp only [hrb, cond_true]
          exact andP_iff.2 ⟨(andP_iff.1 h).1, hk _ (Evo.setS _ _ _) (andP_iff.1 h).2⟩
        · exact h
      · exact h
    · exact h
theorem semPlan_step {tails : List Nat} {n0 : Nat} : ∀ {p : Plan} {pre t : Bool} {k k' : St → Prop} {st : St}, semPlan cx sp all tails n0 p pre t k st → (∀ st', Evo st st' → k st' → k' st') → semPlan cx sp all tails n0 p pre t k' st
  | .done, _, _, _, _, st, h, hk => hk st (Evo.refl st) h
  | .q i p, pre, t, _, _, st, h, hk => by
    simp only [semPlan] at h ⊢
    split at h
    · obtain ⟨hp, h⟩ := bif_prop h
      simp only [hp, cond_true] at h ⊢
      exact semPure_step h fun st1 e1 h1 => semPlan_step h1 fun st2 e2 h2 => hk st2 (e1.trans e2) h2
    · exact h
  | .p i p, pre, t, _, _, st, h, hk => by
    simp only [semPlan] at h ⊢
    split at h
    · obtain ⟨hp, h⟩ := bif_prop h
      simp only [hp, cond_true]
      exact semPure_step h fun st1 e1 h1 => semPlan_step h1 fun st2 e2 h2 => hk st2 (e1.trans e2) h2
    · exact h
  | .e i p, pre, t, _, _, st, h, hk => by
    simp only [semPlan] at h ⊢
    split at h
    · obtain ⟨hp, h⟩ := bif_prop h
      simp only [hp, cond_true]
      exact semOp_step h fun st1 e1 h1 => semPlan_step h1 fun st2 e2 h2 => hk st2 (e1.trans e2) h2
    · exact h
  | .br i p j p', pre, t, _, _, st, h, hk => by
    simp only [semPlan] at h ⊢
    obtain ⟨h, h'⟩ := h
    constructor
    · split at h
      · obtain ⟨hp, h⟩ := bif_prop h
        simp only [hp, cond_true]
        exact semOp_step h fun st1 e1 h1 => semPlan_step h1 fun st2 e2 h2 => hk st2 (e1.trans e2) h2
      · exact h
    · split at h'
      · obtain ⟨hp, h'⟩ := bif_prop h'
        simp only [hp, cond_true]
        exact semOp_step h' fun st1 e1 h1 => semPlan_step h1 fun st2 e2 h2 => hk st2 (e1.trans e2) h2
      · exact h'
theorem Evo.told (A : Ann) (st0 : St) (p : A.den) : Evo st0 (Vc.reflect A st0 p) :=
  ⟨Nat.le_trans (Nat.le_succ _) (Evo.reflect A st0 p).ct, fun _ h0 h1 => reflect_old h0 h1, fun _ h0 h1 => reflect_oldL h0 h1⟩
theorem Evo.gath {A : Ann} {st st1 : St} {p : A.den} (h : gath A st = some (st1, p)) : Evo st st1 := by
  simp only [Vc.gath, Option.bind_eq_bind, bind_some] at h
  obtain ⟨cs0, _, cs, _, tl, _, p', _, h⟩ := h
  obtain ⟨_, h⟩ := bif_none h
  cases h
  exact Evo.settleSh _ _ _
theorem semC_step : ∀ {c : Code} {k k' : K} {st : St}, semC cx sp an c k st → (∀ e st', Evo st st' → k.at e st' → k'.at e st') → semC cx sp an c k' st := by
  intro c
  induction c with
  | skip => intro k k' st h hk; exact hk .normal st (Evo.refl st) h
  | label l => intro k k' st h hk; exact hk .normal st (Evo.refl st) h
  | region id ops draw =>
    intro k k' st h hk
    simp only [semC] at h ⊢
    cases draw with
    | true =>
      simp only [cond_true] at h ⊢
      split at h
      · obtain ⟨hp, h⟩ := bif_prop h
        simp only [hp, cond_true]
        exact semPlan_step h fun st' e => hk .normal st' e
      · exact h
    | false =>
      simp only [cond_false] at h ⊢
      exact semOps_step h fun st' e => hk .normal st' e
  | seq a b iha ihb =>
    intro k k' st h hk
    simp only [semC] at h ⊢
    split at h
    · rename_i A _
      obtain ⟨J, h1, h2⟩ := h
      refine ⟨J, iha h1 fun e st' ev hh => ?_, fun p hw hJ => ihb (h2 p hw hJ) fun e st' ev hh => ?_⟩
      · cases e with
        | normal => exact hh
        | exit i => exact hk (.exit i) st' ev hh
        | ret => exact hk .ret st' ev hh
        | _ => exact hh
      · exact hk e st' ((Evo.told A st p).trans ev) hh
    · refine iha h fun e st1 e1 hh => ?_
      cases e with
      | normal => exact ihb hh fun e st2 e2 h2 => hk e st2 (e1.trans e2) h2
      | exit i => exact hk (.exit i) st1 e1 hh
      | ret => exact hk .ret st1 e1 hh
      | _ => exact hh
  | cond c a b iha ihb =>
    intro k k' st h hk
    simp only [semC] at h ⊢
    split at h
    · exact ⟨fun e => iha (h.1 e) hk, fun e => ihb (h.2 e) hk⟩
    · exact h
  | block id c ih =>
    intro k k' st h hk
    simp only [semC] at h ⊢
    refine ih h fun e st' ev hh => ?_
    cases e with
    | exit i =>
      simp only [K.at] at hh ⊢
      cases hb : Nat.beq i id with
      | true => simp only [hb, cond_true] at hh ⊢; exact hk .normal st' ev hh
      | false => simp only [hb, cond_false] at hh ⊢; exact hk (.exit i) st' ev hh
    | normal => exact hk .normal st' ev hh
    | ret => exact hk .ret st' ev hh
    | _ => exact hh
  | loop c ih =>
    intro k k' st h hk
    simp only [semC] at h ⊢
    split at h
    · rename_i A _
      unfold Loop at h ⊢
      split at h
      · rename_i st1 p0 hg
        obtain ⟨hb, h⟩ := bif_prop h
        simp only [hb, cond_true]
        obtain ⟨I, μ, h0, h1⟩ := h
        refine ⟨I, μ, h0, fun p hw hI => ih (h1 p hw hI) fun e st' ev hh => ?_⟩
        cases e with
        | normal => exact hh
        | exit i => exact hk (.exit i) st' ((Evo.gath hg).trans ((Evo.told A st1 p).trans ev)) hh
        | ret => exact hk .ret st' ((Evo.gath hg).trans ((Evo.told A st1 p).trans ev)) hh
        | _ => exact hh
      · exact h
    · exact h
  | exit i => intro k k' st h hk; exact hk (.exit i) st (Evo.refl st) h
  | ret => intro k k' st h hk; exact hk .ret st (Evo.refl st) h
  | _ => intro k k' st h hk; exact h
/-- What is known where ways meet. -/
theorem arrive_ok {A : Ann} (hb0 : za.b0 = 0) {st0 st : St} {J : A.den → Prop} {E : Env} {w : World} {Z : Nat → Prop} {B : Nat → Value} (h : Rel za w0 st E w Z B) (ha : arrive A st0 J st) (pk : Pure za.n st0) (ev : Evo st0 st) : ∃ p, A.wf p ∧ J p ∧ ∃ Z' B', Rel za w0 (reflect A st0 p) E w Z' B' := by
  unfold arrive at ha
  split at ha
  · rename_i st1 p hg
    obtain ⟨hk, ha⟩ := bif_prop ha
    simp only [keptOk, Bool.and_eq_true, List.all_eq_true] at hk
    obtain ⟨⟨⟨k1, k2⟩, k3⟩, k4⟩ := hk
    have e1 := ev.trans (Evo.gath hg)
    have tm : ∀ {n g : Nat}, inTime n g = true → g ≠ 0 ∧ g ≤ n := fun hh => by
      simp only [inTime, Bool.and_eq_true] at hh
      have a := Nat.le_of_ble_eq_true hh.1
      have b := Nat.le_of_ble_eq_true hh.2
      omega
    obtain ⟨hw, Z', B', hr⟩ := gath_ok hb0 h hg pk (fun s hs => e1.s s (tm (k1 s hs)).1 (tm (k1 s hs)).2) (fun q hq => e1.l q (tm (k2 q hq)).1 (tm (k2 q hq)).2) (fun y hy => blt_lt (k3 y hy)) (fun y hy => blt_lt (k4 y hy))
    exact ⟨p, hw, ha, Z', B', hr⟩
  · exact ha.elim
variable (hty : tysOk cx.P cx.tys = true) (hsp : SpOk cx.P sp)
include hty in
theorem semPure_ok {S : World → Prop} {o : Oper} {k : St → Prop} {st : St} {E : Env} {w : World} {Z : Nat → Prop} {B : Nat → Value} (hS : ∀ w', S w' → (memB o.op = true → Ext w w')) (h : Rel za w0 st E w Z B) (hs : semPure cx all o k st) : quietI cx.P S all o (Nx za w0 k) E w := by
  obtain ⟨dst, op, ty, pos, aft, gd⟩ := o
  unfold semPure at hs
  simp only at hs hS
  split at hs
  · split at hs
    · rename_i φ v hp
      split at hs
      · rename_i d
        replace hs := andP_iff.1 hs
        obtain ⟨u, h1, h2, h3⟩ := pureOp_ok (ty := ty) h hty (ctxNil E) hp hs.1
        exact .inl ⟨rfl, u, fun w' hw' => h1 w' (hS w' hw') _ _ _ _, _, _, _, h.setS d (h2 _) h3, hs.2⟩
      · exact hs.elim
    · exact hs.elim
  · rename_i j b
    split at hs
    · rename_i t hj
      have hfull := (bif_prop hs).1
      replace hs := (bif_prop hs).2
      split at hs
      · rename_i d
        have htd' := (bif_prop hs).1
        replace hs := (bif_prop hs).2
        have htd : t ≠ d := Nat.ne_of_beq_eq_false (by simpa using htd')
        split at hs
        · rename_i φ s hp
          obtain ⟨hrb, hs⟩ := bif_prop hs
          replace hs := andP_iff.1 hs
          rw [impP_iff] at hs
          by_cases hw : E t = .bool b
          · have hctx := h.gctx (n := 20) hw
            obtain ⟨u, h1, h2, h3⟩ := pureOp_ok (ty := ty) h hty hctx hp (hs.1 (h.ctxP hctx))
            refine .inl ⟨on_of hj hw, u, fun w' hw' => h1 w' (hS w' hw') _ _ _ _, _, _, _, h.setS d (x := .cnd t b s) (.inl ⟨?_, h2 E⟩) h3, hs.2⟩
            rw [upd_other _ _ _ _ htd]; exact hw
          · have hoff : wantedE all ⟨some d, op, ty, pos, aft, some (j, b)⟩ E = false := by
              unfold wantedE yieldedE
              simp only [hj]
              cases hEt : E t with
              | bool b' => simp only [beq_eq_false_iff_ne, ne_eq, Option.some.injEq]; intro hh; exact hw (by rw [hEt, hh])
              | _ => rfl
            refine .inr ⟨hoff, _, _, _, h.setS d (x := .cnd t b s) (.inr ⟨?_, rfl⟩) (fun c hc => refB_ok (List.all_eq_true.1 hrb c hc)), hs.2⟩
            rw [upd_other _ _ _ _ htd]; exact hw
        · exact hs.elim
      · exact hs.elim
    · exact hs.elim
theorem quiet_mono {P : Program} {S : World → Prop} {o : Oper} {n n' : Env → World → Prop} {E : Env} {w : World} (h : quietI P S all o n E w) (hn : ∀ E', n E' w → n' E' w) : quietI P S all o n' E w := by
  rcases h with ⟨h1, v, h2, h3⟩ | ⟨h1, h2⟩
  · exact .inl ⟨h1, v, h2, hn _ h3⟩
  · exact .inr ⟨h1, hn _ h2⟩
include hty hsp in
theorem semE_ok {wd : World} {tl : Bool} {n0 : Nat} {k : St → Prop} {o : Oper} {st : St} {E : Env} {w : World} {Z : Nat → Prop} {B : Nat → Value} (hk0 : za.k0 = n0) (hbd : za.b0 = wd.heap.size) (ht : tl = true ∨ Ext wd w) (h : Rel za w0 st E w Z B)
    (hm : ((tl || !(wrO sp st o) || frO n0 st o.op) && okMark n0 st o.op) = true) (hs : semOp cx sp all o k st) : stepI cx.P all o (fun E' w' => (tl = true ∨ Ext wd w') ∧ Nx za w0 k E' w') E w := by
  simp only [Bool.and_eq_true, Bool.or_eq_true, Bool.not_eq_true'] at hm
  obtain ⟨hm, hom⟩ := hm
  have hmk : za.b0 = 0 ∨ okMark za.k0 st o.op = true := .inr (by rw [hk0]; exact hom)
  rcases hm with (hm | hm) | hm
  · refine stepI_mono ?_ (semOp_ok h hmk hty hsp hs)
    rintro E' w' ⟨_, n⟩
    exact ⟨.inl hm, n⟩
  · refine stepI_mono ?_ (semOp_ok h hmk hty hsp hs)
    rintro E' w' ⟨hx, n⟩
    exact ⟨ht.imp id fun ht => ht.trans (hx hm), n⟩
  · obtain ⟨dst, op, ty, pos, aft, gd⟩ := o
    have hfr := hm
    unfold frO at hm
    split at hm
    · rename_i T p v heq
      simp only at heq
      subst heq
      unfold semOp at hs
      simp only at hs
      cases gd with
      | none =>
        simp only [pureOp] at hs
        cases dst with
        | none =>
          simp only at hs
          split at hs
          · rename_i φ st' hst
            refine stepI_mono ?_ (storeS_ok h hty hst hs rfl)
            rintro E' w' ⟨hb, n⟩
            refine ⟨ht.imp id fun ht => ?_, n⟩
            have := hb (by rw [hk0]; exact hfr)
            rw [hbd] at this
            exact Below.trans ht this
          · exact hs.elim
        | some d => exact hs.elim
      | some jb =>
        obtain ⟨j, b⟩ := jb
        simp only [pureOp] at hs
        split at hs
        · obtain ⟨_, hs⟩ := bif_prop hs
          split at hs
          · obtain ⟨_, hs⟩ := bif_prop hs
            exact hs.elim
          · exact hs.elim
        · exact hs.elim
    · cases hm
include hty hsp in
theorem semPlan_ok {za0 : Zn} {wd : World} {tails : List Nat} {n0 : Nat} {k : St → Prop} (hk0 : za.k0 = n0) (hbd : za.b0 = wd.heap.size) (hun : ∀ {st : St} {E : Env} {w : World} {Z : Nat → Prop} {B : Nat → Value}, Rel za w0 st E w Z B → Rel za0 w0 st E w Z B) : ∀ {p : Plan} {pre t : Bool} {st : St} {E : Env} {w : World} {Z : Nat → Prop} {B : Nat → Value}, (pre = true → wd = w) → (t = true ∨ Ext wd w) → Rel za w0 st E w Z B → semPlan cx sp all tails n0 p pre t k st → dopsI cx.P (Ext wd) all tails (Nx za0 w0 k) p t E w
  | .done, _, _, _, _, _, _, _, _, _, h, hs => ⟨_, _, _, hun h, hs⟩
  | .q i p, pre, t, st, E, w, Z, B, hp, ht, h, hs => by
    simp only [semPlan] at hs
    split at hs
    · rename_i o ho
      obtain ⟨hpre, hs⟩ := bif_prop hs
      have hwd := hp hpre
      refine ⟨o, ho, quiet_mono (semPure_ok hty (fun w' hw' _ => by rw [← hwd]; exact hw') h hs) ?_⟩
      rintro E' ⟨st', Z', B', h', hk⟩
      exact semPlan_ok hk0 hbd hun hp ht h' hk
    · exact hs.elim
  | .p i p, pre, t, st, E, w, Z, B, hp, ht, h, hs => by
    simp only [semPlan] at hs
    split at hs
    · rename_i o ho
      obtain ⟨hm, hs⟩ := bif_prop hs
      refine ⟨o, ho, quiet_mono (semPure_ok hty (fun w' _ hh => by rw [hh] at hm; cases hm) h hs) ?_⟩
      rintro E' ⟨st', Z', B', h', hk⟩
      exact semPlan_ok hk0 hbd hun hp ht h' hk
    · exact hs.elim
  | .e i p, pre, t, st, E, w, Z, B, hp, ht, h, hs => by
    simp only [semPlan] at hs
    split at hs
    · rename_i o ho
      obtain ⟨hm, hs⟩ := bif_prop hs
      refine ⟨o, ho, stepI_mono ?_ (semE_ok hty hsp hk0 hbd (tl := t || tails.contains i) (ht.imp (fun hh => by rw [hh]; rfl) id) h hm hs)⟩
      rintro E' w' ⟨ht', st', Z', B', h', hk⟩
      exact ⟨ht', semPlan_ok hk0 hbd hun (fun hh => by cases hh) ht' h' hk⟩
    · exact hs.elim
  | .br i p j p', pre, t, st, E, w, Z, B, hp, ht, h, hs => by
    simp only [semPlan] at hs
    have main : ∀ (i : Nat) (p : Plan), (∀ {st : St} {E : Env} {w : World} {Z : Nat → Prop} {B : Nat → Value}, ((t || tails.contains i) = true ∨ Ext wd w) → Rel za w0 st E w Z B → semPlan cx sp all tails n0 p false (t || tails.contains i) k st → dopsI cx.P (Ext wd) all tails (Nx za0 w0 k) p (t || tails.contains i) E w) →
        (match all[i]? with
        | some o => bif ((t || tails.contains i) || !(wrO sp st o) || frO n0 st o.op) && okMark n0 st o.op then semOp cx sp all o (semPlan cx sp all tails n0 p false (t || tails.contains i) k) st else False
        | none => False) → ∃ o, all[i]? = some o ∧ stepI cx.P all o (fun E' w' => ((t || tails.contains i) = true ∨ Ext wd w') ∧ dopsI cx.P (Ext wd) all tails (Nx za0 w0 k) p (t || tails.contains i) E' w') E w := by
      intro i p ih hs
      split at hs
      · rename_i o ho
        obtain ⟨hm, hs⟩ := bif_prop hs
        refine ⟨o, ho, stepI_mono ?_ (semE_ok hty hsp hk0 hbd (tl := t || tails.contains i) (ht.imp (fun hh => by rw [hh]; rfl) id) h hm hs)⟩
        rintro E' w' ⟨ht', st', Z', B', h', hk⟩
        exact ⟨ht', ih ht' h' hk⟩
      · exact hs.elim
    exact ⟨main i p (fun ht' h' hk => semPlan_ok hk0 hbd hun (fun hh => by cases hh) ht' h' hk) hs.1, main j p' (fun ht' h' hk => semPlan_ok hk0 hbd hun (fun hh => by cases hh) ht' h' hk) hs.2⟩
theorem Rel.marked {st : St} {E : Env} {w : World} {Z : Nat → Prop} {B : Nat → Value} (h : Rel za w0 st E w Z B) : Rel { za with k0 := st.nx, b0 := w.heap.size } w0 st E w Z B :=
  ⟨h.ext, h.zlt, h.slots, h.locs, h.disj, h.refs, h.refl, h.fresh, h.bone, h.zin, h.nms, h.bfix, Nat.le_refl _, fun k b hk hl _ => by
    have : st.L k = .none := h.fresh k hk
    rw [this] at hl; exact hl.elim⟩
theorem Rel.unmark {k0 b0 : Nat} (hb0 : za.b0 = 0) {st : St} {E : Env} {w : World} {Z : Nat → Prop} {B : Nat → Value} (h : Rel { za with k0 := k0, b0 := b0 } w0 st E w Z B) : Rel za w0 st E w Z B :=
  ⟨h.ext, h.zlt, h.slots, h.locs, h.disj, h.refs, h.refl, h.fresh, h.bone, h.zin, h.nms, h.bfix, by rw [hb0]; exact Nat.zero_le _, fun k b _ _ _ => by rw [hb0]; exact Nat.zero_le _⟩
end
end Go.Vc
