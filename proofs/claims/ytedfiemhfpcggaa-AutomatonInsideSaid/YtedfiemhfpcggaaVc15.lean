/- How states come out of each other; an operation keeps what it does not write. -/
import Derived.Test.YtedfiemhfpcggaaVc14
namespace Go.Vc
open Go Go.RowKit Go.Gw
theorem Evo.trans {a b c : St} (h : Evo a b) (k : Evo b c) : Evo a c := by
  refine ⟨Nat.le_trans h.ct k.ct, fun s h0 h1 => ?_, fun q h0 h1 => ?_⟩
  · have e := k.s s h0 (Nat.le_trans h1 h.ct)
    rw [e] at h0 h1 ⊢
    exact h.s s h0 h1
  · have e := k.l q h0 (Nat.le_trans h1 h.ct)
    rw [e] at h0 h1 ⊢
    exact h.l q h0 h1
theorem Evo.setS (st : St) (d : Nat) (x : DV) : Evo st (st.setS d x) := by
  refine ⟨Nat.le_succ _, fun s h0 h1 => ?_, fun _ _ _ => rfl⟩
  rw [St.eS_setS] at h0 h1 ⊢
  split at h1
  · simp only at h1; omega
  · rename_i hs
    rw [if_neg hs]
    cases hc : isCnd d (st.S s) with
    | true => simp only [hc, cond_true] at h1; omega
    | false => rfl
theorem Evo.setL (st : St) (k : Nat) (x : LC) : Evo st (st.setL k x) := by
  refine ⟨Nat.le_succ _, fun _ _ _ => rfl, fun q h0 h1 => ?_⟩
  rw [St.eL_setL] at h0 h1 ⊢
  split at h1
  · simp only at h1; omega
  · rename_i hs; rw [if_neg hs]
theorem Evo.newL (st : St) (x : LC) : Evo st (st.newL x) := by
  refine ⟨Nat.le_succ _, fun _ _ _ => rfl, fun q h0 h1 => ?_⟩
  rw [St.eL_newL] at h0 h1 ⊢
  split at h1
  · simp only at h1; omega
  · rename_i hs; rw [if_neg hs]
theorem Evo.freeze (st : St) (k : Nat) (c : C) : Evo st (st.freeze k c) := by
  refine ⟨Nat.le_succ _, fun s h0 h1 => ?_, fun q h0 h1 => ?_⟩
  · rw [St.eS_freeze] at h0 h1 ⊢
    cases hc : hasRD k (st.S s) with
    | true => simp only [hc, cond_true] at h1; omega
    | false => rfl
  · rw [St.eL_freeze] at h0 h1 ⊢
    cases hc : hasRL k (if q = k then (st.ct + 1, LC.none) else st.eL q).2 with
    | true => simp only [hc, cond_true] at h1; omega
    | false =>
      simp only [hc, cond_false] at h1 ⊢
      split at h1
      · simp only at h1; omega
      · rename_i hq; rw [if_neg hq]
theorem Evo.settle (st : St) (cs : List C) : Evo st (settle st cs) := by
  induction cs generalizing st with
  | nil => exact Evo.refl _
  | cons c cs ih =>
    cases c with
    | row k =>
      simp only [Vc.settle]
      cases hk : st.L k with
      | row t e l =>
        cases Nat.ble st.nm k with
        | true => exact (Evo.freeze st k _).trans (ih _)
        | false => exact ih st
      | _ => exact ih st
    | mp k =>
      simp only [Vc.settle]
      cases hk : st.L k with
      | map _ _ _ _ _ =>
        cases Nat.ble st.nm k with
        | true => exact (Evo.freeze st k _).trans (ih _)
        | false => exact ih st
      | _ => exact ih st
    | _ => exact ih st
theorem Evo.settleO (st : St) (x : Operand) : Evo st (settleO st x) := by
  unfold Vc.settleO
  split
  · exact Evo.settle _ _
  · exact Evo.refl _
theorem Evo.settleP (st : St) (ps : List (Nat × Operand)) : Evo st (settleP st ps) := by
  induction ps generalizing st with
  | nil => exact Evo.refl _
  | cons x ps ih => exact (Evo.settleO st x.2).trans (ih _)
theorem Evo.settleA : ∀ (as : List AM) (ss : List SV) (st : St), Evo st (settleA st as ss)
  | [], _, st => Evo.refl st
  | .val _ _ :: as, s :: ss, st => (Evo.settle st s.cs).trans (Evo.settleA as ss _)
  | .row _ _ :: as, _ :: ss, st => Evo.settleA as ss st
  | .box _ _ :: as, _ :: ss, st => Evo.settleA as ss st
  | .fn _ _ :: as, _ :: ss, st => Evo.settleA as ss st
  | .val _ _ :: _, [], st => Evo.refl st
  | .row _ _ :: _, [], st => Evo.refl st
  | .box _ _ :: _, [], st => Evo.refl st
  | .fn _ _ :: _, [], st => Evo.refl st
theorem Evo.dropM : ∀ (ks : List Nat) (st : St), Evo st (dropM st ks)
  | [], st => Evo.refl st
  | k :: ks, st => (Evo.setL st k _).trans (Evo.dropM ks _)
theorem Evo.addM : ∀ (as : List AM) (o : outs as) (ks : List Nat) (st : St), Evo st (addM as o ks st)
  | [], _, ks, st => by cases ks <;> exact Evo.refl st
  | .row t e :: as, o, [], st => Evo.refl st
  | .box t e :: as, o, [], st => Evo.refl st
  | .row t e :: as, o, k :: ks, st => (Evo.setL st k _).trans (Evo.addM as o.2 ks _)
  | .box t e :: as, o, k :: ks, st => (Evo.setL st k _).trans (Evo.addM as o.2 ks _)
  | .val _ _ :: as, o, ks, st => Evo.addM as o ks st
  | .fn _ _ :: as, o, ks, st => Evo.addM as o ks st
theorem Evo.place : ∀ (rs : List RT) (r : rdens rs) (st : St), Evo st (placeR rs r st).2
  | [], _, st => Evo.refl st
  | .val _ _ :: rs, r, st => Evo.place rs r.2 st
  | .own t e :: rs, r, st => (Evo.newL st (.row t e r.1)).trans (Evo.place rs r.2 _)
theorem Evo.boxS (st : St) (d : Tmp) (T : TypeId) (cs : List C) : Evo st (boxS st d T cs) := (Evo.newL _ _).trans (Evo.setS _ _ _)
theorem Evo.rowS (st : St) (d : Tmp) (t : Ty) (e : TypeId) (l : List t.den) : Evo st (rowS st d t e l) := (Evo.newL _ _).trans (Evo.setS _ _ _)
theorem Evo.dropR (st : St) (c : C) : Evo st (dropR st c) := by
  cases c with
  | row k => exact Evo.setL _ _ _
  | _ => exact Evo.refl _
section
variable {cx : Cx} {sp : Specs} {all : List Oper} {k k' : St → Prop} {st : St}
theorem effS_evo {d : Tmp} {op : Op} {φ : Option Prop} {st' : St} (h : effS cx st d op = some (φ, st')) : Evo st st' := by
  unfold effS at h
  split at h
  · simp only [Option.bind_eq_bind, bind_some] at h
    obtain ⟨s, _, h⟩ := h
    obtain ⟨_, h⟩ := bif_none h
    cases h
    exact Evo.boxS _ _ _ _
  · simp only [Option.bind_eq_bind, bind_some] at h
    obtain ⟨s, _, h⟩ := h
    cases h
    exact Evo.boxS _ _ _ _
  · simp only [Option.bind_eq_bind, bind_some] at h
    obtain ⟨ti, _, t, _, ps, _, xs, _, h⟩ := h
    obtain ⟨_, h⟩ := bif_none h
    cases h
    exact (Evo.settleP _ _).trans (Evo.rowS _ _ _ _ _)
  · simp only [Option.bind_eq_bind, bind_some] at h
    obtain ⟨ti, _, t, _, l, _, c, _, h⟩ := h
    obtain ⟨_, h⟩ := bif_none h
    cases h
    exact Evo.rowS _ _ _ _ _
  · split at h
    · obtain ⟨_, h⟩ := bif_none h
      simp only [appS, Option.bind_eq_bind, bind_some] at h
      obtain ⟨ti, _, t, _, a, _, b, _, l, _, ys, _, h⟩ := h
      obtain ⟨_, h⟩ := bif_none h
      cases h
      exact (Evo.dropR _ _).trans (Evo.rowS _ _ _ _ _)
    · cases h
  · simp only [Option.bind_eq_bind, bind_some] at h
    obtain ⟨ti, _, h⟩ := h
    split at h
    · cases h; exact (Evo.newL _ _).trans (Evo.setS _ _ _)
    · simp only [Option.map_eq_some_iff] at h
      obtain ⟨_, _, h⟩ := h
      cases h; exact (Evo.newL _ _).trans (Evo.setS _ _ _)
    · cases h
  · split at h
    · simp only [Option.bind_eq_bind, bind_some] at h
      obtain ⟨ti, _, h⟩ := h
      split at h
      · simp only [bind_some] at h
        obtain ⟨_, _, _, _, h⟩ := h
        cases h
        exact Evo.setS _ _ _
      · cases h
    · cases h
  · cases h
theorem mapUpS_evo {T : TypeId} {m x y : Operand} {st' : St} (h : mapUpS cx st T m x y = some st') : Evo st st' := by
  simp only [mapUpS, Option.bind_eq_bind, bind_some] at h
  obtain ⟨ti, _, c, _, sk, _, sy, _, h⟩ := h
  split at h
  · simp only [bind_some] at h
    obtain ⟨_, _, _, _, _, _, h⟩ := h
    cases h
    exact (Evo.settleO _ _).trans (Evo.setL _ _ _)
  · cases h
theorem storeS_evo {T : TypeId} {p v : Operand} {φ : Option Prop} {st' : St} (h : storeS cx st T p v = some (φ, st')) : Evo st st' := by
  simp only [storeS, Option.bind_eq_bind, bind_some] at h
  obtain ⟨ti, _, c, _, h⟩ := h
  split at h
  · simp only [bind_some] at h
    obtain ⟨s, _, h⟩ := h
    split at h
    · obtain ⟨_, h⟩ := bif_none h
      cases h
      exact Evo.setL _ _ _
    · cases h
  · simp only [bind_some] at h
    obtain ⟨s, _, h⟩ := h
    split at h
    · obtain ⟨_, h⟩ := bif_none h
      split at h
      · cases h
        exact (Evo.settleO _ _).trans (Evo.setL _ _ _)
      · cases h
    · cases h
  · cases h
theorem packK_step {sh : Bool} {mu : List Nat} : ∀ {as : List AM} {ss : List SV} {k k' : dens as → Prop}, packK cx sp st mu sh as ss k → (∀ x, k x → k' x) → packK cx sp st mu sh as ss k'
  | [], [], _, _, h, hk => hk _ h
  | [], _ :: _, _, _, h, _ => h.elim
  | a :: r, [], _, _, h, _ => by cases a <;> exact h.elim
  | .val a t :: r, s :: ss, _, _, h, hk => by
    simp only [packK] at h ⊢
    split at h
    · exact packK_step h fun y => hk _
    · exact h.elim
  | .row t e0 :: r, s :: ss, _, _, h, hk => by
    simp only [packK] at h ⊢
    split at h
    · split at h
      · obtain ⟨hb, h⟩ := bif_prop h
        simp only [hb, cond_true]
        exact packK_step h fun y => hk _
      · exact h.elim
    · exact h.elim
  | .box t e0 :: r, s :: ss, _, _, h, hk => by
    simp only [packK] at h ⊢
    split at h
    · split at h
      · obtain ⟨hb, h⟩ := bif_prop h
        simp only [hb, cond_true]
        exact packK_step h fun y => hk _
      · exact h.elim
    · exact h.elim
  | .fn as' r' :: r, s :: ss, _, _, h, hk => by
    simp only [packK] at h ⊢
    split at h
    · split at h
      · obtain ⟨hb, h⟩ := bif_prop h
        simp only [hb, cond_true]
        obtain ⟨ok, φ, hp, h⟩ := h
        exact ⟨ok, φ, hp, packK_step h fun y => hk _⟩
      · exact h.elim
    · split at h
      · rename_i hh
        rw [dif_pos hh]
        exact ⟨h.1, packK_step h.2 fun y => hk _⟩
      · exact h.elim
    · exact h.elim
theorem callGo_step {d : Tmp} {s : FSpec} {ss : List SV} (h : callGo cx sp st d s ss k) (hk : ∀ st', Evo st st' → k st' → k' st') : callGo cx sp st d s ss k' := by
  unfold callGo at h ⊢
  split at h
  · obtain ⟨hb, h⟩ := bif_prop h
    simp only [hb, cond_true]
    cases hm : hasMut s.args <;> simp only [hm, cond_false, cond_true] at h ⊢
    · exact packK_step h fun x hx => ⟨hx.1, fun r hr hp => hk _ ((Evo.place _ _ _).trans (Evo.setS _ _ _)) (hx.2 r hr hp)⟩
    · exact packK_step h fun x hx => ⟨hx.1, fun r o hr ho hp hq => hk _ ((Evo.dropM _ _).trans ((Evo.place _ _ _).trans ((Evo.addM _ _ _ _).trans (Evo.setS _ _ _)))) (hx.2 r o hr ho hp hq)⟩
  · exact h
theorem callSem_step {d : Tmp} {f : Operand} {args : List Operand} (h : callSem cx sp st d f args k) (hk : ∀ st', Evo st st' → k st' → k' st') : callSem cx sp st d f args k' := by
  unfold callSem at h ⊢
  split at h
  · split at h
    · split at h
      · exact ⟨h.1, h.2.1, fun hw => hk _ (Evo.setS _ _ _) (h.2.2 hw)⟩
      · exact h
    · exact h
  · split at h
    · split at h
      · obtain ⟨hen, h⟩ := bif_prop h
        simp only [hen, cond_true]
        rename_i s _ _
        cases hsh : s.shared <;> simp only [hsh, cond_false, cond_true] at h ⊢
        · exact callGo_step h hk
        · split at h
          · obtain ⟨hgg, h⟩ := bif_prop h
            simp only [hgg, cond_true]
            exact callGo_step h fun st' ev => hk st' ((Evo.settleA _ _ _).trans ev)
          · exact h
      · exact h
    · exact h
theorem callSemG_step {ctx : Ctx} {t : Tmp} {b : Bool} {d : Tmp} {f : Operand} {args : List Operand} (h : callSemG cx sp st ctx t b d f args k) (hk : ∀ st', Evo st st' → k st' → k' st') : callSemG cx sp st ctx t b d f args k' := by
  unfold callSemG at h ⊢
  split at h
  · split at h
    · obtain ⟨hen, h⟩ := bif_prop h
      simp only [hen, cond_true]
      refine packK_step h fun x h => ⟨h.1, fun r hr => ?_⟩
      have := h.2 r hr
      split at this
      · exact hk _ (Evo.setS _ _ _) this
      · exact this
    · exact h
  · exact h
theorem semOp_step {o : Oper} (h : semOp cx sp all o k st) (hk : ∀ st', Evo st st' → k st' → k' st') : semOp cx sp all o k' st := by
  obtain ⟨dst, op, ty, pos, aft, gd⟩ := o
  unfold semOp at h ⊢
  simp only at h ⊢
  split at h
  · split at h
    · split at h
      · exact andP_iff.2 ⟨(andP_iff.1 h).1, hk _ (Evo.setS _ _ _) (andP_iff.1 h).2⟩
      · exact h
    · split at h
      · split at h
        · split at h
          · rename_i hst; exact hk _ (storeS_evo hst) h
          · exact h
        · exact h
      · split at h
        · split at h
          · rename_i hst; exact hk _ (mapUpS_evo hst) h
          · exact h
        · exact h
      · split at h
        · split at h
          · rename_i hst; exact hk _ (mapUpS_evo hst) h
          · exact h
        · exact h
      · split at h
        · exact callSem_step h hk
        · exact h
      · split at h
        · split at h
          · rename_i heff; exact andP_iff.2 ⟨(andP_iff.1 h).1, hk _ (effS_evo heff) (andP_iff.1 h).2⟩
          · exact h
        · exact h
  · split at h
    · obtain ⟨hfull, h⟩ := bif_prop h
      simp only [hfull, cond_true]
      split at h
      · obtain ⟨htd, h⟩ := bif_prop h
        simp only [htd, cond_true]
        split at h
        · obtain ⟨hrb, h⟩ := bif_prop h
          simp only [hrb, cond_true]
          exact andP_iff.2 ⟨(andP_iff.1 h).1, hk _ (Evo.setS _ _ _) (andP_iff.1 h).2⟩
        · exact h
        · split at h
          · exact callSemG_step h hk
          · exact h
      · exact h
    · exact h
theorem semOps_step : ∀ {ops : List Oper} {k k' : St → Prop} {st : St}, semOps cx sp all ops k st → (∀ st', Evo st st' → k st' → k' st') → semOps cx sp all ops k' st
  | [], _, _, st, h, hk => hk st (Evo.refl st) h
  | _ :: _, _, _, _, h, hk => semOp_step h fun st1 e1 h1 => semOps_step h1 fun st2 e2 h2 => hk st2 (e1.trans e2) h2
end
end Go.Vc
