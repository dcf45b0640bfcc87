/- The state that is told anew tells the same frame and world. -/
import Derived.Test.YtedfiemhfpcggaaVc16
namespace Go.Vc
open Go Go.RowKit Go.Gw
section
variable {za : Zn} {w0 w : World} {Z : Nat → Prop} {B : Nat → Value} {st st0 st2 : St} {E : Env}
theorem Rel.setSame (h : Rel za w0 st E w Z B) (s : Nat) {x : DV} (hx : RD w Z B E x (E s)) (hr : refD st.nx x) : Rel za w0 (st.setS s x) E w Z B := by
  have e : upd E s (E s) = E := by
    funext t
    by_cases ht : t = s
    · subst ht; exact upd_same _ _ _
    · exact upd_other _ _ _ _ ht
  have := h.setS s (x := x) (v := E s) (by rw [e]; exact hx) hr
  rwa [e] at this
theorem claim0 {A : Ann} (h2 : Rel za w0 st2 E w Z B) (pk : Pure za.n st0) (hS : ∀ s ∈ A.keepS, st2.eS s = st0.eS s) (hL : ∀ k ∈ A.keepL, st2.eL k = st0.eL k) : Claim za w0 st2 E w Z B A.keepL (kept A st0) B := by
  have eS : ∀ s, (kept A st0).S s = if s ∈ A.keepS then st2.S s else .dead := fun s => by
    show ((kept A st0).eS s).2 = _
    rw [kept_eS]
    split
    · rename_i hs; rw [← hS s hs]; rfl
    · rfl
  have eL : ∀ k, (kept A st0).L k = if k ∈ A.keepL then st2.L k else .none := fun k => by
    show ((kept A st0).eL k).2 = _
    rw [kept_eL]
    split
    · rename_i hs; rw [← hL k hs]; rfl
    · rfl
  have e0S : ∀ s, (kept A st0).S s = if s ∈ A.keepS then st0.S s else .dead := fun s => by
    show ((kept A st0).eS s).2 = _
    rw [kept_eS]; split <;> rfl
  have e0L : ∀ k, (kept A st0).L k = if k ∈ A.keepL then st0.L k else .none := fun s => by
    show ((kept A st0).eL s).2 = _
    rw [kept_eL]; split <;> rfl
  have lv : ∀ k, live ((kept A st0).L k) → k ∈ A.keepL ∧ live (st2.L k) := fun k hk => by
    rw [eL] at hk
    split at hk
    · rename_i hm; exact ⟨hm, hk⟩
    · exact hk.elim
  refine ⟨⟨h2.ext, h2.zlt, fun s => ?_, fun k => ?_, fun k k' b hne l1 l2 => h2.disj k k' b hne (lv k l1).2 (lv k' l2).2, fun s => ?_, fun k => ?_, fun k hk => ?_, h2.bone, h2.zin, pk.nms, h2.bfix, h2.mrk.1, fun k b hk hl hb => h2.mrk.2 k b hk (lv k hl).2 hb⟩, fun j hj => .inl ⟨j, (lv j hj).1, rfl, (lv j hj).2⟩⟩
  · rw [eS]; split
    · exact h2.slots s
    · trivial
  · rw [eL]; split
    · exact h2.locs k
    · trivial
  · rw [e0S]; split
    · exact pk.refs s
    · trivial
  · rw [e0L]; split
    · exact pk.refl k
    · trivial
  · rw [e0L]; split
    · exact pk.fresh k hk
    · rfl
theorem rowFor_ok (h2 : Rel za w0 st2 E w Z B) {t : Ty} {e : TypeId} {c : C} {l : List t.den} {v : Value} (hc : RC w Z B c v) (hr : rowFor st2 t e c = some l) :
    ∃ xs, w.ownsRow w0.heap.size e t.size v l.length xs ∧ Each (Rep t w Z) xs l ∧ (∀ b, v.ownBlock = some b → ¬ Z b) ∧ ((∃ q, c = .row q ∧ live (st2.L q) ∧ v = B q) ∨ (root v = none ∧ ∀ q, c ≠ .row q)) := by
  unfold rowFor at hr
  split at hr
  · rename_i q
    split at hr
    · rename_i t' e' l' hq
      split at hr
      · rename_i heq; subst heq
        obtain ⟨he, hr⟩ := bif_none hr
        cases hr
        simp only [Bool.and_eq_true] at he
        have hqn := Nat.le_of_ble_eq_true he.2
        have hee := Nat.eq_of_beq_eq_true he.1
        subst hee
        have hL := h2.locs q
        rw [hq] at hL
        obtain ⟨xs, h1, h3, h4⟩ := hL
        have hv : v = B q := hc
        subst hv
        have hup : ∀ b, (B q).ownBlock = some b → w0.heap.size ≤ b := fun b hb => by
          rcases (h4 b hb).1 with g | g
          · exact g
          · have := h2.nms.1; omega
        exact ⟨xs, own_up h1 hup, h3, fun b hb => (h4 b hb).2, .inl ⟨q, rfl, by rw [hq]; trivial, rfl⟩⟩
      · cases hr
    · cases hr
  · obtain ⟨hn, hr⟩ := bif_none hr
    cases hr
    have hv : v = .slice none 0 0 := by rw [hc.1]; exact isNilSl_spec hn
    subst hv
    exact ⟨[], World.ownsRow_nil _ _ _ _, rfl, fun b hb => (by cases hb), .inr ⟨rfl, fun q hq => (by cases hq)⟩⟩
  · cases hr
theorem oneC_ok {t : Ty} {v : Value} {x : t.den} (h : Rep t w Z [v] x) : RC w Z B (oneC t x) v := by
  cases t with
  | ptr t =>
    obtain ⟨b, o, ec, e, r⟩ := h
    simp only [List.cons.injEq, and_true] at e
    exact ⟨b, o, ec, by rw [e]; rfl, r⟩
  | _ => exact h
theorem oneC_ref {n : Nat} {t : Ty} {x : t.den} : refC n (oneC t x) := by cases t <;> trivial
/-- The cells are told anew. -/
theorem place_ok (hb0 : za.b0 = 0) (h2 : Rel za w0 st2 E w Z B) : ∀ {shs : List CSh} {T : Type} {tl : T} {cs : List C} {vs : List Value} {p : shD shs T} {st : St} {BX : Nat → Value} {used : List Nat}, Claim za w0 st2 E w Z B used st BX → RCs w Z B cs vs → packSh st2 shs tl cs = some p → (∀ q ∈ ownIds shs cs, q ∉ used) → (ownIds shs cs).Nodup →
    ∃ BX', Claim za w0 st2 E w Z B (ownIds shs cs ++ used) (placeSh shs p st).2.1 BX' ∧ RCs w Z BX' (placeSh shs p st).1 vs ∧ (∀ c ∈ (placeSh shs p st).1, refC (placeSh shs p st).2.1.nx c) ∧ (∀ k, k < st.nx → BX' k = BX k) ∧ st.nx ≤ (placeSh shs p st).2.1.nx ∧ (placeSh shs p st).2.2 = tl
  | [], _, tl, [], vs, p, st, BX, used, c, hv, hp, _, _ => by
    simp only [packSh, Option.some.injEq] at hp
    exact ⟨BX, c, hv, by simp [placeSh], fun _ _ => rfl, Nat.le_refl _, hp.symm⟩
  | [], _, _, _ :: _, _, _, _, _, _, _, _, hp, _, _ => by cases hp
  | .val t :: r, _, _, [], _, _, _, _, _, _, _, hp, _, _ => by cases hp
  | .own t e :: r, _, _, [], _, _, _, _, _, _, _, hp, _, _ => by cases hp
  | .val t :: r, T, tl, c0 :: cs, vs, p, st, BX, used, c, ⟨v, vs', e, hv1, hv2⟩, hp, hu, hn => by
    simp only [packSh, bind_some, Option.map_eq_some_iff] at hp
    obtain ⟨y, hy, z, hz, rfl⟩ := hp
    have hid : ownIds (.val t :: r) (c0 :: cs) = ownIds r cs := by cases c0 <;> rfl
    rw [hid] at hu hn ⊢
    obtain ⟨BX', g1, g2, g3, g4, g5, g6⟩ := place_ok hb0 h2 c hv2 hz hu hn
    subst e
    refine ⟨BX', g1, ⟨v, vs', rfl, oneC_ok (asTy_ok hv1 hy), g2⟩, fun q hq => ?_, g4, g5, g6⟩
    rcases List.mem_cons.1 hq with rfl | hq
    · exact oneC_ref
    · exact g3 q hq
  | .own t e0 :: r, T, tl, c0 :: cs, vs, p, st, BX, used, c, ⟨v, vs', e, hv1, hv2⟩, hp, hu, hn => by
    simp only [packSh, bind_some, Option.map_eq_some_iff] at hp
    obtain ⟨l, hl, z, hz, rfl⟩ := hp
    subst e
    obtain ⟨xs, o1, o2, o3, o4⟩ := rowFor_ok h2 hv1 hl
    have hv1' : v.oneCell' = true := by rcases o1.2 with ⟨hv, _⟩ | ⟨_, _, _, hv, _⟩ <;> rw [hv] <;> rfl
    have hro := own_root o1
    have key : ∃ used', Claim za w0 st2 E w Z B used' (st.newL (.row t e0 l)) (upd BX st.nx v) ∧ (∀ q ∈ ownIds r cs, q ∉ used') ∧ (ownIds r cs).Nodup ∧ (∀ q, q ∈ ownIds (.own t e0 :: r) (c0 :: cs) ++ used ↔ q ∈ ownIds r cs ++ used') := by
      have mk : ∀ used', (∀ q ∈ used, q ∈ used') → ((∃ q, q ∈ used' ∧ v = B q ∧ live (st2.L q)) ∨ root v = none) → (∀ k b, live (st.L k) → root v = some b → root (BX k) ≠ some b) → Claim za w0 st2 E w Z B used' (st.newL (.row t e0 l)) (upd BX st.nx v) := by
        intro used' hsub hq hd
        refine ⟨c.rel.new (v := v) (lc := .row t e0 l) ⟨xs, by rw [upd_same]; exact own_base o1 (Nat.zero_le _), o2, fun b hb => by rw [upd_same] at hb; exact ⟨.inl (World.ownsRow.lt o1 b hb).1, o3 b hb⟩⟩ hd trivial hv1' (fun b _ _ => by rw [hb0]; exact Nat.zero_le _), fun j hj => ?_⟩
        rw [St.L_newL] at hj
        by_cases hjn : j = st.nx
        · subst hjn
          rw [upd_same]
          rcases hq with ⟨q, h1, h3, h4⟩ | h1
          · exact .inl ⟨q, h1, h3, h4⟩
          · exact .inr h1
        · rw [if_neg hjn] at hj
          rw [upd_other _ _ _ _ hjn]
          rcases c.own j hj with ⟨q, h1, h3, h4⟩ | h1
          · exact .inl ⟨q, hsub q h1, h3, h4⟩
          · exact .inr h1
      rcases o4 with ⟨q, rfl, hlq, hvq⟩ | ⟨hnr, hnq⟩
      · have hid : ownIds (.own t e0 :: r) (.row q :: cs) = q :: ownIds r cs := rfl
        rw [hid] at hu hn ⊢
        have hn' := List.nodup_cons.1 hn
        refine ⟨q :: used, mk _ (fun x hx => List.mem_cons_of_mem _ hx) (.inl ⟨q, by simp, hvq, hlq⟩) (fun k b hk hb => ?_), fun x hx => ?_, hn'.2, fun x => by grind⟩
        · rw [hvq] at hb; exact c.disj h2 (hu q (by simp)) hlq k b hk hb
        · intro hxu
          rcases List.mem_cons.1 hxu with rfl | hxu
          · exact hn'.1 hx
          · exact hu x (List.mem_cons_of_mem _ hx) hxu
      · have hid : ownIds (.own t e0 :: r) (c0 :: cs) = ownIds r cs := by cases c0 <;> first | rfl | exact absurd rfl (hnq _)
        rw [hid] at hu hn ⊢
        exact ⟨used, mk _ (fun x hx => hx) (.inr hnr) (fun k b hk hb => by rw [hnr] at hb; cases hb), hu, hn, fun x => Iff.rfl⟩
    obtain ⟨used', c', hu', hn', hiff⟩ := key
    obtain ⟨BX', g1, g2, g3, g4, g5, g6⟩ := place_ok hb0 h2 c' hv2 hz hu' hn'
    have hBn : BX' st.nx = v := by rw [g4 st.nx (Nat.lt_succ_self _), upd_same]
    refine ⟨BX', ⟨g1.rel, fun j hj => ?_⟩, ⟨v, vs', rfl, hBn.symm, g2⟩, fun q hq => ?_, fun k hk => ?_, Nat.le_trans (Nat.le_succ _) g5, g6⟩
    · rcases g1.own j hj with ⟨q, h1, h3⟩ | h1
      · exact .inl ⟨q, (hiff q).2 h1, h3⟩
      · exact .inr h1
    · rcases List.mem_cons.1 hq with rfl | hq
      · exact Nat.lt_of_lt_of_le (Nat.lt_succ_self _) g5
      · exact g3 q hq
    · rw [g4 k (Nat.lt_succ_of_lt hk), upd_other _ _ _ _ (Nat.ne_of_lt hk)]
end
end Go.Vc
