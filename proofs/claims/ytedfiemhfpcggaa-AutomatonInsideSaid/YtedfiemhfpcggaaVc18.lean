/- Telling a state anew, all of it. -/
import Derived.Test.YtedfiemhfpcggaaVc17
namespace Go.Vc
open Go Go.RowKit Go.Gw
section
variable {za : Zn} {w0 w : World} {Z : Nat → Prop} {B : Nat → Value} {st st0 st2 : St} {E : Env}
def SlotVals (E : Env) : List (Nat × Bool × List CSh) → List Value → List Value → Prop
  | [], vs, vr => vs = vr
  | (s, agg, shs) :: l, vs, vr => ∃ v1 v2, vs = v1 ++ v2 ∧ v1.length = shs.length ∧ (agg = true → E s = .agg v1.toArray) ∧ (agg = false → v1 = [E s]) ∧ SlotVals E l v2 vr
def BoxVals (za : Zn) (w0 : World) (w : World) (Z : Nat → Prop) (B : Nat → Value) (st2 : St) : List (Nat × TypeId × List CSh) → List Value → Prop
  | [], vs => vs = []
  | (k, T, shs) :: l, vs => ∃ v1 v2, vs = v1 ++ v2 ∧ v1.length = shs.length ∧ live (st2.L k) ∧ (∃ b, B k = .pointer (some ⟨b, 0, none⟩) ∧ up za w0 k b ∧ ¬ Z b ∧ Blk w b v1.toArray T) ∧ BoxVals za w0 w Z B st2 l v2
theorem cellsS_ok (h2 : Rel za w0 st2 E w Z B) : ∀ {l : List (Nat × Bool × List CSh)} {r cs : List C} {vr : List Value}, RCs w Z B r vr → cellsS st2 l r = some cs → ∃ vs, RCs w Z B cs vs ∧ SlotVals E l vs vr
  | [], r, cs, vr, hr, h => by cases h; exact ⟨vr, hr, rfl⟩
  | (s, agg, shs) :: l, r, cs, vr, hr, h => by
    simp only [cellsS] at h
    split at h
    · rename_i a cs1 hs
      obtain ⟨hb, h⟩ := bif_none h
      simp only [Option.map_eq_some_iff] at h
      obtain ⟨cs2, h3, rfl⟩ := h
      simp only [Bool.and_eq_true, beq_iff_eq] at hb
      obtain ⟨ha, hb⟩ := hb
      subst ha
      have hlen := Nat.eq_of_beq_eq_true hb
      obtain ⟨v2, h4, h5⟩ := cellsS_ok h2 hr h3
      have hv := h2.slots s
      rw [hs] at hv
      cases a with
      | true =>
        obtain ⟨v1, e, hv⟩ := hv
        exact ⟨v1 ++ v2, hv.append h4, v1, v2, rfl, by rw [← hlen, hv.len], fun _ => e, fun hh => (by cases hh), h5⟩
      | false =>
        have hv : RCs w Z B cs1 [E s] := hv
        exact ⟨[E s] ++ v2, hv.append h4, [E s], v2, rfl, by rw [← hlen, hv.len], fun hh => (by cases hh), fun _ => rfl, h5⟩
    · cases h
theorem cellsB_ok (h2 : Rel za w0 st2 E w Z B) : ∀ {l : List (Nat × TypeId × List CSh)} {cs : List C}, cellsB st2 l = some cs → ∃ vs, RCs w Z B cs vs ∧ BoxVals za w0 w Z B st2 l vs
  | [], cs, h => by cases h; exact ⟨[], rfl, rfl⟩
  | (k, T, shs) :: l, cs, h => by
    simp only [cellsB] at h
    split at h
    · rename_i T' cs1 hk
      obtain ⟨hb, h⟩ := bif_none h
      simp only [Option.map_eq_some_iff] at h
      obtain ⟨cs2, h3, rfl⟩ := h
      simp only [Bool.and_eq_true] at hb
      have hT := Nat.eq_of_beq_eq_true hb.1
      subst hT
      have hlen := Nat.eq_of_beq_eq_true hb.2
      obtain ⟨v2, h4, h5⟩ := cellsB_ok h2 h3
      have hL := h2.locs k
      rw [hk] at hL
      obtain ⟨b, vs, e, h6, h7, h8, h9⟩ := hL
      exact ⟨vs.toList ++ v2, h9.append h4, vs.toList, v2, rfl, by rw [← hlen, h9.len], by rw [hk]; trivial, ⟨b, e, h6, h7, by simpa using h8⟩, h5⟩
    · cases h
theorem lcAt_ok (h2 : Rel za w0 st2 E w Z B) {k : Nat} {t : LT} {x : t.den} (hl : lcAt st2 k t = some x) : live (st2.L k) ∧ RL (up za w0 k) w Z B k (t.lc x) ∧ t.wf x := by
  cases t with
  | row t e =>
    have hk := rowAt_ok hl
    have hL := h2.locs k
    rw [hk] at hL
    refine ⟨by rw [hk]; trivial, hL, ?_⟩
    obtain ⟨xs, o1, o2, _⟩ := hL
    exact Rep.wf (own_rep (Z := fun _ => True) o1 (o2.mono fun _ _ => Rep.mono (fun _ _ => trivial) (fun _ _ => rfl)) (fun _ _ => trivial))
  | map ka kt va vt =>
    simp only [lcAt, mapC] at hl
    cases hk : st2.L k with
    | map ka' kt' va' vt' es =>
      rw [hk] at hl
      simp only at hl
      split at hl
      · rename_i hh
        cases hh
        cases hl
        have hL := h2.locs k
        rw [hk] at hL
        refine ⟨trivial, hL, ?_⟩
        obtain ⟨b, ents, cl, e, _, _, hb, he⟩ := hL
        exact Rep.wf (map_rep (Z := fun _ => True) hb (he.mono (fun _ _ => trivial) (fun _ _ => rfl)) trivial)
      · cases hl
    | _ => rw [hk] at hl; cases hl
theorem RL.setB {U : Nat → Prop} {B' : Nat → Value} {k : Nat} {t : LT} {x : t.den} (h : RL U w Z B k (t.lc x)) (e : B' k = B k) : RL U w Z B' k (t.lc x) := by
  cases t with
  | row t e0 => obtain ⟨xs, a, b, c⟩ := h; exact ⟨xs, by rw [e]; exact a, b, by rw [e]; exact c⟩
  | map ka kt va vt => obtain ⟨b, ents, cl, a, r⟩ := h; exact ⟨b, ents, cl, e.trans a, r⟩
theorem putRows_ok (h2 : Rel za w0 st2 E w Z B) {BX : Nat → Value} {n0 : Nat} (hB : ∀ k, k < n0 → BX k = B k) : ∀ {l : List (Nat × LT)} {x : rowD l} {st : St} {used : List Nat}, Claim za w0 st2 E w Z B used st BX → n0 ≤ st.nx → rowP st2 l = some x → (∀ y ∈ l, y.1 < n0) → (∀ y ∈ l, y.1 ∉ used) → (l.map fun y => y.1).Nodup →
    Claim za w0 st2 E w Z B ((l.map fun y => y.1) ++ used) (putRows l x st) BX ∧ (putRows l x st).nx = st.nx
  | [], _, st, used, c, _, _, _, _, _ => ⟨c, rfl⟩
  | (k, t) :: r, x, st, used, c, hn, hp, hlt, hu, hnd => by
    simp only [rowP, bind_some, Option.map_eq_some_iff] at hp
    obtain ⟨l, hl, z, hz, rfl⟩ := hp
    have hkl := hlt (k, t) (by simp)
    have hku := hu (k, t) (by simp)
    simp only at hkl hku
    obtain ⟨hlive, hRL, _⟩ := lcAt_ok h2 hl
    have hBk : BX k = B k := hB k hkl
    simp only [List.map_cons, List.nodup_cons] at hnd
    have c1 : Claim za w0 st2 E w Z B (k :: used) (st.setL k (t.lc l)) BX := by
      refine ⟨c.rel.addL (by omega) (hRL.setB hBk) (fun j b _ hj hb => ?_) (by cases t <;> trivial) (fun b hk hb => h2.mrk.2 k b hk hlive (hBk ▸ hb)), fun j hj => ?_⟩
      · rw [hBk] at hb; exact c.disj h2 hku hlive j b hj hb
      · rw [St.L_setL] at hj
        by_cases hjk : j = k
        · subst hjk; exact .inl ⟨j, by simp, hBk, hlive⟩
        · rw [if_neg hjk] at hj
          rcases c.own j hj with ⟨q, h1, h3⟩ | h1
          · exact .inl ⟨q, List.mem_cons_of_mem _ h1, h3⟩
          · exact .inr h1
    obtain ⟨c2, hnx⟩ := putRows_ok h2 hB c1 hn hz (fun y hy => hlt y (List.mem_cons_of_mem _ hy)) (fun y hy => by
      intro hh
      rcases List.mem_cons.1 hh with hh | hh
      · exact hnd.1 (hh ▸ List.mem_map_of_mem hy)
      · exact hu y (List.mem_cons_of_mem _ hy) hh) hnd.2
    refine ⟨⟨c2.rel, fun j hj => ?_⟩, hnx⟩
    rcases c2.own j hj with ⟨q, h1, h3⟩ | h1
    · refine .inl ⟨q, ?_, h3⟩
      simp only [List.map_cons]
      grind
    · exact .inr h1
theorem putS_ok {BX : Nat → Value} : ∀ {l : List (Nat × Bool × List CSh)} {cs : List C} {vs vr : List Value} {st : St} {used : List Nat}, Claim za w0 st2 E w Z B used st BX → RCs w Z BX cs vs → SlotVals E l vs vr → (∀ c ∈ cs, refC st.nx c) →
    Claim za w0 st2 E w Z B used (putS l cs st).2 BX ∧ RCs w Z BX (putS l cs st).1 vr ∧ (∀ c ∈ (putS l cs st).1, refC st.nx c) ∧ (putS l cs st).2.nx = st.nx
  | [], cs, vs, vr, st, used, c, hr, hv, hf => by rw [show vs = vr from hv] at hr; exact ⟨c, hr, hf, rfl⟩
  | (s, agg, shs) :: l, cs, vs, vr, st, used, c, hr, ⟨v1, v2, e, hl, ha, hna, hv⟩, hf => by
    subst e
    have h1 := hr.take shs.length
    have h2 := hr.drop shs.length
    rw [← hl, List.take_left] at h1
    rw [← hl, List.drop_left] at h2
    rw [hl] at h1 h2
    have hRS : RS w Z BX ⟨agg, cs.take shs.length⟩ (E s) := by
      cases agg with
      | true => exact ⟨v1, ha rfl, h1⟩
      | false => rw [hna rfl] at h1; exact h1
    have c1 : Claim za w0 st2 E w Z B used (st.setS s (.one ⟨agg, cs.take shs.length⟩)) BX := ⟨c.rel.setSame s hRS (fun x hx => hf x (List.mem_of_mem_take hx)), c.own⟩
    have := putS_ok (l := l) (cs := cs.drop shs.length) c1 h2 hv (fun x hx => hf x (List.mem_of_mem_drop hx))
    exact this
theorem putB_ok (h2 : Rel za w0 st2 E w Z B) {BX : Nat → Value} {n0 : Nat} (hB : ∀ k, k < n0 → BX k = B k) : ∀ {l : List (Nat × TypeId × List CSh)} {cs : List C} {vs : List Value} {st : St} {used : List Nat}, Claim za w0 st2 E w Z B used st BX → n0 ≤ st.nx → RCs w Z BX cs vs → BoxVals za w0 w Z B st2 l vs → (∀ c ∈ cs, refC st.nx c) → (∀ y ∈ l, y.1 < n0) → (∀ y ∈ l, y.1 ∉ used) → (l.map fun y => y.1).Nodup →
    Rel za w0 (putB l cs st) E w Z BX
  | [], _, _, st, used, c, _, _, _, _, _, _, _ => c.rel
  | (k, T, shs) :: l, cs, vs, st, used, c, hn, hr, ⟨v1, v2, e, hl, hlv, ⟨b, hBk, hb0, hnz, hblk⟩, hv⟩, hf, hlt, hu, hnd => by
    subst e
    have h1 := hr.take shs.length
    have h3 := hr.drop shs.length
    rw [← hl, List.take_left] at h1
    rw [← hl, List.drop_left] at h3
    rw [hl] at h1 h3
    have hkl := hlt (k, T, shs) (by simp)
    have hku := hu (k, T, shs) (by simp)
    simp only at hkl hku
    have hBX : BX k = B k := hB k hkl
    simp only [List.map_cons, List.nodup_cons] at hnd
    have c1 : Claim za w0 st2 E w Z B (k :: used) (st.setL k (.box T (cs.take shs.length))) BX := by
      refine ⟨c.rel.addL (by omega) ⟨b, v1.toArray, hBX.trans hBk, hb0, hnz, hblk, by simpa using h1⟩ (fun j q _ hj hq => ?_) (fun x hx => hf x (List.mem_of_mem_take hx)) (fun q hk hb => h2.mrk.2 k q hk hlv (hBX ▸ hb)), fun j hj => ?_⟩
      · rw [hBX] at hq; exact c.disj h2 hku hlv j q hj hq
      · rw [St.L_setL] at hj
        by_cases hjk : j = k
        · subst hjk; exact .inl ⟨j, by simp, hBX, hlv⟩
        · rw [if_neg hjk] at hj
          rcases c.own j hj with ⟨q, h1, h3⟩ | h1
          · exact .inl ⟨q, List.mem_cons_of_mem _ h1, h3⟩
          · exact .inr h1
    have := putB_ok (l := l) (cs := cs.drop shs.length) h2 hB c1 hn h3 hv (fun x hx => hf x (List.mem_of_mem_drop hx)) (fun y hy => hlt y (List.mem_cons_of_mem _ hy)) (fun y hy => by
      intro hh
      rcases List.mem_cons.1 hh with hh | hh
      · exact hnd.1 (hh ▸ List.mem_map_of_mem hy)
      · exact hu y (List.mem_cons_of_mem _ hy) hh) hnd.2
    exact this
/-- wf of what is gathered -/
theorem packSh_wf (h2 : Rel za w0 st2 E w Z B) : ∀ {shs : List CSh} {T : Type} {tl : T} {q : T → Prop} {cs : List C} {vs : List Value} {p : shD shs T}, q tl → RCs w Z B cs vs → packSh st2 shs tl cs = some p → shW shs q p
  | [], _, tl, q, [], vs, p, hq, _, hp => by simp only [packSh, Option.some.injEq] at hp; subst hp; exact hq
  | [], _, _, _, _ :: _, _, _, _, _, hp => by cases hp
  | .val t :: r, _, _, _, [], _, _, _, _, hp => by cases hp
  | .own t e :: r, _, _, _, [], _, _, _, _, hp => by cases hp
  | .val t :: r, _, tl, q, c :: cs, vs, p, hq, ⟨v, vs', e, h1, h3⟩, hp => by
    simp only [packSh, bind_some, Option.map_eq_some_iff] at hp
    obtain ⟨y, hy, z, hz, rfl⟩ := hp
    exact ⟨Rep.wf (asTy_ok h1 hy), packSh_wf h2 hq h3 hz⟩
  | .own t e :: r, _, tl, q, c :: cs, vs, p, hq, ⟨v, vs', _, h1, h3⟩, hp => by
    simp only [packSh, bind_some, Option.map_eq_some_iff] at hp
    obtain ⟨l, hl, z, hz, rfl⟩ := hp
    obtain ⟨xs, o1, o2, _⟩ := rowFor_ok h2 h1 hl
    exact ⟨Rep.wf (own_rep (Z := fun _ => True) o1 (o2.mono fun _ _ => Rep.mono (fun _ _ => trivial) (fun _ _ => rfl)) (fun _ _ => trivial)), packSh_wf h2 hq h3 hz⟩
theorem rowP_wf (h2 : Rel za w0 st2 E w Z B) : ∀ {l : List (Nat × LT)} {x : rowD l}, rowP st2 l = some x → rowW l x
  | [], _, _ => trivial
  | (k, t) :: r, x, hp => by
    simp only [rowP, bind_some, Option.map_eq_some_iff] at hp
    obtain ⟨l, hl, z, hz, rfl⟩ := hp
    exact ⟨(lcAt_ok h2 hl).2.2, rowP_wf h2 hz⟩
/-- A state that is gathered as p may be told by what p says. -/
theorem gath_ok {A : Ann} {p : A.den} {st1 : St} (hb0 : za.b0 = 0) (h : Rel za w0 st E w Z B) (hg : gath A st = some (st1, p)) (pk : Pure za.n st0) (hS : ∀ s ∈ A.keepS, st1.eS s = st0.eS s) (hL : ∀ k ∈ A.keepL, st1.eL k = st0.eL k) (hR : ∀ y ∈ A.rowL, y.1 < st0.nx) (hBx : ∀ y ∈ A.boxL, y.1 < st0.nx) :
    A.wf p ∧ ∃ Z' B', Rel za w0 (reflect A st0 p) E w Z' B' := by
  simp only [gath, Option.bind_eq_bind, bind_some] at hg
  obtain ⟨cs0, _, cs, hcs, tl, htl, p', hp, hg⟩ := hg
  obtain ⟨hnd, hg⟩ := bif_none hg
  cases hg
  obtain ⟨Z1, h2⟩ := Rel.settleSh (shs := A.shs) (cs := cs0) h
  generalize settleSh st A.shs cs0 = st2 at *
  have hnd := nodupB_spec hnd
  simp only [Ann.cells, bind_some] at hcs
  obtain ⟨cb, hcb, hcs⟩ := hcs
  obtain ⟨vb, hb1, hb2⟩ := cellsB_ok h2 hcb
  obtain ⟨vs, hs1, hs2⟩ := cellsS_ok h2 hb1 hcs
  refine ⟨packSh_wf h2 (rowP_wf h2 htl) hs1 hp, ?_⟩
  have c0 := claim0 h2 pk hS hL
  rw [List.nodup_append] at hnd
  obtain ⟨n1, n2, n3⟩ := hnd
  rw [List.nodup_append] at n2
  obtain ⟨n4, n5, n6⟩ := n2
  rw [List.nodup_append] at n5
  obtain ⟨n7, n8, n9⟩ := n5
  obtain ⟨BX, g1, g2, g3, g4, g5, g6⟩ := place_ok hb0 h2 c0 hs1 hp (fun q hq hk => n3 q hk q (by simp [hq]) rfl) n4
  have hB : ∀ k, k < st0.nx → BX k = B k := g4
  have q1 := putRows_ok h2 hB (x := (placeSh A.shs p (kept A st0)).2.2) g1 g5 (by rw [g6]; exact htl) hR (fun y hy hh => by
    rcases List.mem_append.1 hh with hh | hh
    · exact n6 y.1 hh y.1 (by simp only [List.mem_append, List.mem_map]; exact .inl ⟨y, hy, rfl⟩) rfl
    · exact n3 y.1 hh y.1 (by simp only [List.mem_append, List.mem_map]; exact .inr (.inl ⟨y, hy, rfl⟩)) rfl) n7
  have q2 := putS_ok (l := A.modS) q1.1 g2 hs2 (by rw [q1.2]; exact g3)
  refine ⟨Z1, BX, ?_⟩
  exact putB_ok h2 hB q2.1 (by rw [q2.2.2.2, q1.2]; exact g5) q2.2.1 hb2 (by rw [q2.2.2.2]; exact q2.2.2.1) hBx (fun y hy hh => by
    rcases List.mem_append.1 hh with hh | hh
    · exact n9 y.1 hh y.1 (List.mem_map_of_mem hy) rfl
    · rcases List.mem_append.1 hh with hh | hh
      · exact n6 y.1 hh y.1 (by simp only [List.mem_append, List.mem_map]; exact .inr ⟨y, hy, rfl⟩) rfl
      · exact n3 y.1 hh y.1 (by simp only [List.mem_append, List.mem_map]; exact .inr (.inr ⟨y, hy, rfl⟩)) rfl) n8
end
end Go.Vc
