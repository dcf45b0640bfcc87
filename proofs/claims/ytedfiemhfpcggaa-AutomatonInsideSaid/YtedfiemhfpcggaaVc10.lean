/- Slices that become still, and the steps of a run. -/
import Derived.Test.YtedfiemhfpcggaaVc9
namespace Go.Vc
open Go Go.RowKit Go.Gw

def frzC (k : Nat) (c' : C) : C → C
  | .row j => bif Nat.beq j k then c' else .row j
  | .mp j => bif Nat.beq j k then c' else .mp j
  | c => c
def frzS (k : Nat) (c' : C) (s : SV) : SV := ⟨s.agg, s.cs.map (frzC k c')⟩
def frzD (k : Nat) (c' : C) : DV → DV
  | .one s => .one (frzS k c' s)
  | .tup ss => .tup (ss.map (frzS k c'))
  | .cnd t b s => .cnd t b (frzS k c' s)
  | .dead => .dead
def frzL (k : Nat) (c' : C) : LC → LC
  | .box T cs => .box T (cs.map (frzC k c'))
  | x => x
def hasR (k : Nat) : C → Bool
  | .row j => Nat.beq j k
  | .mp j => Nat.beq j k
  | _ => false
def hasRD (k : Nat) : DV → Bool
  | .one s => s.cs.any (hasR k)
  | .tup ss => ss.any fun s => s.cs.any (hasR k)
  | .cnd _ _ s => s.cs.any (hasR k)
  | .dead => false
def hasRL (k : Nat) : LC → Bool
  | .box _ cs => cs.any (hasR k)
  | _ => false
def mapV {α : Type} (p : α → Bool) (f : α → α) (g : Nat) : List (Nat × Nat × α) → List (Nat × Nat × α)
  | [] => []
  | (s, x) :: l => (s, bif p x.2 then (g, f x.2) else x) :: mapV p f g l
theorem find_mapV {α : Type} (p : α → Bool) (f : α → α) (g : Nat) (d : Nat × α) (hd : p d.2 = false) (q : Nat) : ∀ l : List (Nat × Nat × α), find d q (mapV p f g l) = bif p (find d q l).2 then (g, f (find d q l).2) else find d q l
  | [] => by simp [mapV, find, hd]
  | (s, x) :: l => by
    simp only [mapV, find, find_mapV p f g d hd q l]
    cases Nat.beq s q <;> rfl
theorem hasR_frz {k : Nat} {c' : C} : ∀ {cs : List C}, cs.any (hasR k) = false → cs.map (frzC k c') = cs
  | [], _ => rfl
  | c :: cs, h => by
    simp only [List.any_cons, Bool.or_eq_false_iff] at h
    rw [List.map_cons, hasR_frz h.2]
    congr 1
    cases c with
    | row j => simp only [hasR] at h; simp only [frzC, h.1, cond_false]
    | mp j => simp only [hasR] at h; simp only [frzC, h.1, cond_false]
    | _ => rfl
theorem hasRD_frz {k : Nat} {c' : C} {d : DV} (h : hasRD k d = false) : frzD k c' d = d := by
  cases d with
  | one s => simp only [frzD, frzS, hasR_frz h]
  | cnd t b s => simp only [frzD, frzS, hasR_frz h]
  | dead => rfl
  | tup ss =>
    simp only [frzD]
    congr 1
    simp only [hasRD] at h
    induction ss with
    | nil => rfl
    | cons s ss ih =>
      simp only [List.any_cons, Bool.or_eq_false_iff] at h
      rw [List.map_cons, ih h.2]
      congr 1
      simp only [frzS, hasR_frz h.1]
theorem hasRL_frz {k : Nat} {c' : C} {l : LC} (h : hasRL k l = false) : frzL k c' l = l := by
  cases l with
  | box T cs => simp only [frzL, hasR_frz h]
  | _ => rfl
def St.freeze (st : St) (k : Nat) (c' : C) : St := ⟨mapV (hasRD k) (frzD k c') (st.ct + 1) st.sl, mapV (hasRL k) (frzL k c') (st.ct + 1) (put k (st.ct + 1, .none) st.lc), st.nx, st.ct + 1, st.nm⟩
theorem St.eS_freeze (st : St) (k : Nat) (c' : C) (s : Nat) : (st.freeze k c').eS s = bif hasRD k (st.S s) then (st.ct + 1, frzD k c' (st.S s)) else st.eS s := find_mapV _ _ _ _ rfl _ _
theorem St.S_freeze (st : St) (k : Nat) (c' : C) (s : Nat) : (st.freeze k c').S s = frzD k c' (st.S s) := by
  show ((st.freeze k c').eS s).2 = _
  rw [St.eS_freeze]
  cases h : hasRD k (st.S s) with
  | true => rfl
  | false => exact (hasRD_frz h).symm
theorem St.eL_freeze (st : St) (k : Nat) (c' : C) (q : Nat) : (st.freeze k c').eL q = bif hasRL k (if q = k then (st.ct + 1, LC.none) else st.eL q).2 then (st.ct + 1, frzL k c' (if q = k then (st.ct + 1, LC.none) else st.eL q).2) else (if q = k then (st.ct + 1, LC.none) else st.eL q) := by
  show find (0, .none) q (mapV (hasRL k) (frzL k c') (st.ct + 1) (put k (st.ct + 1, .none) st.lc)) = _
  rw [find_mapV _ _ _ _ rfl, find_put]; rfl
theorem St.L_freeze (st : St) (k : Nat) (c' : C) (q : Nat) : (st.freeze k c').L q = frzL k c' (if q = k then .none else st.L q) := by
  show ((st.freeze k c').eL q).2 = _
  rw [St.eL_freeze]
  have e : (if q = k then (st.ct + 1, LC.none) else st.eL q).2 = if q = k then LC.none else st.L q := by split <;> rfl
  rw [e]
  cases h : hasRL k (if q = k then LC.none else st.L q) with
  | true => rfl
  | false => rw [cond_false, e]; exact (hasRL_frz h).symm
theorem live_frzL {k : Nat} {c' : C} {l : LC} : live (frzL k c' l) ↔ live l := by cases l <;> rfl
section
variable {za : Zn} {w0 w w' : World} {Z : Nat → Prop} {B : Nat → Value} {st : St} {E : Env} {n : Nat}
section frz
variable {k : Nat} {c' : C} (hc' : ∀ v, v = B k → RC w Z B c' v) (hr' : refC n c')
include hc' in
theorem frzC_ok {c : C} {v : Value} (h : RC w Z B c v) : RC w Z B (frzC k c' c) v := by
  cases c with
  | row j =>
    simp only [frzC]
    cases hj : Nat.beq j k with
    | true => have := Nat.eq_of_beq_eq_true hj; subst this; exact hc' v h
    | false => exact h
  | mp j =>
    simp only [frzC]
    cases hj : Nat.beq j k with
    | true => have := Nat.eq_of_beq_eq_true hj; subst this; exact hc' v h
    | false => exact h
  | _ => exact h
include hr' in
theorem frzC_ref {c : C} (h : refC n c) : refC n (frzC k c' c) := by
  cases c with
  | row j =>
    simp only [frzC]
    cases Nat.beq j k with
    | true => exact hr'
    | false => exact h
  | mp j =>
    simp only [frzC]
    cases Nat.beq j k with
    | true => exact hr'
    | false => exact h
  | _ => exact h
include hc' in
theorem frzCs_ok : ∀ {cs : List C} {vs : List Value}, RCs w Z B cs vs → RCs w Z B (cs.map (frzC k c')) vs
  | [], _, h => h
  | _ :: _, _, ⟨v, vs', e, h1, h2⟩ => ⟨v, vs', e, frzC_ok hc' h1, frzCs_ok h2⟩
include hr' in
theorem frzCs_ref {cs : List C} (h : ∀ c ∈ cs, refC n c) : ∀ c ∈ cs.map (frzC k c'), refC n c := fun c hc => by
  obtain ⟨c0, h0, rfl⟩ := List.mem_map.1 hc
  exact frzC_ref hr' (h c0 h0)
include hc' in
theorem frzS_ok : ∀ {s : SV} {v : Value}, RS w Z B s v → RS w Z B (frzS k c' s) v
  | ⟨true, _⟩, _, ⟨vs, e, h⟩ => ⟨vs, e, frzCs_ok hc' h⟩
  | ⟨false, _⟩, _, h => frzCs_ok hc' h
include hc' in
theorem frzSs_ok : ∀ {ss : List SV} {vs : List Value}, RSs w Z B ss vs → RSs w Z B (ss.map (frzS k c')) vs
  | [], _, h => h
  | _ :: _, _, ⟨v, vs', e, h1, h2⟩ => ⟨v, vs', e, frzS_ok hc' h1, frzSs_ok h2⟩
include hc' in
theorem frzD_ok : ∀ {d : DV} {v : Value}, RD w Z B E d v → RD w Z B E (frzD k c' d) v
  | .one _, _, h => frzS_ok hc' h
  | .tup _, _, ⟨vs, e, h⟩ => ⟨vs, e, frzSs_ok hc' h⟩
  | .cnd _ _ _, _, h => h.imp (fun ⟨a, b⟩ => ⟨a, frzS_ok hc' b⟩) id
  | .dead, _, _ => trivial
include hr' in
theorem frzD_ref : ∀ {d : DV}, refD n d → refD n (frzD k c' d)
  | .one _, h => frzCs_ref hr' h
  | .tup ss, h => fun s hs => by
    obtain ⟨s0, h0, rfl⟩ := List.mem_map.1 hs
    exact frzCs_ref hr' (h s0 h0)
  | .cnd _ _ _, h => frzCs_ref hr' h
  | .dead, _ => trivial
include hr' in
theorem frzL_ref : ∀ {d : LC}, refL n d → refL n (frzL k c' d)
  | .box _ _, h => frzCs_ref hr' h
  | .none, _ => trivial
  | .row _ _ _, _ => trivial
  | .map _ _ _ _ _, _ => trivial
end frz
/-- The cells of a row that the call owns. -/
theorem own_cells {base e sz m : Nat} {v : Value} {xs : List Value} {b cap : Nat} (hown : w.ownsRow base e sz v m xs) (hv : v = .slice (some ⟨b, 0, none⟩) m cap) : CellsAt w ⟨b, 0, none⟩ xs := fun j u hj => by
  subst hv
  rcases hown.2 with ⟨hh, _⟩ | ⟨g, cap', cur, hh, _, hg, _, _, _, htk⟩
  · cases hh
  · cases hh
    rw [add_lit, Nat.zero_add]
    simp only [World.cell?, hg]
    rw [← htk, List.getElem?_take] at hj
    split at hj
    · simpa using hj
    · cases hj
theorem own_rep {t : Ty} {base e : Nat} {v : Value} {l : List t.den} {xs : List Value} (hown : w.ownsRow base e t.size v l.length xs) (he : Each (Rep t w Z) xs l) (hz : ∀ b, v.ownBlock = some b → Z b) : Rep (.sl t) w Z [v] l := by
  rcases hown.2 with ⟨hv, hn⟩ | ⟨g, cap, cur, hv, _, hg, hc, hm, _⟩
  · have : l = [] := List.eq_nil_of_length_eq_zero hn
    subst this; subst hv
    exact ⟨none, 0, rfl, Nat.le_refl _, Nat.zero_le _, fun _ => rfl, .inl rfl⟩
  · exact ⟨some ⟨g, 0, none⟩, cap, by rw [hv], hc, hm, fun hh => (by cases hh), .inr ⟨g, 0, xs, rfl, hz g (by rw [hv]; rfl), own_cells hown hv, he⟩⟩
theorem Rel.freeze (h : Rel za w0 st E w Z B) {k : Nat} {c' : C} (hl : live (st.L k)) (hn : st.nm ≤ k) (hcv : RC w (fun b => Z b ∨ root (B k) = some b) B c' (B k)) (hr' : ∀ n, refC n c') : Rel za w0 (st.freeze k c') E w (fun b => Z b ∨ root (B k) = some b) B := by
  have h1 : Rel za w0 (st.setL k .none) E w (fun b => Z b ∨ root (B k) = some b) B := by
    refine (h.drop k).keep h.ext (Nat.le_refl _) (fun _ _ => rfl) (fun _ => .inl) (fun b hb => ?_)
    rcases hb with hb | hb
    · exact .inl hb
    · obtain ⟨g1, g2, _⟩ := (h.locs k).root hl hb
      refine .inr ⟨g2, ?_, fun q hq hqb => ?_⟩
      · rcases g1 with g1 | g1
        · exact g1
        · have := h.nms.1; omega
      · rw [St.L_setL] at hq
        by_cases hqk : q = k
        · rw [if_pos hqk] at hq; exact hq.elim
        · rw [if_neg hqk] at hq
          exact h.disj q k b hqk hq hl hqb hb
  have hc' : ∀ v, v = B k → RC w (fun b => Z b ∨ root (B k) = some b) B c' v := fun v hv => by subst hv; exact hcv
  refine ⟨h1.ext, h1.zlt, fun s => ?_, fun q => ?_, fun q q' b hne l1 l2 => ?_, fun s => ?_, fun q => ?_, fun q hq => ?_, h1.bone, h1.zin, h1.nms, h1.bfix, h1.mrk.1, fun q b hk hl hb => h1.mrk.2 q b hk (by rw [St.L_freeze, live_frzL, ← St.L_setL] at hl; exact hl) hb⟩
  · rw [St.S_freeze]; exact frzD_ok hc' (h1.slots s)
  · rw [St.L_freeze, ← St.L_setL]
    have := h1.locs q
    cases hq : (st.setL k .none).L q with
    | box T cs =>
      rw [hq] at this
      obtain ⟨b, vs, e1, e2, e3, e4, e5⟩ := this
      exact ⟨b, vs, e1, e2, e3, e4, frzCs_ok hc' e5⟩
    | none => trivial
    | row _ _ _ => rw [hq] at this; exact this
    | map _ _ _ _ _ => rw [hq] at this; exact this
  · rw [St.L_freeze, live_frzL, ← St.L_setL] at l1 l2
    exact h1.disj q q' b hne l1 l2
  · rw [St.S_freeze]; exact frzD_ref (hr' _) (h1.refs s)
  · rw [St.L_freeze, ← St.L_setL]; exact frzL_ref (hr' _) (h1.refl q)
  · rw [St.L_freeze, ← St.L_setL, h1.fresh q hq]; rfl
theorem map_rep {ka va : Bool} {kt vt : Ty} {b : Nat} {ents : Array MapEntry} {cl : Nat} {es : List (kt.den × vt.den)} (hb : w.heap[b]? = some (.map ents cl)) (he : Ents w Z ka kt va vt ents.toList es) (hz : Z b) : Rep (.mp ka kt va vt) w Z [.map (some b)] es := .inr ⟨b, ents, cl, rfl, hz, hb, he⟩
/-- The rows among the cells become still. -/
def settle : St → List C → St
  | st, [] => st
  | st, .row k :: cs => match st.L k with
    | .row t _ l => settle (bif Nat.ble st.nm k then st.freeze k (.val (.sl t) l) else st) cs
    | _ => settle st cs
  | st, .mp k :: cs => match st.L k with
    | .map ka kt va vt es => settle (bif Nat.ble st.nm k then st.freeze k (.val (.mp ka kt va vt) es) else st) cs
    | _ => settle st cs
  | st, _ :: cs => settle st cs
theorem Rel.settle (h : Rel za w0 st E w Z B) : ∀ cs : List C, ∃ Z', Rel za w0 (settle st cs) E w Z' B := by
  intro cs
  induction cs generalizing st Z with
  | nil => exact ⟨Z, h⟩
  | cons c cs ih =>
    cases c with
    | row k =>
      simp only [Vc.settle]
      cases hk : st.L k with
      | row t e l =>
        cases hn : Nat.ble st.nm k with
        | false => exact ih h
        | true =>
          have hL := h.locs k
          rw [hk] at hL
          obtain ⟨xs, hown, heach, hnz⟩ := hL
          have hro := own_root hown
          exact ih (h.freeze (by rw [hk]; trivial) (Nat.le_of_ble_eq_true hn) (own_rep hown (heach.mono fun _ _ => Rep.mono (fun _ => .inl) (fun _ _ => rfl)) (fun b hb => .inr (hro.trans hb))) (fun _ => trivial))
      | _ => exact ih h
    | mp k =>
      simp only [Vc.settle]
      cases hk : st.L k with
      | map ka kt va vt es =>
        cases hn : Nat.ble st.nm k with
        | false => exact ih h
        | true =>
          have hL := h.locs k
          rw [hk] at hL
          obtain ⟨b, ents, cl, e, _, _, hb, he⟩ := hL
          exact ih (h.freeze (by rw [hk]; trivial) (Nat.le_of_ble_eq_true hn) (by rw [e]; exact map_rep hb (he.mono (fun _ => .inl) (fun _ _ => rfl)) (.inr rfl)) (fun _ => trivial))
      | _ => exact ih h
    | _ => exact ih h
def settleO (st : St) (x : Operand) : St := match st.ev [] x with
  | some s => settle st s.cs
  | none => st
theorem Rel.settleO (h : Rel za w0 st E w Z B) (x : Operand) : ∃ Z', Rel za w0 (settleO st x) E w Z' B := by
  unfold Vc.settleO
  split
  · exact h.settle _
  · exact ⟨Z, h⟩
end

/-! ### Steps -/
section
variable {P : Program} {all : List Oper} {E : Env} {w w' : World} {next : Env → World → Prop} {d : Nat} {op : Op} {ty : TypeId} {pos : String} {aft : Array Edge} {g : Option (Nat × Bool)} {v : Value}
theorem step_y (hy : Gw.Yields P E ty op w v w') (hg : wantedE all ⟨some d, op, ty, pos, aft, g⟩ E = true) (h : next (upd E d v) w') : stepI P all ⟨some d, op, ty, pos, aft, g⟩ next E w := by
  unfold stepI
  rw [if_pos hg, hy]
  exact h
theorem step_s (hy : Gw.Skips P E ty op w w') (hg : wantedE all ⟨none, op, ty, pos, aft, g⟩ E = true) (h : next E w') : stepI P all ⟨none, op, ty, pos, aft, g⟩ next E w := by
  unfold stepI
  rw [if_pos hg, hy]
  exact h
theorem step_c {f : FuncId} {args : List Value} {Φ : Value → World → Prop} (he : Gw.Enters P E ty op w f args) (hc : Gw.Ret P f args w Φ) (hg : wantedE all ⟨some d, op, ty, pos, aft, g⟩ E = true)
    (h : ∀ v w', Φ v w' → next (upd E d v) w') : stepI P all ⟨some d, op, ty, pos, aft, g⟩ next E w := by
  unfold stepI
  rw [if_pos hg, he]
  exact Calls.mono hc fun _ _ ⟨v, he, hv⟩ => ⟨v, he, h _ _ hv⟩
theorem step_off (hg : wantedE all ⟨some d, op, ty, pos, aft, g⟩ E = false) (h : next (upd E d undef) w) : stepI P all ⟨some d, op, ty, pos, aft, g⟩ next E w := by
  unfold stepI
  rw [if_neg (by rw [hg]; simp)]
  exact h
end
/-- May the operation write a block that was there? -/
def wrB : Op → Bool
  | .store _ _ _ => true
  | .mapUpdate _ _ _ _ => true
  | .insert _ _ _ _ => true
  | .call ⟨.builtin .append, _, _⟩ => true
  | .call ⟨.builtin .copy, _, _⟩ => true
  | .call ⟨.builtin .delete, _, _⟩ => true
  | _ => false
def Nx (za : Zn) (w0 : World) (k : St → Prop) (E : Env) (w : World) : Prop := ∃ st Z B, Rel za w0 st E w Z B ∧ k st
/-- .. and old blocks stay, unless the operation writes. -/
def NxE (za : Zn) (w0 w : World) (wr : Bool) (k : St → Prop) (E : Env) (w' : World) : Prop := (wr = false → Ext w w') ∧ Nx za w0 k E w'
end Go.Vc
