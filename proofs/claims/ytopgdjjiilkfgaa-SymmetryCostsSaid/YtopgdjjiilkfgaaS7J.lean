/- For every input SymmetryCosts returns true and leaves its arguments as they were: the whole given statement, no condition. -/
import Derived.Test.YtopgdjjiilkfgaaKG
/- Equal transitions: equal costs, equal hours On. -/
namespace Go.Proofs.Ytopgdjjiilkfgaa
open Go.Vc Go.Gw
def costK (u : U) (k : Key) : Int := costF u k.2.1.1 k.2.1.2 k.2.2
theorem costs_tr (u : U) : ∀ (w : List St) (s : St) (h : Nat), costsF u s w = ((trF s h w).map (costK u)).sum
  | [], _, _ => rfl
  | t :: w, s, h => by
    simp only [costsF, trF, List.map_cons, List.sum_cons]
    rw [costs_tr u w t (h + 1)]
    rfl
theorem run_kinds {u : U} {aw ks : List Int} : ∀ {g : Nat} {p : List St × St}, runTo u aw ks g = some p → p.1.map (·.1) = ks.take g
  | 0, p, h => by simp only [runTo, Option.some.injEq] at h; subst h; rfl
  | g + 1, p, h => by
    obtain ⟨p', k, t, hr, hk, hst, rfl⟩ := run_prev h
    rw [List.map_append, run_kinds hr, List.take_add_one, hk]
    simp only [List.map_cons, List.map_nil, Option.toList_some]
    rw [(step_mem hst).2.1]
theorem walk_kinds {u : U} {aw k : List Int} {w : List St} (h : walkF u aw k = some w) : w.map (·.1) = k := by
  obtain ⟨p, hp, rfl, _⟩ := walkF_some h
  rw [run_kinds hp, List.take_length]
def onK (k : Key) : Bool := decide (k.2.2.1 = 2)
theorem on_tr : ∀ (w : List St) (s : St) (h : Nat), ((w.map (·.1)).count (2 : Int)) = (trF s h w).countP onK
  | [], _, _ => rfl
  | t :: w, s, h => by
    simp only [List.map_cons, trF, List.count_cons, List.countP_cons]
    rw [on_tr w t (h + 1)]
    congr 1
/-- The cost of kinds. -/
def kCost (u : U) (aw k : List Int) : Int := costsF u (initF u) ((walkF u aw k).getD [])
def kOn (k : List Int) : Int := (k.count (2 : Int) : Int)
theorem cost_sum {u : U} {aw : List Int} : ∀ {ks : List (List Int)} {ws : List (List St)}, walks u aw ks = some ws → (ks.map (kCost u aw)).sum = ((trAll u ws).map (costK u)).sum ∧ (ks.map kOn).sum = ((trAll u ws).countP onK : Int)
  | [], ws, h => by simp only [walks, Option.some.injEq] at h; subst h; exact ⟨rfl, rfl⟩
  | k :: ks, ws, h => by
    simp only [walks] at h
    split at h
    · cases h
    · rename_i w hw
      obtain ⟨ws', hws', rfl⟩ := Option.map_eq_some_iff.1 h
      obtain ⟨h1, h2⟩ := cost_sum hws'
      have e : trAll u (w :: ws') = trF (initF u) 0 w ++ trAll u ws' := List.flatMap_cons ..
      rw [e, List.map_append, List.sum_append, List.countP_append, List.map_cons, List.map_cons, List.sum_cons, List.sum_cons, h1, h2]
      have e1 : kCost u aw k = costsF u (initF u) w := by unfold kCost; rw [hw]; rfl
      have e2 : kOn k = ((trF (initF u) 0 w).countP onK : Int) := by
        unfold kOn
        rw [← on_tr, walk_kinds hw]
      rw [e1, e2, costs_tr u w (initF u) 0]
      refine ⟨rfl, ?_⟩
      omega
theorem sum_perm {l l' : List Int} (h : l.Perm l') : l.sum = l'.sum := by
  induction h with
  | nil => rfl
  | cons x _ ih => rw [List.sum_cons, List.sum_cons, ih]
  | swap x y l => simp only [List.sum_cons]; omega
  | trans _ _ ih1 ih2 => rw [ih1, ih2]
theorem cost_bd2 {u : U} (h1 : -1000 ≤ u.hc) (h2 : u.hc ≤ 1000) (h3 : -1000 ≤ u.cc) (h4 : u.cc ≤ 1000) (k h : Int) (t : St) : -1000 ≤ costF u k h t ∧ costF u k h t ≤ 1000 := by
  unfold costF
  repeat' split
  all_goals omega
theorem costs_bd {u : U} (h1 : -1000 ≤ u.hc) (h2 : u.hc ≤ 1000) (h3 : -1000 ≤ u.cc) (h4 : u.cc ≤ 1000) : ∀ (w : List St) (s : St), -(1000 * (w.length : Int)) ≤ costsF u s w ∧ costsF u s w ≤ 1000 * (w.length : Int)
  | [], _ => by simp [costsF]
  | t :: w, s => by
    have ih := costs_bd h1 h2 h3 h4 w t
    have := cost_bd2 h1 h2 h3 h4 s.1 s.2 t
    simp only [costsF, List.length_cons]
    omega
/-- What is known of the two lists of kinds. -/
structure CostsIn (u : U) (aw : List Int) (H : Int) (ks back : List (List Int)) : Prop where
  len : back.length = ks.length
  kl : ∀ l ∈ ks, (l.length : Int) = H
  bl : ∀ l ∈ back, (l.length : Int) = H
  kw : ∀ l ∈ ks, (walkF u aw l).isSome = true
  bw : ∀ l ∈ back, (walkF u aw l).isSome = true
  cs : (ks.map (kCost u aw)).sum = (back.map (kCost u aw)).sum
  on : (ks.map kOn).sum = (back.map kOn).sum
theorem walks_all2 {u : U} {aw : List Int} : ∀ {ks : List (List Int)} {ws : List (List St)}, walks u aw ks = some ws → ∀ l ∈ ks, (walkF u aw l).isSome = true
  | k :: ks, ws, h, l, hl => by
    simp only [walks] at h
    split at h
    · cases h
    · rename_i w hw
      obtain ⟨ws', hws', rfl⟩ := Option.map_eq_some_iff.1 h
      rcases List.mem_cons.1 hl with rfl | hl
      · rw [hw]; rfl
      · exact walks_all2 hws' l hl
theorem costs_in {u : U} {aw : List Int} {H n : Int} {ks back : List (List Int)} {arcs : List Arc} {e1 e2 : Int} (hs : soundB u = true) (h1 : 1 ≤ H) (h2 : H ≤ 24) (hn : (ks.length : Int) = n) (hn2 : n ≤ 16) (hl : ∀ l ∈ ks, (l.length : Int) = H) (hw : ∀ l ∈ ks, (walkF u aw l).isSome = true)
    (hm : mergeP u aw ks arcs e1) (hu : unmergeP u aw H n arcs back e2) : e1 = 0 ∧ e2 = 0 ∧ CostsIn u aw H ks back := by
  subst hn
  obtain ⟨H', rfl⟩ := Int.eq_ofNat_of_zero_le (show 0 ≤ H by omega)
  have hl' : ∀ l ∈ ks, l.length = H' := fun l h => by have := hl l h; omega
  have hsh : shapeP ks := shape_of hl' (by omega)
  have hws := walks_of hw
  obtain ⟨g1, g2⟩ := hm.2.2.2 hs hsh _ hws
  have hf := merge_flow hs hl' hws g2
  obtain ⟨f1, f2, f3, f4, f5, ws', f6, f7⟩ := (unm_law hs h1 h2 (by omega) hn2 hu).2 hf
  have hp := merge_perm g2 f7
  obtain ⟨c1, c2⟩ := cost_sum hws
  obtain ⟨d1, d2⟩ := cost_sum f6
  refine ⟨g1, f1, ⟨by omega, hl, f3, hw, walks_all2 f6, ?_, ?_⟩⟩
  · rw [c1, d1]; exact sum_perm (hp.map _)
  · rw [c2, d2, hp.countP_eq]
theorem take_sum {α : Type} (f : α → Int) {l : List α} {i : Nat} {a : α} (h : l[i]? = some a) : ((l.take (i + 1)).map f).sum = ((l.take i).map f).sum + f a := by
  rw [List.take_add_one, h, List.map_append, List.sum_append]
  simp
theorem take_bd {α : Type} (f : α → Int) (B : Int) (hB : 0 ≤ B) : ∀ (l : List α), (∀ a ∈ l, -B ≤ f a ∧ f a ≤ B) → ∀ i : Nat, -(B * (i : Int)) ≤ ((l.take i).map f).sum ∧ ((l.take i).map f).sum ≤ B * (i : Int)
  | [], _, i => by
    have : 0 ≤ B * (i : Int) := Int.mul_nonneg hB (by omega)
    simp
    omega
  | a :: l, h, 0 => by simp
  | a :: l, h, i + 1 => by
    have ih := take_bd f B hB l (fun b hb => h b (List.mem_cons_of_mem _ hb)) i
    have := h a List.mem_cons_self
    rw [List.take_succ_cons, List.map_cons, List.sum_cons]
    have e : B * ((i + 1 : Nat) : Int) = B * (i : Int) + B := by
      rw [Int.natCast_add, Int.mul_add]; simp
    omega
theorem count_take {l : List Int} {i : Nat} {a : Int} (h : l[i]? = some a) : ((l.take (i + 1)).count (2 : Int)) = (l.take i).count (2 : Int) + if a = 2 then 1 else 0 := by
  rw [List.take_add_one, h, List.count_append]
  congr 1
  simp [List.count_singleton]
end Go.Proofs.Ytopgdjjiilkfgaa
/- SymmetryCosts. -/
namespace Go.Proofs.Ytopgdjjiilkfgaa
open Go.Vc Go.Gw
set_option maxRecDepth 4000
theorem vc_law34_SymmetryCosts_ok (x : dens s_law34_SymmetryCosts.args) (hw : awf s_law34_SymmetryCosts.args x) (_ : s_law34_SymmetryCosts.pre x) : vc_law34_SymmetryCosts x := by
  obtain ⟨u, raw, _⟩ := x
  change List (List Int) at raw
  simp only [vc_law34_SymmetryCosts]
  refine ⟨fun _ => trivial, ?_⟩
  rintro ⟨r, _⟩ hr
  change Bool at r
  simp only at hr ⊢
  have hraw : ∀ {b : Bool}, sel b true (decide ((raw.length : Int) = 0)) = false → (0 : Int) ≤ 0 ∧ (0 : Int) < (raw.length : Int) := by
    intro b h
    rw [sel_or, Bool.or_eq_false_iff] at h
    have := of_decide_eq_false h.2
    omega
  refine ⟨fun h => hraw h, fun h => ?_, fun _ => trivial, fun hc => ?_⟩
  · rw [sel_or, Bool.or_eq_false_iff] at h; exact hraw h.1
  rw [sel_or, Bool.or_eq_false_iff, sel_or, Bool.or_eq_false_iff] at hc
  obtain ⟨⟨hc0, hc4⟩, hc5⟩ := hc
  have hpos := (hraw hc0).2
  rw [sel_or, sel_or, Bool.or_eq_false_iff, Bool.or_eq_false_iff] at hc0
  obtain ⟨⟨hc1, hc2⟩, hc3⟩ := hc0
  have hr := (hr hc1).2
  rw [Bool.not_eq_false'] at hc2
  rw [hc2] at hr
  have hk := of_decide_eq_true hr.symm
  clear hr
  have hc4 := of_decide_eq_false hc4
  have hc5 := of_decide_eq_false hc5
  generalize hH : ((gx [] raw 0).length : Int) = H at hc4 hc5 ⊢
  have hH0 : 0 ≤ H := by omega
  refine ⟨trivial, ?_⟩
  rintro ⟨v, _⟩ _ ⟨hs, _⟩
  simp only at hs ⊢
  generalize hU : toU (_, _, _, _, _, _, _, _, _, _, _, _, _, Int.tmod _ 1000, Int.tmod _ 1000, _) = U
  generalize haw : awOf (_, _, _, _, _, _, _, _, _, _, _, _, _, Int.tmod _ 1000, Int.tmod _ 1000, _) = aw
  have hsU : soundB U = true := by rw [← hU]; exact hs
  have hcst : -1000 ≤ U.hc ∧ U.hc ≤ 1000 ∧ -1000 ≤ U.cc ∧ U.cc ≤ 1000 := by
    rw [← hU]
    have e : ∀ a : Int, -1000 ≤ a.tmod 1000 ∧ a.tmod 1000 ≤ 1000 := fun a => by
      rcases Int.lt_or_le a 0 with h | h
      · have h1 := Int.neg_tmod (-a) 1000
        rw [Int.neg_neg] at h1
        have h2 := Int.tmod_lt_of_pos (-a) (show (0 : Int) < 1000 by decide)
        have h3 := Int.tmod_nonneg (1000 : Int) (show 0 ≤ -a by omega)
        omega
      · have h2 := Int.tmod_lt_of_pos a (show (0 : Int) < 1000 by decide)
        have h3 := Int.tmod_nonneg (1000 : Int) h
        omega
    exact ⟨(e _).1, (e _).2, (e _).1, (e _).2⟩
  clear hU haw hs
  refine ⟨by decide, by decide, fun p => (p.1.length : Int) = p.2.1 ∧ 0 ≤ p.2.1 ∧ p.2.1 ≤ (raw.length : Int) ∧ ∀ l ∈ p.1, (l.length : Int) = H ∧ (walkF U aw l).isSome = true, fun p => ((raw.length : Int) - p.2.1).toNat, ⟨rfl, by simp only; omega, by simp only; omega, fun l hl => by cases hl⟩, ?_⟩
  rintro ⟨ks, i, _⟩ _ ⟨e1, e2, e3, e4⟩
  change Int at i
  change List (List Int) at ks
  simp only at e1 e2 e3 e4 ⊢
  refine ⟨fun h => ?_, fun h => ?_⟩
  · have h := of_decide_eq_true h
    refine ⟨⟨Int.le_refl _, hpos⟩, ⟨e2, h⟩, ⟨hsU, hH0, by omega⟩, ?_⟩
    rintro ⟨k, _⟩ _ ⟨k1, k2⟩
    change List Int at k
    simp only at k1 k2 ⊢
    refine ⟨⟨Int.le_refl _, hpos⟩, fun _ => ⟨trivial, ?_⟩, fun hl => ?_⟩
    · rintro ⟨a, _⟩ _ ha; exact ha
    · have hl : (k.length : Int) = H := Decidable.not_not.mp (of_decide_eq_false hl)
      rw [wr (by omega) (by omega)]
      simp only [List.length_append, List.length_singleton]
      refine ⟨by omega, ⟨by omega, by omega, by omega, fun l hm => ?_⟩, by omega⟩
      rcases List.mem_append.1 hm with hm | hm
      · exact e4 l hm
      · rw [List.mem_singleton.1 hm]
        refine ⟨hl, ?_⟩
        unfold walkF
        rw [Option.isSome_map]; exact k2
  have h := of_decide_eq_false h
  have hin : i = (raw.length : Int) := by omega
  refine ⟨by omega, ?_⟩
  rintro ⟨arcs, er1, _⟩ _ hm
  change List Arc at arcs
  change Int at er1
  simp only at hm ⊢
  refine ⟨⟨Int.le_refl _, hpos⟩, trivial, ?_⟩
  rintro ⟨back, er2, _⟩ _ hun
  change List (List Int) at back
  change Int at er2
  simp only at hun ⊢
  obtain ⟨z1, z2, ci⟩ := costs_in hsU (by omega) (by omega) (show (ks.length : Int) = (raw.length : Int) by omega) (by omega) (fun l hl => (e4 l hl).1) (fun l hl => (e4 l hl).2) hm hun
  subst z1
  subst z2
  refine ⟨trivial, ?_⟩
  rintro ⟨awk, _⟩ _ hawk
  simp only at hawk ⊢
  subst hawk
  refine ⟨fun q => ?_, fun _ => ?_⟩
  · exfalso
    rw [sel_or, sel_or, sel_or] at q
    have := ci.len
    simp at q
    omega
  have hkn : (ks.length : Int) ≤ 8 := by omega
  have hbd : ∀ l ∈ ks ++ back, -24000 ≤ kCost U aw l ∧ kCost U aw l ≤ 24000 := by
    intro l hl
    have hb : (walkF U aw l).isSome = true ∧ (l.length : Int) = H := by
      rcases List.mem_append.1 hl with hl | hl
      · exact ⟨ci.kw l hl, ci.kl l hl⟩
      · exact ⟨ci.bw l hl, ci.bl l hl⟩
    obtain ⟨w, hwk⟩ := Option.isSome_iff_exists.1 hb.1
    obtain ⟨_, _, _, hlw⟩ := walkF_some hwk
    have := costs_bd hcst.1 hcst.2.1 hcst.2.2.1 hcst.2.2.2 w (initF U)
    unfold kCost
    rw [hwk]
    simp only [Option.getD_some]
    omega
  refine ⟨fun p => 0 ≤ p.2.2.1 ∧ p.2.2.1 ≤ (ks.length : Int) ∧ p.1 = ((ks.take p.2.2.1.toNat).map (kCost U aw)).sum - ((back.take p.2.2.1.toNat).map (kCost U aw)).sum ∧ p.2.1 = ((ks.take p.2.2.1.toNat).map kOn).sum - ((back.take p.2.2.1.toNat).map kOn).sum, fun p => ((ks.length : Int) - p.2.2.1).toNat, ⟨Int.le_refl _, by simp only; omega, rfl, rfl⟩, ?_⟩
  rintro ⟨starts, on, j, _⟩ _ ⟨j0, j1, c1, c2⟩
  change Int at starts on j
  simp only at j0 j1 c1 c2 ⊢
  refine ⟨fun hj => ?_, fun hj => ?_⟩
  rotate_left
  · have hj := of_decide_eq_false hj
    have ej : j.toNat = ks.length := by omega
    have hl := ci.len
    rw [ej, List.take_of_length_le (Nat.le_refl _), List.take_of_length_le (by omega), ci.cs] at c1
    rw [ej, List.take_of_length_le (Nat.le_refl _), List.take_of_length_le (by omega), ci.on] at c2
    rw [c1, c2, Int.sub_self, Int.sub_self]
    rfl
  have hj := of_decide_eq_true hj
  have hl := ci.len
  have hjb : j < (back.length : Int) := by omega
  have g1 := gx_get (d := ([] : List Int)) j0 hj
  have g2 := gx_get (d := ([] : List Int)) j0 hjb
  generalize gx ([] : List Int) ks j = k at g1 ⊢
  generalize gx ([] : List Int) back j = b at g2 ⊢
  have mk := List.mem_of_getElem? g1
  have mb := List.mem_of_getElem? g2
  have lk := ci.kl k mk
  have lb := ci.bl b mb
  have run_of : ∀ l : List Int, (walkF U aw l).isSome = true → (runTo U aw l l.length).isSome = true := by
    intro l hl
    unfold walkF at hl
    rw [Option.isSome_map] at hl; exact hl
  have cost_of : ∀ (l : List Int) (c : Int), (walkF U aw l).isSome = true → (∀ p : List St × St, runTo U aw l l.length = some p → c = costsF U (initF U) p.1) → c = kCost U aw l := by
    intro l c hl hc
    obtain ⟨w, hwk⟩ := Option.isSome_iff_exists.1 hl
    obtain ⟨p, hp, rfl, _⟩ := walkF_some hwk
    rw [hc p hp]
    unfold kCost
    rw [hwk]; rfl
  refine ⟨⟨j0, hj⟩, ⟨j0, hjb⟩, ⟨hsU, by omega, hcst.1, hcst.2.1, hcst.2.2.1, hcst.2.2.2, run_of k (ci.kw k mk)⟩, ?_⟩
  rintro ⟨ck, _⟩ _ hck
  change Int at ck
  simp only at hck ⊢
  have hck := cost_of k ck (ci.kw k mk) hck
  subst hck
  refine ⟨⟨hsU, by omega, hcst.1, hcst.2.1, hcst.2.2.1, hcst.2.2.2, run_of b (ci.bw b mb)⟩, ?_⟩
  rintro ⟨cb, _⟩ _ hcb
  change Int at cb
  simp only at hcb ⊢
  have hcb := cost_of b cb (ci.bw b mb) hcb
  subst hcb
  have onb : ∀ l : List (List Int), (∀ x ∈ l, (x.length : Int) = H) → ∀ n : Nat, -(24 * (n : Int)) ≤ ((l.take n).map kOn).sum ∧ ((l.take n).map kOn).sum ≤ 24 * (n : Int) := by
    intro l hl2 n
    exact take_bd kOn 24 (by omega) l (fun a ha => by
      have h1 := hl2 a ha
      have h2 : a.count (2 : Int) ≤ a.length := List.count_le_length
      unfold kOn
      omega) n
  have ob1 := onb ks ci.kl j.toNat
  have ob2 := onb back ci.bl j.toNat
  refine ⟨fun p => 0 ≤ p.2.1 ∧ p.2.1 ≤ H ∧ p.1 = on + ((k.take p.2.1.toNat).count (2 : Int) : Int) - ((b.take p.2.1.toNat).count (2 : Int) : Int), fun p => (H - p.2.1).toNat, ⟨Int.le_refl _, hH0, by simp⟩, ?_⟩
  rintro ⟨hr, h2, _⟩ _ ⟨i0, i1, i2⟩
  change Int at hr h2
  simp only at i0 i1 i2 ⊢
  have cl1 : ((k.take h2.toNat).count (2 : Int) : Int) ≤ 24 := by
    have : (k.take h2.toNat).count (2 : Int) ≤ (k.take h2.toNat).length := List.count_le_length
    have h4 : (k.take h2.toNat).length ≤ k.length := by rw [List.length_take]; omega
    omega
  have cl2 : ((b.take h2.toNat).count (2 : Int) : Int) ≤ 24 := by
    have : (b.take h2.toNat).count (2 : Int) ≤ (b.take h2.toNat).length := List.count_le_length
    have h4 : (b.take h2.toNat).length ≤ b.length := by rw [List.length_take]; omega
    omega
  refine ⟨⟨j0, hj⟩, fun q => ?_, fun q => ?_⟩
  · have q := of_decide_eq_true q
    have qb : h2 < (b.length : Int) := by omega
    have t1 := gx_get (d := (0 : Int)) i0 q
    have t2 := gx_get (d := (0 : Int)) i0 qb
    have n1 := count_take t1
    have n2 := count_take t2
    generalize gx (0 : Int) k h2 = a1 at n1 t1 ⊢
    generalize gx (0 : Int) b h2 = a2 at n2 t2 ⊢
    have eh : (h2 + 1).toNat = h2.toNat + 1 := by omega
    refine ⟨fun p => p.1 = hr + (if a1 = 2 then 1 else 0) - (if a2 = 2 then 1 else 0), ⟨⟨j0, hjb⟩, ⟨j0, hj⟩, fun q2 => ?_, fun _ => ?_⟩, ?_⟩
    · exfalso
      exact (of_decide_eq_true q2) (by omega)
    · refine ⟨fun p => p.1 = hr + (if a1 = 2 then 1 else 0), ⟨⟨j0, hj⟩, ⟨i0, q⟩, fun q3 => ?_, fun q3 => ?_⟩, ?_⟩
      · have q3 := of_decide_eq_true q3
        simp only
        rw [wr (by omega) (by omega), if_pos q3]
      · have q3 := of_decide_eq_false q3
        simp only
        rw [if_neg q3]; omega
      rintro ⟨h3, _⟩ _ q4
      change Int at h3
      simp only at q4 ⊢
      refine ⟨⟨j0, hjb⟩, ⟨i0, qb⟩, fun q3 => ?_, fun q3 => ?_⟩
      · have q3 := of_decide_eq_true q3
        rw [wr (by split at q4 <;> omega) (by split at q4 <;> omega), if_pos q3]
        omega
      · have q3 := of_decide_eq_false q3
        rw [if_neg q3]; omega
    · rintro ⟨h3, _⟩ _ q4
      change Int at h3
      simp only at q4 ⊢
      rw [wr (by omega) (by omega), eh, n1, n2]
      refine ⟨⟨by omega, by omega, ?_⟩, by omega⟩
      rw [q4, i2]
      split <;> split <;> simp <;> omega
  · have q := of_decide_eq_false q
    have eh : h2.toNat = k.length := by omega
    have b1 := hbd k (List.mem_append_left _ mk)
    have b2 := hbd b (List.mem_append_right _ mb)
    have s1 := take_bd (kCost U aw) 24000 (by omega) ks (fun a ha => hbd a (List.mem_append_left _ ha)) j.toNat
    have s2 := take_bd (kCost U aw) 24000 (by omega) back (fun a ha => hbd a (List.mem_append_right _ ha)) j.toNat
    have ej : (j + 1).toNat = j.toNat + 1 := by omega
    rw [wr (a := kCost U aw k - kCost U aw b) (by omega) (by omega), wr (by omega) (by omega), wr (by omega) (by omega)]
    refine ⟨⟨by omega, by omega, ?_, ?_⟩, by omega⟩
    · rw [ej, take_sum _ g1, take_sum _ g2]
      omega
    · rw [ej, take_sum _ g1, take_sum _ g2, i2, eh, List.take_of_length_le (Nat.le_refl _), List.take_of_length_le (by omega), c2]
      unfold kOn
      omega
end Go.Proofs.Ytopgdjjiilkfgaa
/- Every function does what is said of it. -/
namespace Go.Proofs.Ytopgdjjiilkfgaa
open Go.Vc Go.Gw
theorem ok_law34_SymmetryCosts : Meets Try.prog 4 s_law34_SymmetryCosts := m_law34_SymmetryCosts (spOk_cons ok_law34_kindred (spOk_cons ok_r24_Near (spOk_cons ok_r24_Choose (spOk_cons ok_symmetry_Unmerge (spOk_cons ok_law34_awake (spOk_cons ok_symmetry_Merge (spOk_cons ok_r25_StartCosts (spOk_nil)))))))) vc_law34_SymmetryCosts_ok
end Go.Proofs.Ytopgdjjiilkfgaa
/- For every input SymmetryCosts returns true and leaves its arguments as they were: the whole given statement, no condition. -/
namespace Go.Proofs.Ytopgdjjiilkfgaa
open Go.Vc Go.Gw Go.RowKit Go.ChangeShapes Go.WideShapes Go.ChangeAt
theorem symmetryCosts_params : ∀ t ∈ Try.f4.params.toList, Try.prog.readableRec t = true ∧ t < Try.prog.types.size := by
  rw [Try.params4]
  intro t ht
  simp only [List.mem_cons, List.not_mem_nil, or_false] at ht
  rcases ht with rfl | rfl
  · exact ⟨by kernel_rfl, of_decide_eq_true (by kernel_rfl)⟩
  · exact ⟨by kernel_rfl, of_decide_eq_true (by kernel_rfl)⟩
theorem symmetryCosts_laid : laidOutB Try.prog = true := by kernel_rfl
theorem symmetryCosts_own : ownKnob Try.prog.godebug = none := by kernel_rfl
theorem symmetryCosts_meets : Meets Try.prog 4 (lawSpec s_law34_SymmetryCosts.args) := ok_law34_SymmetryCosts
theorem symmetryCosts_args : argsOk Try.prog [25, 27] s_law34_SymmetryCosts.args = true := by kernel_rfl
set_option maxRecDepth 100000 in
theorem symmetryCosts_lifted (os : Os) (started : os.Started) (H : Type) (enc : TypeId × Value → H) :
    ReturnsInHanded {} Try.checked os 4 .any (Rows.symmetryCostsSpec.pre6 enc Try.prog Try.f4 Rows.symmetryCostsRow.domain false) (Rows.symmetryCostsSpec.post enc Try.prog Try.f4 false true false false) := by
  refine returnsInHanded_of_change (C := Try.checked) symmetryCosts_own started (by kernel_rfl) Try.func4
    (ChangeSpec.witness6 (enc := enc) (C := Try.checked) false ⟨#[], #[.agg #[.string ⟨#[]⟩, .int .i64 0, .int .i64 0, .int .i64 0, .slice none 0 0, .int .i64 0, .int .i64 0, .int .i64 0, .int .i64 0, .int .i64 0, .int .i64 0, .int .i64 0, .int .i64 0, .int .i64 0, .int .i64 0, .int .i64 0, .int .i64 0, .int .i64 0, .slice none 0 0, .int .i64 0, .int .i64 0, .int .i64 0], .slice none 0 0], []⟩ 8 (by kernel_rfl) (by kernel_rfl) (by kernel_rfl) (by kernel_rfl)) ?_
  intro W base args ds gs before hval0 hW hcnd _
  have hval : ∀ (j : Nat) t v, Try.f4.params[j]? = some t → args[j]? = some v → Value.okWide Try.prog W .any base t v := hval0
  have hW' := hW
  obtain ⟨p, q, hA0, hV, _, _, _⟩ := hW
  have hA : DataW.TrodAll enc Try.prog W 0 (fun _ => true) true Try.f4.params.toList args.toList ds p := hA0
  rw [Try.params4] at hA
  obtain ⟨x, hx⟩ := open_args symmetryCosts_args hA (fun j t v ht hv => hval j t v (by simpa [Try.params4] using ht) (by simpa using hv))
  have hargs := hA
  obtain ⟨v0, vs0, d0, ds0, p0, q0, hl, rfl, rfl, h0, r0⟩ := trodAll_cons hargs
  obtain ⟨v1, vs1, d1, ds1, p1, q1, rfl, rfl, rfl, h1, r1⟩ := trodAll_cons r0
  obtain ⟨rfl, rfl, rfl⟩ := trodAll_nil r1
  refine Calls.mono (law_calls (by kernel_rfl) symmetryCosts_meets hx) fun e W' hh => ?_
  obtain ⟨v, rfl, rfl, hb⟩ := hh
  exact ⟨_, rfl, post_law symmetryCosts_laid hW' rfl (by kernel_rfl) Try.underlying4 rfl symmetryCosts_params hb⟩
theorem symmetryCosts_holds : Rows.SymmetryCostsSaid :=
  OpenClaim.holds_of_wide 4 Try.f4 rfl rfl rfl rfl rfl rfl rfl ⟨rfl, rfl, rfl, rfl, rfl⟩ rfl rfl rfl rfl rfl (by kernel_rfl) Try.func4 (by kernel_rfl)
    (of_decide_eq_true (by kernel_rfl)) (by unfold Func.isWrapper; first | (rw [if_pos (by decide +kernel)]; kernel_rfl) | (rw [if_neg (by decide +kernel)]; exact ⟨rfl, rfl⟩))
    (fun os started H enc _ => symmetryCosts_lifted os started H enc)
#print axioms symmetryCosts_holds
end Go.Proofs.Ytopgdjjiilkfgaa
