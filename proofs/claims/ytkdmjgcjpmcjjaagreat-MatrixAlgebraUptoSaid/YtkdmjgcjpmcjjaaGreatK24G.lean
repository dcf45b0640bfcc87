/- Part. -/
import Derived.Shelf.SlSortCmp.NoneTotal
import Derived.Lib.QuietBelow
import Derived.Test.YtkdmjgcjpmcjjaaGreatK24F
namespace Go.Proofs.YtkdmjgcjpmcjjaaGreat
open Go.Vc Go.Gw
theorem D5r {l : List Int} {v : Int} {a : Nat} (hs : l.Pairwise (· < ·)) (h1 : ∀ y ∈ l.take a, y < v) (h2 : ∀ y, l[a]? = some y -> v < y) : (l.take a ++ [v] ++ l.drop a).Pairwise (· < ·) := by
  have hd : ∀ y ∈ l.drop a, v < y := fun y hy => by
    rw [<- List.take_append_drop a l, List.pairwise_append] at hs
    cases hc : l.drop a with
    | nil => rw [hc] at hy; cases hy
    | cons z r =>
      have hz : v < z := h2 z (by rw [<- List.head?_drop, hc]; rfl)
      rw [hc] at hy
      rcases List.mem_cons.1 hy with rfl | hy
      . exact hz
      . have := hs.2.1
        rw [hc, List.pairwise_cons] at this
        have := this.1 y hy
        omega
  rw [List.pairwise_append, List.pairwise_append]
  refine ⟨⟨hs.take, List.pairwise_singleton _ _, fun y hy z hz => ?_⟩, hs.drop, fun y hy z hz => ?_⟩
  . rw [List.mem_singleton.1 hz]; exact h1 y hy
  . rcases List.mem_append.1 hy with hy | hy
    . have := h1 y hy; have := hd z hz; omega
    . rw [List.mem_singleton.1 hy]; exact hd z hz
theorem C2n (x : A7 P9.args) (hw : awf P9.args x) (hp : P9.pre x) : A5x x := by
  obtain ⟨ls, _⟩ := x
  change List (List (Int × (Bool × List Int) × List Int)) at ls
  obtain ⟨hl, hv⟩ : ls.length <= 4 /\ ∀ v ∈ ls, v.length <= 100000 := hp
  simp only [A5x]
  refine ⟨fun p => 0 <= p.2.1 /\ p.2.1 <= (ls.length : Int) /\ p.1.length <= 100000 * p.2.1.toNat /\ p.1.Pairwise (· < ·) /\ ∀ i, i ∈ p.1 ↔ ∃ v ∈ ls.take p.2.1.toNat, ∃ e ∈ v, e.1 = i, fun p => ((ls.length : Int) - p.2.1).toNat, ⟨Int.le_refl _, Int.natCast_nonneg _, by simp, List.Pairwise.nil, fun i => by simp⟩, ?_⟩
  rintro ⟨out, j, _⟩ _ ⟨h0, h1, h2, h3, h4⟩
  change Int at j
  change List Int at out
  simp only at h0 h1 h2 h3 h4 ⊢
  refine ⟨fun h => ?_, fun h => ?_⟩
  . have h := of_decide_eq_true h
    have hvl := hv _ (T6 (d := ([] : List (Int × (Bool × List Int) × List Int))) h0 h)
    have hts : ls.take (j + 1).toNat = ls.take j.toNat ++ [gx [] ls j] := by
      rw [show (j + 1).toNat = j.toNat + 1 from by omega, List.take_add_one, M7 (d := ([] : List (Int × (Bool × List Int) × List Int))) h0 h]; rfl
    generalize gx ([] : List (Int × (Bool × List Int) × List Int)) ls j = v at *
    refine ⟨⟨h0, h⟩, fun p => 0 <= p.2.1 /\ p.2.1 <= (v.length : Int) /\ p.1.length <= 100000 * j.toNat + p.2.1.toNat /\ p.1.Pairwise (· < ·) /\ ∀ i, i ∈ p.1 ↔ (∃ v ∈ ls.take j.toNat, ∃ e ∈ v, e.1 = i) \/ ∃ e ∈ v.take p.2.1.toNat, e.1 = i, fun p => ((v.length : Int) - p.2.1).toNat, ⟨Int.le_refl _, Int.natCast_nonneg _, by simpa using h2, h3, fun i => by rw [h4]; simp⟩, ?_⟩
    rintro ⟨o, k, _⟩ _ ⟨g0, g1, g2, g3, g4⟩
    change Int at k
    change List Int at o
    simp only at g0 g1 g2 g3 g4 ⊢
    refine ⟨fun hk => ?_, fun hk => ?_⟩
    . have hk := of_decide_eq_true hk
      have hvs : v.take (k + 1).toNat = v.take k.toNat ++ [gx dEE v k] := by
        rw [show (k + 1).toNat = k.toNat + 1 from by omega, List.take_add_one, M7 (d := dEE) g0 hk]; rfl
      have hmem : ∀ i, ((∃ v ∈ ls.take j.toNat, ∃ e ∈ v, e.1 = i) \/ ∃ e ∈ v.take (k + 1).toNat, e.1 = i) ↔ (i ∈ o \/ (gx dEE v k).1 = i) := fun i => by
        rw [g4 i, hvs]
        constructor
        . rintro (h | ⟨e, he, rfl⟩)
          . exact .inl (.inl h)
          . rcases List.mem_append.1 he with he | he
            . exact .inl (.inr ⟨e, he, rfl⟩)
            . rw [List.mem_singleton.1 he]; exact .inr rfl
        . rintro ((h | ⟨e, he, rfl⟩) | rfl)
          . exact .inl h
          . exact .inr ⟨e, List.mem_append.2 (.inl he), rfl⟩
          . exact .inr ⟨_, List.mem_append.2 (.inr (by simp)), rfl⟩
      generalize gx dEE v k = e at *
      refine ⟨fun p => p.1.length <= 100000 * j.toNat + k.toNat + 1 /\ p.1.Pairwise (· < ·) /\ ∀ i, i ∈ p.1 ↔ (∃ v ∈ ls.take j.toNat, ∃ e ∈ v, e.1 = i) \/ ∃ e ∈ v.take (k + 1).toNat, e.1 = i, ?_, ?_⟩
      . refine ⟨fun p => 0 <= p.1 /\ p.1 <= (o.length : Int) /\ ∀ y ∈ o.take p.1.toNat, y < e.1, fun p => ((o.length : Int) - p.1).toNat, ⟨Int.le_refl _, Int.natCast_nonneg _, by simp⟩, ?_⟩
        rintro ⟨a, _⟩ _ ⟨a0, a1, a2⟩
        change Int at a
        simp only at a0 a1 a2 ⊢
        refine ⟨fun ha => ⟨a0, of_decide_eq_true ha⟩, fun _ => ⟨g0, hk⟩, fun ha => ?_, fun ha => ⟨fun ha => ⟨a0, of_decide_eq_true ha⟩, fun _ => ⟨g0, hk⟩, fun hb => ?_, fun hb => ?_⟩⟩
        . rw [U2] at ha
          simp only [Bool.and_eq_true, decide_eq_true_eq] at ha
          rw [wr (by omega) (by omega)]
          refine ⟨⟨by omega, by omega, A8e (d := (0 : Int)) a0 ha.1 a2 ?_⟩, by omega⟩
          rw [Y6 a0 ha.1]; exact ha.2
        . rw [U2] at hb
          simp only [Bool.and_eq_true, decide_eq_true_eq] at hb
          refine ⟨by show o.length <= _; omega, g3, fun i => ?_⟩
          rw [hmem i]
          constructor
          . exact .inl
          . rintro (hi | rfl)
            . exact hi
            . have := T6 (d := (0 : Int)) a0 hb.1
              rw [Y6 a0 hb.1, hb.2] at this
              exact this
        . rw [U2] at ha hb
          simp only [Bool.and_eq_false_iff, decide_eq_false_iff_not] at ha hb
          have e1 : (o.take a.toNat).drop (Int.toNat 0) = o.take a.toNat := rfl
          have e2 : o.take ((o.length : Int)).toNat = o := by rw [Int.toNat_natCast, List.take_length]
          rw [e1, e2]
          have l1 : (o.take a.toNat).length <= o.length := by rw [List.length_take]; omega
          have l2 : (o.drop a.toNat).length <= o.length := by rw [List.length_drop]; omega
          have l3 : (o.take a.toNat ++ [e.1] ++ o.drop a.toNat).length = o.length + 1 := by
            simp only [List.length_append, List.length_take, List.length_drop, List.length_singleton]; omega
          refine ⟨⟨Int.le_refl _, a0, a1⟩, ⟨by omega, by omega⟩, ⟨g0, hk⟩, ⟨by simp only [List.length_singleton]; omega, by simp only [List.length_singleton]; omega⟩, ⟨a0, a1, Int.le_refl _⟩, ⟨?_, ?_⟩, ⟨by show (o.take a.toNat ++ [e.1] ++ o.drop a.toNat).length <= _; omega, ?_, fun i => ?_⟩⟩
          . simp only [List.length_append, List.length_singleton]; omega
          . simp only [List.length_append, List.length_singleton]; omega
          . refine D5r g3 a2 fun y hy => ?_
            have hlt : a.toNat < o.length := by
              rcases Nat.lt_or_ge a.toNat o.length with h | h
              . exact h
              . rw [List.getElem?_eq_none h] at hy; cases hy
            have hy2 : o.getD a.toNat 0 = y := by rw [List.getD_eq_getElem?_getD, hy]; rfl
            rw [hy2] at ha hb
            omega
          . rw [hmem i]
            simp only [List.mem_append, List.mem_singleton]
            have hsplit : i ∈ o ↔ i ∈ o.take a.toNat \/ i ∈ o.drop a.toNat := by
              conv => lhs; rw [<- List.take_append_drop a.toNat o]
              exact List.mem_append
            rw [hsplit]
            constructor
            . rintro ((h | h) | h)
              . exact .inl (.inl h)
              . exact .inr h.symm
              . exact .inl (.inr h)
            . rintro ((h | h) | h)
              . exact .inl (.inl h)
              . exact .inr h
              . exact .inl (.inr h.symm)
      . rintro ⟨o2, _⟩ _ ⟨k1, k2, k3⟩
        simp only at k1 k2 k3 ⊢
        rw [wr (by omega) (by omega)]
        exact ⟨⟨by omega, by omega, by omega, k2, k3⟩, by omega⟩
    . have hk := of_decide_eq_false hk
      rw [wr (by omega) (by omega)]
      rw [G7 (l := v) (i := k) (by omega)] at g4
      refine ⟨⟨by omega, by omega, by omega, g3, fun i => ?_⟩, by omega⟩
      rw [g4 i, hts]
      simp only [List.mem_append, List.mem_singleton]
      constructor
      . rintro (⟨w, h1, h2⟩ | h)
        . exact ⟨w, .inl h1, h2⟩
        . exact ⟨v, .inr rfl, h⟩
      . rintro ⟨w, h1 | rfl, h2⟩
        . exact .inl ⟨w, h1, h2⟩
        . exact .inr h2
  . have h := of_decide_eq_false h
    rw [G7 (by omega)] at h4
    exact ⟨h3, h4⟩
theorem B6t (x : A7 M0.args) (hw : awf M0.args x) (hp : M0.pre x) : A3f x := by
  obtain ⟨a, b, _⟩ := x
  have hl : a.length <= 9223372036854775807 := hw.1.1
  change List (Int × (Bool × List Int) × List Int) at a b
  have hwh : ∀ e ∈ a, sh3 e.2 := fun e he => B1n ((show szV K1 a from hp) e he) (by decide)
  simp only [A3f]
  refine ⟨fun h => ?_, fun h => ?_⟩
  . have h := of_decide_eq_true h
    exact (decide_eq_false fun e => h (by rw [e.1])).symm
  . have hlen : a.length = b.length := by have := of_decide_eq_false h; omega
    refine ⟨fun p => 0 <= p.1 /\ p.1 <= (a.length : Int) /\ a.take p.1.toNat = b.take p.1.toNat /\ ∀ e ∈ a.take p.1.toNat, e.2 = rc (rv e.2), fun p => ((a.length : Int) - p.1).toNat, ⟨Int.le_refl _, Int.natCast_nonneg _, by simp, by simp⟩, ?_⟩
    rintro ⟨i, _⟩ _ ⟨h0, h1, h2, h3⟩
    change Int at i
    simp only at h0 h1 h2 h3 ⊢
    refine ⟨fun h => ?_, fun h => ?_⟩
    . have h := of_decide_eq_true h
      have ma := T6 (d := dEE) h0 h
      have ga := M7 (d := dEE) h0 h
      have gb := M7 (d := dEE) (l := b) h0 (by omega)
      have hta : a.take (i + 1).toNat = a.take i.toNat ++ [gx dEE a i] := by
        rw [show (i + 1).toNat = i.toNat + 1 from by omega, List.take_add_one, ga]; rfl
      have htb : b.take (i + 1).toNat = b.take i.toNat ++ [gx dEE b i] := by
        rw [show (i + 1).toNat = i.toNat + 1 from by omega, List.take_add_one, gb]; rfl
      generalize gx dEE a i = e at *
      generalize gx dEE b i = f at *
      obtain ⟨ei, ev⟩ := e
      obtain ⟨fi, fv⟩ := f
      simp only at ma ga gb hta htb ⊢
      refine ⟨⟨h0, h⟩, ⟨h0, by omega⟩, fun _ => ⟨h0, h⟩, fun _ => hwh _ ma, ?_⟩
      rintro ⟨r, _⟩ hr
      refine ⟨fun _ => ⟨h0, h⟩, fun _ => ⟨h0, by omega⟩, fun _ => trivial, ?_⟩
      rintro ⟨s, _⟩ hs
      change Bool at r s
      simp only at hr hs ⊢
      rw [Z6] at hs
      rw [Z6, Z6]
      have key : (decide (ei ≠ fi) || !r || !s) = false ↔ ei = fi /\ ev = rc (rv ev) /\ ev = fv := by
        by_cases hi : ei = fi
        . have hr := (hr (by simp [hi])).2
          by_cases hc : ev = rc (rv ev)
          . have hr : r = true := by rw [hr]; exact decide_eq_true hc
            have hs := (hs (by simp [hi, hr])).2
            rw [hs, hr]
            simp [hi, <- hc]
          . have hr : r = false := by rw [hr]; exact decide_eq_false hc
            rw [hr]; simp [hc]
        . simp [hi]
      refine ⟨fun hb => ?_, fun hb => ?_⟩
      . refine (decide_eq_false fun hall => ?_).symm
        obtain ⟨hab, hcan⟩ := hall
        subst hab
        rw [ga] at gb
        have gb := Option.some.inj gb
        rw [Prod.mk.injEq] at gb
        have := key.2 ⟨gb.1, hcan _ ma, gb.2⟩
        rw [this] at hb; cases hb
      . obtain ⟨k1, k2, k3⟩ := key.1 hb
        rw [wr (by omega) (by omega)]
        refine ⟨⟨by omega, by omega, ?_, ?_⟩, by omega⟩
        . rw [hta, htb, h2, k1, k3]
        . rw [hta]
          intro y hy
          rcases List.mem_append.1 hy with hy | hy
          . exact h3 y hy
          . rw [List.mem_singleton.1 hy]; exact k2
    . have h := of_decide_eq_false h
      rw [G7 (by omega), G7 (by omega)] at h2
      rw [G7 (by omega)] at h3
      exact (decide_eq_true ⟨h2, h3⟩).symm
theorem D6u (x : A7 A2x.args) (hw : awf A2x.args x) (hp : A2x.pre x) : C1h x := by
  obtain ⟨v, k, _⟩ := x
  have hlv : F6h v := D0l hw.1.2
  have hll : v.length <= 9223372036854775807 := hw.1.1
  change List Ent at v
  change Int at k
  obtain ⟨ha, hs, hl⟩ : okV K1 v := hp
  simp only [C1h]
  refine ⟨trivial, ?_⟩
  rintro ⟨z, _⟩ _ hz
  simp only at hz ⊢
  refine ⟨fun p => 0 <= p.1 /\ p.1 <= (v.length : Int) /\ ((p.2.1, p.2.2.1), p.2.2.2.1) = rc (F2 (v.take p.1.toNat) k), fun p => ((v.length : Int) - p.1).toNat, ⟨Int.le_refl _, Int.natCast_nonneg _, by rw [hz]; rfl⟩, ?_⟩
  rintro ⟨i, b, m, d, _⟩ _ ⟨h0, h1, h2⟩
  change Int at i
  simp only at h0 h1 h2 ⊢
  refine ⟨fun h => ?_, fun h => ?_⟩
  . have h := of_decide_eq_true h
    have hme : gx dEE v i ∈ v := T6 h0 h
    have hts : v.take (i + 1).toNat = v.take i.toNat ++ [gx dEE v i] := by
      rw [show (i + 1).toNat = i.toNat + 1 from by omega, List.take_add_one, M7 (d := dEE) h0 h]; rfl
    have hq := D0d (v := v.take i.toNat) (k := K1) (ha.take) (fun e he => hlv e (List.mem_of_mem_take he)) (fun e he => hs e (List.mem_of_mem_take he)) (by decide) k
    have hse := hs _ hme
    have hct : F2 (v.take (i + 1).toNat) k = F2 (v.take i.toNat) k + if (gx dEE v i).1 = k then rv (gx dEE v i).2 else 0 := by
      rw [hts, A4n]
      simp only [F2, Rat.add_zero]
    generalize gx dEE v i = e at *
    refine ⟨fun p => ((p.1, p.2.1), p.2.2.1) = rc (F2 (v.take (i + 1).toNat) k), ⟨⟨h0, h⟩, fun he => ⟨⟨h0, h⟩, ⟨?_, B1n (k := K1) hse (by decide)⟩, ?_⟩, fun he => ?_⟩, ?_⟩
    . rw [h2]; exact C0w hq (by decide)
    . have he := of_decide_eq_true he
      rintro ⟨r, _⟩ _ hr
      simp only at hr ⊢
      show r = _
      rw [hr, h2, A5e, hct, if_pos he]
    . have he := of_decide_eq_false he
      show ((b, m), d) = _
      rw [h2, hct, if_neg he, Rat.add_zero]
    . rintro ⟨b', m', d', _⟩ _ hr
      simp only at hr ⊢
      rw [wr (by omega) (by omega)]
      exact ⟨⟨by omega, by omega, hr⟩, by omega⟩
  . have h := of_decide_eq_false h
    rw [G7 (by omega)] at h2
    exact h2
theorem G1e {r l : List Int} (h : r.Pairwise (· < ·)) (hs : ∀ i ∈ r, i ∈ l) : r.length <= l.length := by
  have hd : r.Nodup := h.imp fun h e => by omega
  clear h
  induction r generalizing l with
  | nil => exact Nat.zero_le _
  | cons a r ih =>
    rw [List.nodup_cons] at hd
    have hm := hs a (List.mem_cons_self ..)
    have := ih (l := l.erase a) (fun i hi => by
      refine (List.mem_erase_of_ne fun e => hd.1 (by rw [<- e]; exact hi)).2 (hs i (List.mem_cons_of_mem _ hi))) hd.2
    have h2 := List.length_erase_of_mem hm
    have h3 := List.length_pos_of_mem hm
    rw [List.length_cons]; omega
theorem D2g (x : A7 A0c.args) (hw : awf A0c.args x) (hp : A0c.pre x) : B7i x := by
  obtain ⟨v, _⟩ := x
  have hlv : F6h v := D0l hw.1.2
  change List Ent at v
  obtain ⟨ha, hs, hl⟩ : okV K1 v := hp
  simp only [B7i]
  refine ⟨⟨by simp, fun w hw => by rw [List.mem_singleton.1 hw]; exact hl⟩, ?_⟩
  rintro ⟨r, _⟩ ⟨⟨hrl, _⟩, _⟩ ⟨r1, r2⟩
  change List Int at r
  simp only at r1 r2 hrl ⊢
  have r3 : ∀ i, i ∈ r ↔ ∃ e ∈ v, e.1 = i := fun i => by
    rw [r2 i]
    constructor
    . rintro ⟨w, hw, he⟩; rw [List.mem_singleton.1 hw] at he; exact he
    . intro he; exact ⟨v, by simp, he⟩
  have hlen : r.length <= v.length := by
    have := G1e (l := v.map fun e : Ent => e.1) r1 fun i hi => by
      obtain ⟨e, he, rfl⟩ := (r3 i).1 hi
      exact List.mem_map_of_mem he
    rwa [List.length_map] at this
  refine ⟨fun p => 0 <= p.2.1 /\ p.2.1 <= (r.length : Int) /\ p.1.length <= p.2.1.toNat /\ C5c p.1 /\ (∀ e ∈ p.1, e.1 ∈ r.take p.2.1.toNat) /\ (∀ j ∈ r.take p.2.1.toNat, F2 p.1 j = F2 v j), fun p => ((r.length : Int) - p.2.1).toNat, ⟨Int.le_refl _, Int.natCast_nonneg _, Nat.le_refl _, C7h, fun _ h => (by cases h), by simp⟩, ?_⟩
  rintro ⟨out, j, _⟩ _ ⟨h0, h1, h2, h3, h4, h5⟩
  change Int at j
  change List Ent at out
  simp only at h0 h1 h2 h3 h4 h5 ⊢
  refine ⟨fun h => ?_, fun h => ?_⟩
  . have h := of_decide_eq_true h
    have hts : r.take (j + 1).toNat = r.take j.toNat ++ [gx 0 r j] := by
      rw [show (j + 1).toNat = j.toNat + 1 from by omega, List.take_add_one, M7 (d := (0 : Int)) h0 h]; rfl
    have hlt : ∀ y ∈ r.take j.toNat, y < gx 0 r j := fun y hy => by
      have : (r.take (j + 1).toNat).Pairwise (· < ·) := r1.take
      rw [hts, List.pairwise_append] at this
      exact this.2.2 y hy _ (List.mem_singleton.2 rfl)
    have hq := D0d ha hlv hs (by decide) (gx 0 r j)
    generalize gx 0 r j = i at *
    have hout : ∀ e ∈ out, e.1 < i := fun e he => hlt _ (h4 e he)
    have hnil : F2 out i = 0 := H8 fun e he hei => by have := hout e he; omega
    refine ⟨fun p => p.1.length <= (j + 1).toNat /\ C5c p.1 /\ (∀ e ∈ p.1, e.1 ∈ r.take (j + 1).toNat) /\ ∀ k ∈ r.take (j + 1).toNat, F2 p.1 k = F2 v k, ⟨⟨h0, h⟩, ⟨ha, hs, hl⟩, ?_⟩, ?_⟩
    . rintro ⟨q, _⟩ _ hq'
      simp only at hq' ⊢
      subst hq'
      refine ⟨C0w hq (by decide), ?_⟩
      rintro ⟨s, _⟩ _ hsg
      simp only at hsg ⊢
      rw [A5e] at hsg
      refine ⟨fun hz => ⟨⟨by simp only [List.length_singleton]; omega, by simp only [List.length_singleton]; omega⟩, by show (out ++ [(i, _)]).length <= _; simp; omega, ?_, fun e he => ?_, fun k hk => ?_⟩, fun hz => ⟨by show out.length <= _; omega, h3, fun e he => by rw [hts]; exact List.mem_append.2 (.inl (h4 e he)), fun k hk => ?_⟩⟩
      . have hz := of_decide_eq_true hz
        exact C8n h3 (fun h0 => hz (by rw [hsg, h0]; rfl)) hout
      . rw [hts]
        rcases List.mem_append.1 he with he | he
        . exact List.mem_append.2 (.inl (h4 e he))
        . rw [List.mem_singleton.1 he]; exact List.mem_append.2 (.inr (List.mem_singleton.2 rfl))
      . show F2 (out ++ [(i, rc (F2 v i))]) k = F2 v k
        rw [B9w]
        rw [hts] at hk
        rcases List.mem_append.1 hk with hk | hk
        . have := hlt k hk
          rw [if_neg (by omega), Rat.add_zero, h5 k hk]
        . rw [List.mem_singleton.1 hk, if_pos rfl, hnil, Rat.zero_add]
      . have hz := of_decide_eq_false hz
        have hz0 : F2 v i = 0 := E0s (by rw [<- hsg]; exact Decidable.not_not.1 hz)
        rw [hts] at hk
        show F2 out k = F2 v k
        rcases List.mem_append.1 hk with hk | hk
        . exact h5 k hk
        . rw [List.mem_singleton.1 hk, hnil, hz0]
    . rintro ⟨o, _⟩ _ ho
      simp only at ho ⊢
      rw [wr (by omega) (by omega)]
      exact ⟨⟨by omega, by omega, ho⟩, by omega⟩
  . have h := of_decide_eq_false h
    rw [G7 (by omega)] at h4 h5
    refine ⟨h3, fun i => ?_⟩
    by_cases hi : i ∈ r
    . exact h5 i hi
    . rw [H8 fun e he hei => hi (by rw [<- hei]; exact h4 e he), H8 fun e he hei => hi ((r3 i).2 ⟨e, he, hei⟩)]
theorem E1m (l : List X5) (j : Int) : ∀ n : Nat, n <= l.length -> F2 ((List.range n).map fun i : Nat => ((i : Int), l.getD i zr)) j = if 0 <= j /\ j < (n : Int) then rv (l.getD j.toNat zr) else 0
  | 0, _ => by rw [if_neg (by omega)]; rfl
  | n + 1, h => by
    rw [List.range_succ, List.map_append, A4n, E1m l j n (by omega)]
    simp only [List.map_cons, List.map_nil, F2, Rat.add_zero]
    by_cases hj : (n : Int) = j
    . subst hj
      rw [if_neg (by omega), if_pos rfl, Rat.zero_add, if_pos (by omega), Int.toNat_natCast]
    . rw [if_neg hj, Rat.add_zero]
      by_cases h2 : 0 <= j /\ j < (n : Int)
      . rw [if_pos h2, if_pos (by omega)]
      . rw [if_neg h2, if_neg (by omega)]
theorem B6y (x : A7 L9.args) (hw : awf L9.args x) (hp : L9.pre x) : A3l x := by
  obtain ⟨l, _⟩ := x
  change List X5 at l
  obtain ⟨hl, hs⟩ : l.length <= 100000 /\ szL K1 l := hp
  simp only [A3l]
  refine ⟨fun p => 0 <= p.2.1 /\ p.2.1 <= (l.length : Int) /\ p.1 = (List.range p.2.1.toNat).map fun i : Nat => ((i : Int), l.getD i zr), fun p => ((l.length : Int) - p.2.1).toNat, ⟨Int.le_refl _, Int.natCast_nonneg _, rfl⟩, ?_⟩
  rintro ⟨v, i, _⟩ _ ⟨h0, h1, h2⟩
  change List Ent at v
  change Int at i
  simp only at h0 h1 h2 ⊢
  have hlen : v.length = i.toNat := by rw [h2]; simp
  refine ⟨fun h => ?_, fun h => ?_⟩
  . have h := of_decide_eq_true h
    rw [G2p h0 h, wr (by omega) (by omega)]
    refine ⟨⟨h0, h⟩, ⟨by simp only [List.length_singleton]; omega, by simp only [List.length_singleton]; omega⟩, ⟨by omega, by omega, ?_⟩, by omega⟩
    rw [E5n _ h0, h2, show ((i.toNat : Nat) : Int) = i from by omega]
  . have h := of_decide_eq_false h
    have hi : i.toNat = l.length := by omega
    rw [hi] at h2 hlen
    have hcm := fun j => E1m l j l.length (Nat.le_refl _)
    rw [<- h2] at hcm
    refine ⟨⟨?_, fun e he => ?_, by omega⟩, ?_⟩
    . rw [h2]
      unfold asc
      rw [List.pairwise_map]
      exact List.pairwise_lt_range.imp fun h => by show ((_ : Nat) : Int) < ((_ : Nat) : Int); omega
    . rw [h2] at he
      obtain ⟨j, hj, rfl⟩ := List.mem_map.1 he
      rw [List.mem_range] at hj
      exact hs _ (U5 hj)
    . rintro ⟨r, _⟩ _ hr
      simp only at hr ⊢
      exact E3s hr (fun i hi => by rw [hcm, if_neg hi]) fun j hj => by rw [hcm, if_pos (by omega), Int.toNat_natCast]
def C2d : An := {}
def A7h : B6 := []
def D1a : An := { loop := [(4, ⟨[1, 24, 25], [0], [(26, false, [.val (.int .i64)])], [], []⟩)] }
def B1o : B6 := [(109, H5), (151, N5)]
noncomputable def C5p : B6 := []
def C6s : An := {}
def D6p : An := { loop := [(7, ⟨[4, 5, 6, 8, 39, 40], [1, 2, 3, 6], [(41, false, [.val (.int .i64)])], [], [(5, .row (.sl tE) 92)]⟩)], plan := [(9, [1, 4, 6, 9], [12], true, (.p 0 (.q 1 (.p 2 (.p 3 (.q 4 (.p 5 (.q 6 (.p 7 (.p 8 (.q 9 (.e 10 (.p 11 (.e 12 .done))))))))))))))] }
noncomputable def B8v : B6 := [(85, F9), (119, F4), (110, A4l (E2k ⟨Tryz.prog, tys⟩ [(37, C5p, C6s)] Tryz.f110.results.toList (Tryz.f110.body.getD .skip) Tryz.f110.ntmps))]
def C9e : An := { join := [(20, ⟨[1, 2, 3, 6, 8, 10, 14, 16, 62, 63, 64, 85, 86, 87], [0, 1, 2, 3, 4, 6], [], [(7, 94, [.val (.int .i64), .val .bool, .val (.sl (.int .u32)), .val (.sl (.int .u32))])], []⟩), (23, ⟨[1, 2, 3, 6, 8, 10, 62, 63, 64], [0, 1, 2], [], [(3, 24, [.val (.int .i64), .val (.int .i64), .own (.sl tE) 92])], []⟩)], loop := [(16, ⟨[1, 2, 3, 6, 8, 10, 62, 63, 64, 85, 86], [0, 1, 2, 3, 4], [(14, false, [.own tE 94]), (87, false, [.val (.int .i64)])], [], []⟩), (10, ⟨[1, 2, 3, 6, 8, 10, 62, 63], [0, 1, 2], [(64, false, [.val (.int .i64)])], [(3, 24, [.val (.int .i64), .val (.int .i64), .own (.sl tE) 92])], []⟩)], plan := [(13, [3], [7], true, (.p 0 (.p 1 (.q 3 (.or 2 (.or 4 (.or 5 (.e 6 (.e 7 .done)) (.e 6 (.e 5 (.e 7 .done)))) (.e 6 (.e 4 (.e 5 (.e 7 .done))))) (.e 6 (.e 2 (.e 4 (.e 5 (.e 7 .done)))))))))), (15, [1, 3, 6], [], true, (.p 0 (.q 1 (.p 2 (.q 3 (.p 4 (.p 5 (.q 6 (.p 9 (.e 7 (.p 8 .done)))))))))))] }
def B1s : B6 := [(71, J1), (73, O0), (85, F9), (117, N6), (118, S0), (119, F4)]
def A2f : A7 H5.args -> Prop := fun (x : Int × Unit) => sel (decide (0 <= x.1)) (decide (x.1 <= 16384)) false = decide (0 <= x.1 /\ x.1 <= 16384)
theorem B4d (x : A7 H5.args) : K8 Tryz.prog tys A7h C2d H5 Tryz.f109 x = A2f x := by kernel_rfl
def A4f : A7 F9.args -> Prop := fun (x : MM × Unit) => True /\ ∀ (r : Bool × Unit), True /\ True -> r.1 = decide (0 <= x.1.1 /\ x.1.1 <= 16384) -> ((!r.1) = false -> True) /\ ∀ (a : Bool × Unit), ((!r.1) = false -> (True /\ True) /\ a.1 = decide (0 <= x.1.2.1 /\ x.1.2.1 <= 16384)) -> (sel (sel (!r.1) true !a.1) true (decide ((x.1.2.2.length : Int) ≠ x.1.1)) = true -> false = decide (A6 x.1)) /\ (sel (sel (!r.1) true !a.1) true (decide ((x.1.2.2.length : Int) ≠ x.1.1)) = false -> ∃ (I : Int × Unit -> Prop), ∃ (μ : Int × Unit -> Nat), I ((0 : Int), ()) /\ ∀ (p : Int × Unit), G2 p.1 /\ True -> I p -> (decide (p.1 < (x.1.2.2.length : Int)) = true -> (0 <= p.1 /\ p.1 < (x.1.2.2.length : Int)) /\ True /\ ∀ (r : Bool × Unit), True /\ True -> r.1 = decide (V5 (gx [] x.1.2.2 p.1) x.1.2.1) -> ((!r.1) = true -> false = decide (A6 x.1)) /\ ((!r.1) = false -> I (IntKind.i64.wrap (p.1 + 1), ()) /\ μ (IntKind.i64.wrap (p.1 + 1), ()) < μ p)) /\ (decide (p.1 < (x.1.2.2.length : Int)) = false -> true = decide (A6 x.1)))
theorem B8c (x : A7 F9.args) : K8 Tryz.prog tys B1o D1a F9 Tryz.f85 x = A4f x := by kernel_rfl
def A8z : A7 S7.args -> Prop := fun (x : MM × QQ × MM × Unit) => True /\ ∀ (r : Bool × Unit), True /\ True -> r.1 = decide (A6 x.1) -> ((!r.1) = false -> True) /\ ∀ (a : Bool × Unit), ((!r.1) = false -> (True /\ True) /\ a.1 = decide (A6 x.2.2.1)) -> ((sel (!r.1) true !a.1) = true -> (¬(A6 x.1 /\ A6 x.2.2.1) -> ((0 : Int), (0 : Int), []) = zm /\ (1 : Int) = (1 : Int)) /\ (A6 x.1 /\ A6 x.2.2.1 -> (¬(x.1.1 = x.2.2.1.1 /\ x.1.2.1 = x.2.2.1.2.1) -> ((0 : Int), (0 : Int), []) = zm /\ (1 : Int) = (4 : Int)) /\ (x.1.1 = x.2.2.1.1 /\ x.1.2.1 = x.2.2.1.2.1 -> isM x.1.1.toNat x.1.2.1.toNat (fun (i j : Nat) => el x.1 i j + rv x.2.1 * el x.2.2.1 i j) ((0 : Int), (0 : Int), []) /\ (1 : Int) = (0 : Int)))) /\ ((sel (!r.1) true !a.1) = false -> (sel (decide (x.1.1 ≠ x.2.2.1.1)) true (decide (x.1.2.1 ≠ x.2.2.1.2.1)) = true -> (¬(A6 x.1 /\ A6 x.2.2.1) -> ((0 : Int), (0 : Int), []) = zm /\ (4 : Int) = (1 : Int)) /\ (A6 x.1 /\ A6 x.2.2.1 -> (¬(x.1.1 = x.2.2.1.1 /\ x.1.2.1 = x.2.2.1.2.1) -> ((0 : Int), (0 : Int), []) = zm /\ (4 : Int) = (4 : Int)) /\ (x.1.1 = x.2.2.1.1 /\ x.1.2.1 = x.2.2.1.2.1 -> isM x.1.1.toNat x.1.2.1.toNat (fun (i j : Nat) => el x.1 i j + rv x.2.1 * el x.2.2.1 i j) ((0 : Int), (0 : Int), []) /\ (4 : Int) = (0 : Int)))) /\ (sel (decide (x.1.1 ≠ x.2.2.1.1)) true (decide (x.1.2.1 ≠ x.2.2.1.2.1)) = false -> (0 <= x.1.1 /\ x.1.1 <= x.1.1 /\ (↑(24 : Nat) : Int) * x.1.1 <= 281474976710656 /\ x.1.1 <= 9223372036854775807) /\ ∃ (I : Int × List (List EE) × Unit -> Prop), ∃ (μ : Int × List (List EE) × Unit -> Nat), I ((0 : Int), List.replicate (Int.toNat x.1.1) [], ()) /\ ∀ (p : Int × List (List EE) × Unit), G2 p.1 /\ F4z p.2.1 /\ True -> I p -> (decide (p.1 < (x.1.2.2.length : Int)) = true -> (0 <= p.1 /\ p.1 < (x.1.2.2.length : Int)) /\ (0 <= p.1 /\ p.1 < (x.2.2.1.2.2.length : Int)) /\ (okV K1 (gx [] x.1.2.2 p.1) /\ sz K1 x.2.1 /\ okV K1 (gx [] x.2.2.1.2.2 p.1)) /\ ∀ (r : List EE × Unit), B8j r.1 /\ True -> isC (fun (i : Int) => F2 (gx [] x.1.2.2 p.1) i + rv x.2.1 * F2 (gx [] x.2.2.1.2.2 p.1) i) r.1 -> (0 <= p.1 /\ p.1 < (p.2.1.length : Int)) /\ I (IntKind.i64.wrap (p.1 + 1), List.set p.2.1 (Int.toNat p.1) r.1, ()) /\ μ (IntKind.i64.wrap (p.1 + 1), List.set p.2.1 (Int.toNat p.1) r.1, ()) < μ p) /\ (decide (p.1 < (x.1.2.2.length : Int)) = false -> (¬(A6 x.1 /\ A6 x.2.2.1) -> (x.1.1, x.1.2.1, p.2.1) = zm /\ (0 : Int) = (1 : Int)) /\ (A6 x.1 /\ A6 x.2.2.1 -> (¬(x.1.1 = x.2.2.1.1 /\ x.1.2.1 = x.2.2.1.2.1) -> (x.1.1, x.1.2.1, p.2.1) = zm /\ (0 : Int) = (4 : Int)) /\ (x.1.1 = x.2.2.1.1 /\ x.1.2.1 = x.2.2.1.2.1 -> isM x.1.1.toNat x.1.2.1.toNat (fun (i j : Nat) => el x.1 i j + rv x.2.1 * el x.2.2.1 i j) (x.1.1, x.1.2.1, p.2.1) /\ (0 : Int) = (0 : Int))))))
theorem C6a (x : A7 S7.args) : K8 Tryz.prog tys B8v D6p S7 Tryz.f57 x = A8z x := by kernel_rfl
def A3z : A7 N8.args -> Prop := fun (x : MM × Int × Int × Unit) => True /\ ∀ (r : Bool × Unit), True /\ True -> r.1 = decide (A6 x.1) -> ((!r.1) = true -> (¬A6 x.1 -> ((0 : Int), (0 : Int), []) = zm /\ (1 : Int) = (1 : Int)) /\ (A6 x.1 -> (¬(0 <= x.2.1 /\ x.2.1 < x.1.1 /\ 0 <= x.2.2.1 /\ x.2.2.1 < x.1.2.1) -> ((0 : Int), (0 : Int), []) = zm /\ (1 : Int) = (3 : Int)) /\ (0 <= x.2.1 /\ x.2.1 < x.1.1 /\ 0 <= x.2.2.1 /\ x.2.2.1 < x.1.2.1 -> (el x.1 x.2.1.toNat x.2.2.1.toNat = (0 : Rat) -> ((0 : Int), (0 : Int), []) = zm /\ (1 : Int) = (5 : Int)) /\ (el x.1 x.2.1.toNat x.2.2.1.toNat ≠ (0 : Rat) -> isM (x.1.1 - 1).toNat (x.1.2.1 - 1).toNat (F4s x.1 x.2.1.toNat x.2.2.1.toNat) ((0 : Int), (0 : Int), []) /\ (1 : Int) = (0 : Int))))) /\ ((!r.1) = false -> (sel (sel (sel (decide (x.2.1 < 0)) true (decide (x.1.1 <= x.2.1))) true (decide (x.2.2.1 < 0))) true (decide (x.1.2.1 <= x.2.2.1)) = true -> (¬A6 x.1 -> ((0 : Int), (0 : Int), []) = zm /\ (3 : Int) = (1 : Int)) /\ (A6 x.1 -> (¬(0 <= x.2.1 /\ x.2.1 < x.1.1 /\ 0 <= x.2.2.1 /\ x.2.2.1 < x.1.2.1) -> ((0 : Int), (0 : Int), []) = zm /\ (3 : Int) = (3 : Int)) /\ (0 <= x.2.1 /\ x.2.1 < x.1.1 /\ 0 <= x.2.2.1 /\ x.2.2.1 < x.1.2.1 -> (el x.1 x.2.1.toNat x.2.2.1.toNat = (0 : Rat) -> ((0 : Int), (0 : Int), []) = zm /\ (3 : Int) = (5 : Int)) /\ (el x.1 x.2.1.toNat x.2.2.1.toNat ≠ (0 : Rat) -> isM (x.1.1 - 1).toNat (x.1.2.1 - 1).toNat (F4s x.1 x.2.1.toNat x.2.2.1.toNat) ((0 : Int), (0 : Int), []) /\ (3 : Int) = (0 : Int))))) /\ (sel (sel (sel (decide (x.2.1 < 0)) true (decide (x.1.1 <= x.2.1))) true (decide (x.2.2.1 < 0))) true (decide (x.1.2.1 <= x.2.2.1)) = false -> (0 <= x.2.1 /\ x.2.1 < (x.1.2.2.length : Int)) /\ okV K1 (gx [] x.1.2.2 x.2.1) /\ ∀ (r : QQ × Unit), WfQ r.1 /\ True -> r.1 = rc (F2 (gx [] x.1.2.2 x.2.1) x.2.2.1) -> sh3 r.1 /\ ∀ (d : QQ × Bool × Unit), WfQ d.1 /\ True /\ True -> (rv r.1 = (0 : Rat) -> d.2.1 = false) /\ (rv r.1 ≠ (0 : Rat) -> d.1 = rc (rv r.1)⁻¹ /\ d.2.1 = true) -> ((!d.2.1) = true -> (¬A6 x.1 -> ((0 : Int), (0 : Int), []) = zm /\ (5 : Int) = (1 : Int)) /\ (A6 x.1 -> (¬(0 <= x.2.1 /\ x.2.1 < x.1.1 /\ 0 <= x.2.2.1 /\ x.2.2.1 < x.1.2.1) -> ((0 : Int), (0 : Int), []) = zm /\ (5 : Int) = (3 : Int)) /\ (0 <= x.2.1 /\ x.2.1 < x.1.1 /\ 0 <= x.2.2.1 /\ x.2.2.1 < x.1.2.1 -> (el x.1 x.2.1.toNat x.2.2.1.toNat = (0 : Rat) -> ((0 : Int), (0 : Int), []) = zm /\ (5 : Int) = (5 : Int)) /\ (el x.1 x.2.1.toNat x.2.2.1.toNat ≠ (0 : Rat) -> isM (x.1.1 - 1).toNat (x.1.2.1 - 1).toNat (F4s x.1 x.2.1.toNat x.2.2.1.toNat) ((0 : Int), (0 : Int), []) /\ (5 : Int) = (0 : Int))))) /\ ((!d.2.1) = false -> ∃ (I : Int × Int × Int × List (List EE) × Unit -> Prop), ∃ (μ : Int × Int × Int × List (List EE) × Unit -> Nat), I ((0 : Int), IntKind.i64.wrap (x.1.1 - 1), IntKind.i64.wrap (x.1.2.1 - 1), [], ()) /\ ∀ (p : Int × Int × Int × List (List EE) × Unit), G2 p.1 /\ G2 p.2.1 /\ G2 p.2.2.1 /\ F4z p.2.2.2.1 /\ True -> I p -> (decide (p.1 < (x.1.2.2.length : Int)) = true -> ∃ (J : Int × Int × List (List EE) × Unit -> Prop), ((0 <= p.1 /\ p.1 < (x.1.2.2.length : Int)) /\ (decide (p.1 = x.2.1) = true -> J (p.2.1, p.2.2.1, p.2.2.2.1, ())) /\ (decide (p.1 = x.2.1) = false -> (okV K1 (gx [] x.1.2.2 p.1) /\ ∀ (r : QQ × Unit), WfQ r.1 /\ True -> r.1 = rc (F2 (gx [] x.1.2.2 p.1) x.2.2.1) -> ((sh3 r.1 /\ sh3 d.1) /\ ∀ (c : QQ × Unit), WfQ c.1 /\ True -> c.1 = rc (rv r.1 * rv d.1) -> (sh3 c.1 /\ ∀ (r : QQ × Unit), WfQ r.1 /\ True -> r.1 = rc (-rv c.1) -> (0 <= x.2.1 /\ x.2.1 < (x.1.2.2.length : Int)) /\ (okV K1 (gx [] x.1.2.2 p.1) /\ sz K1 r.1 /\ okV K1 (gx [] x.1.2.2 x.2.1)) /\ ∀ (b : List EE × Unit), B8j b.1 /\ True -> isC (fun (i : Int) => F2 (gx [] x.1.2.2 p.1) i + rv r.1 * F2 (gx [] x.1.2.2 x.2.1) i) b.1 -> ∃ (I : List EE × Int × Unit -> Prop), ∃ (μ : List EE × Int × Unit -> Nat), I ([], (0 : Int), ()) /\ ∀ (a : List EE × Int × Unit), B8j a.1 /\ G2 a.2.1 /\ True -> I a -> (decide (a.2.1 < (b.1.length : Int)) = true -> (0 <= a.2.1 /\ a.2.1 < (b.1.length : Int)) /\ ∃ (J : Int × Bool × List Int × List Int × Unit -> Prop), ((decide (x.2.2.1 < (gx dEE b.1 a.2.1).1) = true -> J (IntKind.i64.wrap ((gx dEE b.1 a.2.1).1 - (1 : Int)), (gx dEE b.1 a.2.1).2.1.1, (gx dEE b.1 a.2.1).2.1.2, (gx dEE b.1 a.2.1).2.2, ())) /\ (decide (x.2.2.1 < (gx dEE b.1 a.2.1).1) = false -> J ((gx dEE b.1 a.2.1).1, (gx dEE b.1 a.2.1).2.1.1, (gx dEE b.1 a.2.1).2.1.2, (gx dEE b.1 a.2.1).2.2, ()))) /\ ∀ (p : Int × Bool × List Int × List Int × Unit), G2 p.1 /\ True /\ WfU p.2.2.1 /\ WfU p.2.2.2.1 /\ True -> J p -> ((List.length a.1 + [(p.1, (p.2.1, p.2.2.1), p.2.2.2.1)].length) * (64 : Nat) <= (140737488355328 : Nat) /\ List.length a.1 + [(p.1, (p.2.1, p.2.2.1), p.2.2.2.1)].length <= 9223372036854775807) /\ I (a.1 ++ [(p.1, (p.2.1, p.2.2.1), p.2.2.2.1)], IntKind.i64.wrap (a.2.1 + 1), ()) /\ μ (a.1 ++ [(p.1, (p.2.1, p.2.2.1), p.2.2.2.1)], IntKind.i64.wrap (a.2.1 + 1), ()) < μ a) /\ (decide (a.2.1 < (b.1.length : Int)) = false -> ((List.length p.2.2.2.1 + [a.1].length) * (24 : Nat) <= (140737488355328 : Nat) /\ List.length p.2.2.2.1 + [a.1].length <= 9223372036854775807) /\ J (p.2.1, p.2.2.1, p.2.2.2.1 ++ [a.1], ()))) /\ sh3 c.1 /\ ∀ (r : QQ × Unit), WfQ r.1 /\ True -> r.1 = rc (-rv c.1) -> (0 <= x.2.1 /\ x.2.1 < (x.1.2.2.length : Int)) /\ (okV K1 (gx [] x.1.2.2 p.1) /\ sz K1 r.1 /\ okV K1 (gx [] x.1.2.2 x.2.1)) /\ ∀ (b : List EE × Unit), B8j b.1 /\ True -> isC (fun (i : Int) => F2 (gx [] x.1.2.2 p.1) i + rv r.1 * F2 (gx [] x.1.2.2 x.2.1) i) b.1 -> ∃ (I : List EE × Int × Unit -> Prop), ∃ (μ : List EE × Int × Unit -> Nat), I ([], (0 : Int), ()) /\ ∀ (a : List EE × Int × Unit), B8j a.1 /\ G2 a.2.1 /\ True -> I a -> (decide (a.2.1 < (b.1.length : Int)) = true -> (0 <= a.2.1 /\ a.2.1 < (b.1.length : Int)) /\ ∃ (J : Int × Bool × List Int × List Int × Unit -> Prop), ((decide (x.2.2.1 < (gx dEE b.1 a.2.1).1) = true -> J (IntKind.i64.wrap ((gx dEE b.1 a.2.1).1 - (1 : Int)), (gx dEE b.1 a.2.1).2.1.1, (gx dEE b.1 a.2.1).2.1.2, (gx dEE b.1 a.2.1).2.2, ())) /\ (decide (x.2.2.1 < (gx dEE b.1 a.2.1).1) = false -> J ((gx dEE b.1 a.2.1).1, (gx dEE b.1 a.2.1).2.1.1, (gx dEE b.1 a.2.1).2.1.2, (gx dEE b.1 a.2.1).2.2, ()))) /\ ∀ (p : Int × Bool × List Int × List Int × Unit), G2 p.1 /\ True /\ WfU p.2.2.1 /\ WfU p.2.2.2.1 /\ True -> J p -> ((List.length a.1 + [(p.1, (p.2.1, p.2.2.1), p.2.2.2.1)].length) * (64 : Nat) <= (140737488355328 : Nat) /\ List.length a.1 + [(p.1, (p.2.1, p.2.2.1), p.2.2.2.1)].length <= 9223372036854775807) /\ I (a.1 ++ [(p.1, (p.2.1, p.2.2.1), p.2.2.2.1)], IntKind.i64.wrap (a.2.1 + 1), ()) /\ μ (a.1 ++ [(p.1, (p.2.1, p.2.2.1), p.2.2.2.1)], IntKind.i64.wrap (a.2.1 + 1), ()) < μ a) /\ (decide (a.2.1 < (b.1.length : Int)) = false -> ((List.length p.2.2.2.1 + [a.1].length) * (24 : Nat) <= (140737488355328 : Nat) /\ List.length p.2.2.2.1 + [a.1].length <= 9223372036854775807) /\ J (p.2.1, p.2.2.1, p.2.2.2.1 ++ [a.1], ()))) /\ (sh3 r.1 /\ sh3 d.1) /\ ∀ (c : QQ × Unit), WfQ c.1 /\ True -> c.1 = rc (rv r.1 * rv d.1) -> sh3 c.1 /\ ∀ (r : QQ × Unit), WfQ r.1 /\ True -> r.1 = rc (-rv c.1) -> (0 <= x.2.1 /\ x.2.1 < (x.1.2.2.length : Int)) /\ (okV K1 (gx [] x.1.2.2 p.1) /\ sz K1 r.1 /\ okV K1 (gx [] x.1.2.2 x.2.1)) /\ ∀ (b : List EE × Unit), B8j b.1 /\ True -> isC (fun (i : Int) => F2 (gx [] x.1.2.2 p.1) i + rv r.1 * F2 (gx [] x.1.2.2 x.2.1) i) b.1 -> ∃ (I : List EE × Int × Unit -> Prop), ∃ (μ : List EE × Int × Unit -> Nat), I ([], (0 : Int), ()) /\ ∀ (a : List EE × Int × Unit), B8j a.1 /\ G2 a.2.1 /\ True -> I a -> (decide (a.2.1 < (b.1.length : Int)) = true -> (0 <= a.2.1 /\ a.2.1 < (b.1.length : Int)) /\ ∃ (J : Int × Bool × List Int × List Int × Unit -> Prop), ((decide (x.2.2.1 < (gx dEE b.1 a.2.1).1) = true -> J (IntKind.i64.wrap ((gx dEE b.1 a.2.1).1 - (1 : Int)), (gx dEE b.1 a.2.1).2.1.1, (gx dEE b.1 a.2.1).2.1.2, (gx dEE b.1 a.2.1).2.2, ())) /\ (decide (x.2.2.1 < (gx dEE b.1 a.2.1).1) = false -> J ((gx dEE b.1 a.2.1).1, (gx dEE b.1 a.2.1).2.1.1, (gx dEE b.1 a.2.1).2.1.2, (gx dEE b.1 a.2.1).2.2, ()))) /\ ∀ (p : Int × Bool × List Int × List Int × Unit), G2 p.1 /\ True /\ WfU p.2.2.1 /\ WfU p.2.2.2.1 /\ True -> J p -> ((List.length a.1 + [(p.1, (p.2.1, p.2.2.1), p.2.2.2.1)].length) * (64 : Nat) <= (140737488355328 : Nat) /\ List.length a.1 + [(p.1, (p.2.1, p.2.2.1), p.2.2.2.1)].length <= 9223372036854775807) /\ I (a.1 ++ [(p.1, (p.2.1, p.2.2.1), p.2.2.2.1)], IntKind.i64.wrap (a.2.1 + 1), ()) /\ μ (a.1 ++ [(p.1, (p.2.1, p.2.2.1), p.2.2.2.1)], IntKind.i64.wrap (a.2.1 + 1), ()) < μ a) /\ (decide (a.2.1 < (b.1.length : Int)) = false -> ((List.length p.2.2.2.1 + [a.1].length) * (24 : Nat) <= (140737488355328 : Nat) /\ List.length p.2.2.2.1 + [a.1].length <= 9223372036854775807) /\ J (p.2.1, p.2.2.1, p.2.2.2.1 ++ [a.1], ()))) /\ okV K1 (gx [] x.1.2.2 p.1) /\ ∀ (r : QQ × Unit), WfQ r.1 /\ True -> r.1 = rc (F2 (gx [] x.1.2.2 p.1) x.2.2.1) -> (sh3 r.1 /\ sh3 d.1) /\ ∀ (c : QQ × Unit), WfQ c.1 /\ True -> c.1 = rc (rv r.1 * rv d.1) -> sh3 c.1 /\ ∀ (r : QQ × Unit), WfQ r.1 /\ True -> r.1 = rc (-rv c.1) -> (0 <= x.2.1 /\ x.2.1 < (x.1.2.2.length : Int)) /\ (okV K1 (gx [] x.1.2.2 p.1) /\ sz K1 r.1 /\ okV K1 (gx [] x.1.2.2 x.2.1)) /\ ∀ (b : List EE × Unit), B8j b.1 /\ True -> isC (fun (i : Int) => F2 (gx [] x.1.2.2 p.1) i + rv r.1 * F2 (gx [] x.1.2.2 x.2.1) i) b.1 -> ∃ (I : List EE × Int × Unit -> Prop), ∃ (μ : List EE × Int × Unit -> Nat), I ([], (0 : Int), ()) /\ ∀ (a : List EE × Int × Unit), B8j a.1 /\ G2 a.2.1 /\ True -> I a -> (decide (a.2.1 < (b.1.length : Int)) = true -> (0 <= a.2.1 /\ a.2.1 < (b.1.length : Int)) /\ ∃ (J : Int × Bool × List Int × List Int × Unit -> Prop), ((decide (x.2.2.1 < (gx dEE b.1 a.2.1).1) = true -> J (IntKind.i64.wrap ((gx dEE b.1 a.2.1).1 - (1 : Int)), (gx dEE b.1 a.2.1).2.1.1, (gx dEE b.1 a.2.1).2.1.2, (gx dEE b.1 a.2.1).2.2, ())) /\ (decide (x.2.2.1 < (gx dEE b.1 a.2.1).1) = false -> J ((gx dEE b.1 a.2.1).1, (gx dEE b.1 a.2.1).2.1.1, (gx dEE b.1 a.2.1).2.1.2, (gx dEE b.1 a.2.1).2.2, ()))) /\ ∀ (p : Int × Bool × List Int × List Int × Unit), G2 p.1 /\ True /\ WfU p.2.2.1 /\ WfU p.2.2.2.1 /\ True -> J p -> ((List.length a.1 + [(p.1, (p.2.1, p.2.2.1), p.2.2.2.1)].length) * (64 : Nat) <= (140737488355328 : Nat) /\ List.length a.1 + [(p.1, (p.2.1, p.2.2.1), p.2.2.2.1)].length <= 9223372036854775807) /\ I (a.1 ++ [(p.1, (p.2.1, p.2.2.1), p.2.2.2.1)], IntKind.i64.wrap (a.2.1 + 1), ()) /\ μ (a.1 ++ [(p.1, (p.2.1, p.2.2.1), p.2.2.2.1)], IntKind.i64.wrap (a.2.1 + 1), ()) < μ a) /\ (decide (a.2.1 < (b.1.length : Int)) = false -> ((List.length p.2.2.2.1 + [a.1].length) * (24 : Nat) <= (140737488355328 : Nat) /\ List.length p.2.2.2.1 + [a.1].length <= 9223372036854775807) /\ J (p.2.1, p.2.2.1, p.2.2.2.1 ++ [a.1], ())))) /\ ∀ (a : Int × Int × List (List EE) × Unit), G2 a.1 /\ G2 a.2.1 /\ F4z a.2.2.1 /\ True -> J a -> I (IntKind.i64.wrap (p.1 + 1), a.1, a.2.1, a.2.2.1, ()) /\ μ (IntKind.i64.wrap (p.1 + 1), a.1, a.2.1, a.2.2.1, ()) < μ p) /\ (decide (p.1 < (x.1.2.2.length : Int)) = false -> (¬A6 x.1 -> (p.2.1, p.2.2.1, p.2.2.2.1) = zm /\ (0 : Int) = (1 : Int)) /\ (A6 x.1 -> (¬(0 <= x.2.1 /\ x.2.1 < x.1.1 /\ 0 <= x.2.2.1 /\ x.2.2.1 < x.1.2.1) -> (p.2.1, p.2.2.1, p.2.2.2.1) = zm /\ (0 : Int) = (3 : Int)) /\ (0 <= x.2.1 /\ x.2.1 < x.1.1 /\ 0 <= x.2.2.1 /\ x.2.2.1 < x.1.2.1 -> (el x.1 x.2.1.toNat x.2.2.1.toNat = (0 : Rat) -> (p.2.1, p.2.2.1, p.2.2.2.1) = zm /\ (0 : Int) = (5 : Int)) /\ (el x.1 x.2.1.toNat x.2.2.1.toNat ≠ (0 : Rat) -> isM (x.1.1 - 1).toNat (x.1.2.1 - 1).toNat (F4s x.1 x.2.1.toNat x.2.2.1.toNat) (p.2.1, p.2.2.1, p.2.2.2.1) /\ (0 : Int) = (0 : Int))))))))
theorem B8t (x : A7 N8.args) : K8 Tryz.prog tys B1s C9e N8 Tryz.f50 x = A3z x := by kernel_rfl
theorem E2b {D : List (List Ent)} {R C : Int} (h : ∀ x ∈ D, List.length x <= 9223372036854775807 /\ ∀ y ∈ x, WfE y) : G0f (R, C, D) := fun v hv => D0l (h v hv).2
theorem C5m {D : List (List Ent)} {i : Int} (h0 : 0 <= i) (h1 : i < (D.length : Int)) : gx [] D i = D.getD i.toNat [] := Y6 h0 h1
theorem B3u (x : A7 H5.args) (hw : awf H5.args x) (_ : H5.pre x) : A2f x := by
  simp only [A2f]
  rw [U2, Bool.decide_and]
theorem B9s (x : A7 F9.args) (hw : awf F9.args x) (_ : F9.pre x) : A4f x := by
  obtain ⟨⟨R, C, D⟩, _⟩ := x
  have hD : D.length <= 9223372036854775807 := hw.1.2.2.1
  change Int at R C
  change List (List Ent) at D
  simp only [A4f]
  refine ⟨trivial, ?_⟩
  rintro ⟨r, _⟩ _ hr
  simp only at hr ⊢
  refine ⟨fun _ => trivial, ?_⟩
  rintro ⟨s, _⟩ hs
  simp only at hs ⊢
  rw [Z6, Z6]
  by_cases hR : 0 <= R /\ R <= 16384
  . have hr : r = true := by rw [hr]; exact decide_eq_true hR
    have hs := (hs (by rw [hr]; rfl)).2
    rw [hr, hs]
    refine ⟨fun h => ?_, fun h => ?_⟩
    . refine (decide_eq_false fun hv => ?_).symm
      obtain ⟨_, _, v3, v4, v5, _⟩ := hv
      simp only at v3 v4 v5
      rw [decide_eq_true (show 0 <= C /\ C <= 16384 from ⟨v3, v4⟩)] at h
      simp at h
      exact h v5
    . simp only [Bool.not_true, Bool.false_or, Bool.or_eq_false_iff, Bool.not_eq_false', decide_eq_true_eq, decide_eq_false_iff_not, Decidable.not_not] at h
      refine ⟨fun p => 0 <= p.1 /\ ∀ v ∈ D.take p.1.toNat, V5 v C, fun p => ((D.length : Int) - p.1).toNat, ⟨Int.le_refl _, by simp⟩, ?_⟩
      rintro ⟨i, _⟩ _ ⟨h0, h1⟩
      change Int at i
      simp only at h0 h1 ⊢
      refine ⟨fun hi => ?_, fun hi => ?_⟩
      . have hi := of_decide_eq_true hi
        refine ⟨⟨h0, hi⟩, trivial, ?_⟩
        rintro ⟨b, _⟩ _ hb
        simp only at hb ⊢
        refine ⟨fun h2 => ?_, fun h2 => ?_⟩
        . refine (decide_eq_false fun hv => ?_).symm
          rw [hb] at h2
          have := hv.2.2.2.2.2 _ (T6 (d := ([] : List Ent)) h0 hi)
          rw [decide_eq_true this] at h2
          cases h2
        . rw [hb] at h2
          have h2 : decide (V5 (gx [] D i) C) = true := by simpa using h2
          rw [wr (by omega) (by omega)]
          exact ⟨⟨by omega, A8e (d := ([] : List Ent)) (q := fun v => V5 v C) h0 hi h1 (of_decide_eq_true h2)⟩, by omega⟩
      . have hi := of_decide_eq_false hi
        rw [G7 (by omega)] at h1
        exact (decide_eq_true ⟨hR.1, hR.2, h.1.1, h.1.2, h.2, h1⟩).symm
  . have hr : r = false := by rw [hr]; exact decide_eq_false hR
    rw [hr]
    refine ⟨fun _ => (decide_eq_false fun hv => hR ⟨hv.1, hv.2.1⟩).symm, fun h => (by simp at h)⟩
theorem C6i (x : A7 S7.args) (hw : awf S7.args x) (hp : S7.pre x) : A8z x := by
  obtain ⟨⟨R, C, D⟩, f, ⟨R', C', D'⟩, _⟩ := x
  change Int at R C R' C'
  change List (List Ent) at D D'
  change X5 at f
  obtain ⟨hs, hf0, hs'⟩ : okM K1 (R, C, D) /\ sz K1 f /\ okM K1 (R', C', D') := hp
  simp only [A8z]
  refine ⟨trivial, ?_⟩
  rintro ⟨r, _⟩ _ hr
  simp only at hr ⊢
  refine ⟨fun _ => trivial, ?_⟩
  rintro ⟨s, _⟩ hs2
  simp only at hs2 ⊢
  rw [Z6, Z6]
  by_cases hv : A6 (R, C, D)
  . have hr : r = true := by rw [hr]; exact decide_eq_true hv
    have hs2 := (hs2 (by rw [hr]; rfl)).2
    rw [hr, hs2]
    by_cases hv' : A6 (R', C', D')
    . rw [decide_eq_true hv']
      refine ⟨fun h => (by cases h), fun _ => ⟨fun h => ?_, fun h => ?_⟩⟩
      . simp only [Bool.or_eq_true, decide_eq_true_eq] at h
        exact ⟨fun h => absurd ⟨hv, hv'⟩ h, fun _ => ⟨fun _ => ⟨rfl, by trivial⟩, fun h2 => absurd h2 (by omega)⟩⟩
      . simp only [Bool.or_eq_false_iff, decide_eq_false_iff_not, Decidable.not_not] at h
        obtain ⟨rfl, rfl⟩ := h
        obtain ⟨v1, v2, v3, v4, v5, v6⟩ := id hv
        have w5 : (D'.length : Int) = R := hv'.2.2.2.2.1
        have w6 := hv'.2.2.2.2.2
        simp only at v1 v2 v3 v4 v5
        refine ⟨⟨v1, Int.le_refl _, by omega, by omega⟩, ?_⟩
        refine ⟨fun p => 0 <= p.1 /\ p.1 <= R /\ E2z R.toNat p.1.toNat (fun i => isV C.toNat fun j => el (R, C, D) i j + rv f * el (R, C, D') i j) p.2.1, fun p => (R - p.1).toNat, ⟨Int.le_refl _, v1, F2r List.length_replicate⟩, ?_⟩
        rintro ⟨k, rows, _⟩ _ ⟨k0, k1, hf⟩
        change Int at k
        change List (List Ent) at rows
        simp only at k0 k1 hf ⊢
        have := hf.1
        refine ⟨fun h => ?_, fun h => ?_⟩
        . have h := of_decide_eq_true h
          have hme := T6 (d := ([] : List Ent)) k0 h
          have hme' := T6 (d := ([] : List Ent)) (l := D') k0 (by omega)
          refine ⟨⟨k0, h⟩, ⟨k0, by omega⟩, ⟨B8e hv hs hme, hf0, B8e hv' hs' hme'⟩, ?_⟩
          rintro ⟨v, _⟩ _ hvv
          simp only at hvv ⊢
          rw [wr (by omega) (by omega)]
          refine ⟨⟨k0, by omega⟩, ⟨by omega, by omega, C7w hf k0 (by omega) ?_⟩, by omega⟩
          refine E3s hvv (fun i hi => ?_) fun j _ => ?_
          . rw [B1r (v6 _ hme) (show ¬ (0 <= i /\ i < C) by omega), B1r (w6 _ hme') (show ¬ (0 <= i /\ i < C) by omega), Rat.mul_zero, Rat.add_zero]
          . rw [C5m k0 h, C5m (D := D') k0 (by omega)]; rfl
        . have h := of_decide_eq_false h
          exact ⟨fun h => absurd ⟨hv, hv'⟩ h, fun _ => ⟨fun h2 => (by simp at h2), fun _ => ⟨⟨by show R = _; omega, by show C = _; omega, hf.1, fun i hi => hf.2 i (by omega)⟩, by trivial⟩⟩⟩
    . rw [decide_eq_false hv']
      exact ⟨fun _ => ⟨fun _ => ⟨rfl, by trivial⟩, fun h => absurd h.2 hv'⟩, fun h => (by cases h)⟩
  . have hr : r = false := by rw [hr]; exact decide_eq_false hv
    rw [hr]
    exact ⟨fun _ => ⟨fun _ => ⟨rfl, by trivial⟩, fun h => absurd h.1 hv⟩, fun h => (by simp at h)⟩
theorem D6t {R C : Int} {D : List (List Ent)} (i : Nat) (j : Int) (h : 0 <= j) : F2 (D.getD i []) j = el (R, C, D) i j.toNat := by
  unfold el
  rw [show ((j.toNat : Nat) : Int) = j from by omega]
theorem C9a {d : Ent} {v : List Ent} {i : Int} (h0 : 0 <= i) (h1 : i < (v.length : Int)) (j : Int) : F2 (v.take (i + 1).toNat) j = F2 (v.take i.toNat) j + if (gx d v i).1 = j then rv (gx d v i).2 else 0 := by
  rw [show (i + 1).toNat = i.toNat + 1 from by omega, List.take_add_one, M7 (d := d) h0 h1, A4n]
  simp only [Option.toList_some, F2, Rat.add_zero]
theorem F4y {j k : Nat} {v : List Ent} (h : szV j v) (hk : j <= k) : szV k v := fun e he => F1d (h e he) hk
theorem E6b {j k : Nat} {m : B4g} (h : okM j m) (hk : j <= k) : okM k m := fun v hv => F4y (h v hv) hk
def shL (j : Int) (e : Ent) : Ent := if j < e.1 then (e.1 - 1, e.2) else e
theorem F5e (j : Int) (e : Ent) : (shL j e).1 = if j < e.1 then e.1 - 1 else e.1 := by unfold shL; split <;> rfl
theorem G0i (j : Int) (e : Ent) : (shL j e).2 = e.2 := by unfold shL; split <;> rfl
theorem F3i {j : Int} {w : List Ent} (hj : ∀ e ∈ w, e.1 ≠ j) (c : Int) : F2 (w.map (shL j)) c = F2 w (if c < j then c else c + 1) := by
  induction w with
  | nil => rfl
  | cons e w ih =>
    have h1 := hj e (List.mem_cons_self ..)
    rw [List.map_cons, F2, F2, ih fun x hx => hj x (List.mem_cons_of_mem _ hx), F5e, G0i]
    congr 1
    by_cases h2 : j < e.1
    . rw [if_pos h2]
      by_cases h3 : c < j
      . rw [if_pos h3, if_neg (by omega), if_neg (by omega)]
      . rw [if_neg h3]
        by_cases h4 : e.1 - 1 = c
        . rw [if_pos h4, if_pos (by omega)]
        . rw [if_neg h4, if_neg (by omega)]
    . rw [if_neg h2]
      by_cases h3 : c < j
      . rw [if_pos h3]
      . rw [if_neg h3, if_neg (by omega), if_neg (by omega)]
theorem F5n {j : Int} {w : List Ent} (h : C5c w) (hj : ∀ e ∈ w, e.1 ≠ j) : C5c (w.map (shL j)) := by
  refine ⟨?_, fun e he => ?_⟩
  . unfold asc
    rw [List.pairwise_map]
    refine List.Pairwise.imp_of_mem ?_ h.1
    intro a b ha hb hab
    rw [F5e, F5e]
    have := hj a ha; have := hj b hb
    split <;> split <;> omega
  . obtain ⟨x, hx, rfl⟩ := List.mem_map.1 he
    rw [G0i]; exact h.2 x hx
theorem E3l {R C : Int} {D : List (List Ent)} {k : Nat} (hv : A6 (R, C, D)) (hl : G0f (R, C, D)) (hs : okM k (R, C, D)) (hk : 1 <= k) {v : List Ent} (hm : v ∈ D) (j : Int) : qs k (F2 v j) := D0d (hv.2.2.2.2.2 v hm).1 (hl v hm) (hs v hm) hk j
theorem F9c (a b c d : Rat) : a + -(b * d⁻¹) * c = a - b * c / d := by
  rw [Rat.div_def]; grind
theorem B9i (x : A7 N8.args) (hw : awf N8.args x) (hp : N8.pre x) : A3z x := by
  obtain ⟨⟨R, C, D⟩, I, J, _⟩ := x
  have hlm : G0f (R, C, D) := E2b hw.1.2.2.2
  change Int at R C I J
  change List (List Ent) at D
  have hs : okM K0 (R, C, D) := hp
  have hs1 : okM K1 (R, C, D) := E6b hs (by decide)
  simp only [A3z]
  refine ⟨trivial, ?_⟩
  rintro ⟨r, _⟩ _ hr
  simp only at hr ⊢
  simp only [Z6]
  by_cases hv : A6 (R, C, D)
  . have hr : r = true := by rw [hr]; exact decide_eq_true hv
    rw [hr]
    obtain ⟨v1, v2, v3, v4, _, _⟩ := id hv
    have v5 : (D.length : Int) = R := hv.2.2.2.2.1
    have v6 : ∀ v ∈ D, V5 v C := hv.2.2.2.2.2
    simp only at v1 v2 v3 v4
    refine ⟨fun h => (by cases h), fun _ => ⟨fun h => ?_, fun h => ?_⟩⟩
    . simp only [Bool.or_eq_true, decide_eq_true_eq] at h
      exact ⟨fun h2 => absurd hv h2, fun _ => ⟨fun _ => ⟨rfl, by trivial⟩, fun h2 => absurd h2 (by omega)⟩⟩
    . simp only [Bool.or_eq_false_iff, decide_eq_false_iff_not] at h
      have hin : 0 <= I /\ I < R /\ 0 <= J /\ J < C := by omega
      obtain ⟨i0, i1, j0, j1⟩ := hin
      have hmi := T6 (d := ([] : List Ent)) (l := D) i0 (by omega)
      rw [C5m (D := D) i0 (by omega)] at hmi ⊢
      have hpq := E3l hv hlm hs (by decide) hmi J
      have hpe : F2 (D.getD I.toNat []) J = el (R, C, D) I.toNat J.toNat := D6t _ _ j0
      refine ⟨⟨i0, by omega⟩, B8e hv hs1 hmi, ?_⟩
      rintro ⟨pq, _⟩ _ hpv
      simp only at hpv ⊢
      subst hpv
      refine ⟨C0w hpq (by decide), ?_⟩
      rintro ⟨inv, ok, _⟩ _ ⟨hi1, hi2⟩
      simp only [A5e] at hi1 hi2 ⊢
      rw [hpe] at hi1 hi2 hpq
      by_cases hz : el (R, C, D) I.toNat J.toNat = 0
      . rw [hi1 hz]
        exact ⟨fun _ => ⟨fun h2 => absurd hv h2, fun _ => ⟨fun h2 => absurd ⟨i0, i1, j0, j1⟩ h2, fun _ => ⟨fun _ => ⟨rfl, by trivial⟩, fun h2 => absurd hz h2⟩⟩⟩, fun h2 => (by cases h2)⟩
      . obtain ⟨hi3, hi4⟩ := hi2 hz
        rw [hi4]
        refine ⟨fun h2 => (by cases h2), fun _ => ?_⟩
        subst hi3
        rw [wr (a := R - 1) (by omega) (by omega), wr (a := C - 1) (by omega) (by omega)]
        let rowIx : Int -> Nat := fun k => if k <= I then k.toNat else (k - 1).toNat
        refine ⟨fun p => 0 <= p.1 /\ p.1 <= R /\ p.2.1 = R - 1 /\ p.2.2.1 = C - 1 /\ p.2.2.2.1.length = rowIx p.1 /\ ∀ t, t < p.2.2.2.1.length -> isV (C - 1).toNat (F4s (R, C, D) I.toNat J.toNat t) (p.2.2.2.1.getD t []), fun p => (R - p.1).toNat, ⟨Int.le_refl _, v1, rfl, rfl, by show 0 = rowIx 0; simp [rowIx], fun t ht => by simp at ht⟩, ?_⟩
        rintro ⟨k, a, b, rows, _⟩ _ ⟨k0, k1, ka, kb, kl, kf⟩
        change Int at k a b
        change List (List Ent) at rows
        simp only at k0 k1 ka kb kl kf ⊢
        subst ka kb
        have hrl : rows.length <= 16384 := by
          rw [kl]; simp only [rowIx]; split <;> omega
        refine ⟨fun h => ?_, fun h => ?_⟩
        . have h := of_decide_eq_true h
          have hmk := T6 (d := ([] : List Ent)) k0 h
          rw [C5m k0 h] at hmk ⊢
          have hkq := E3l hv hlm hs (by decide) hmk
          have hke : ∀ c : Nat, F2 (D.getD k.toNat []) (c : Int) = el (R, C, D) k.toNat c := fun _ => rfl
          have hkJ : F2 (D.getD k.toNat []) J = el (R, C, D) k.toNat J.toNat := D6t _ _ j0
          have hie : ∀ c : Nat, F2 (D.getD I.toNat []) (c : Int) = el (R, C, D) I.toNat c := fun _ => rfl
          have hok1 := B8e hv hs1 hmk
          have hok2 := B8e hv hs1 hmi
          have hvk := v6 _ hmk
          have hvi := v6 _ hmi
          refine ⟨fun p => p.1 = R - 1 /\ p.2.1 = C - 1 /\ p.2.2.1.length = rowIx (k + 1) /\ ∀ t, t < p.2.2.1.length -> isV (C - 1).toNat (F4s (R, C, D) I.toNat J.toNat t) (p.2.2.1.getD t []), ⟨⟨k0, h⟩, fun hk => ?_, fun hk => ?_⟩, ?_⟩
          . have hk := of_decide_eq_true hk
            refine ⟨rfl, rfl, ?_, kf⟩
            show rows.length = _
            rw [kl]; simp only [rowIx]; rw [if_pos (by omega), if_neg (by omega)]; omega
          . have hk := of_decide_eq_false hk
            have hq3 := G0k (C5e (hkq J) (F0t hpq))
            generalize hrk : D.getD k.toNat [] = rk at *
            generalize hri : D.getD I.toNat [] = ri' at *
            have S1 : sh3 (rc (F2 rk J)) := C0w (hkq J) (by decide)
            have S2 : sh3 (rc (el (R, C, D) I.toNat J.toNat)⁻¹) := C0w (F0t hpq) (by decide)
            have S3 : sh3 (rc (F2 rk J * (el (R, C, D) I.toNat J.toNat)⁻¹)) := C0w (C5e (hkq J) (F0t hpq)) (by decide)
            have S4 : 0 <= I /\ I < (D.length : Int) := ⟨i0, by omega⟩
            have S5 : okV K1 rk /\ sz K1 (rc (-(F2 rk J * (el (R, C, D) I.toNat J.toNat)⁻¹))) /\ okV K1 ri' := ⟨hok1, C1r hq3 (by decide), hok2⟩
            repeat' first
              | assumption
              | apply And.intro
              | (rintro ⟨q, _⟩ _ hq; simp only [A5e] at hq ⊢; subst hq; try simp only [A5e])
            all_goals
              rintro ⟨w, _⟩ ⟨⟨hwl, _⟩, _⟩ ⟨hw1, hw2⟩
              change List Ent at w
              simp only [A5e] at hw1 hw2 hwl ⊢
              have hwc : ∀ c : Int, F2 w c = F2 rk c - F2 rk J * F2 ri' c / el (R, C, D) I.toNat J.toNat := fun c => by rw [hw2, F9c]
              have hwj : ∀ e ∈ w, e.1 ≠ J := fun e he hej => by
                have h3 := B2w hw1.1 he
                rw [hej, hwc, hpe, Rat.mul_div_cancel hz, Rat.sub_self] at h3
                exact (hw1.2 e he).1 h3.symm
              have hwr : ∀ e ∈ w, 0 <= e.1 /\ e.1 < C := fun e he => Decidable.byContradiction fun hn => by
                have h3 := B2w hw1.1 he
                rw [hwc, B1r hvk hn, B1r hvi hn, Rat.mul_zero, Rat.div_def, Rat.zero_mul, Rat.sub_self] at h3
                exact (hw1.2 e he).1 h3.symm
              have hwlen : (w.length : Int) <= C := by
                have := D5w (v := w) (n := C) ⟨hw1.1, fun e he => ⟨(hwr e he).1, (hwr e he).2, (hw1.2 e he).1⟩⟩
                omega
              refine ⟨fun p => 0 <= p.2.1 /\ p.2.1 <= (w.length : Int) /\ p.1 = (w.take p.2.1.toNat).map (shL J), fun p => ((w.length : Int) - p.2.1).toNat, ⟨Int.le_refl _, Int.natCast_nonneg _, rfl⟩, ?_⟩
              rintro ⟨kept, t, _⟩ _ ⟨t0, t1, hkp⟩
              change List Ent at kept
              change Int at t
              simp only at t0 t1 hkp ⊢
              have hkl : kept.length <= 16384 := by rw [hkp, List.length_map, List.length_take]; omega
              refine ⟨fun ht => ?_, fun ht => ?_⟩
              . have ht := of_decide_eq_true ht
                have hem := T6 (d := dEE) t0 ht
                have her := hwr _ hem
                have hts : w.take (t + 1).toNat = w.take t.toNat ++ [gx dEE w t] := by
                  rw [show (t + 1).toNat = t.toNat + 1 from by omega, List.take_add_one, M7 (d := dEE) t0 ht]; rfl
                generalize gx dEE w t = e at *
                refine ⟨⟨t0, ht⟩, fun p => (p.1, (p.2.1, p.2.2.1), p.2.2.2.1) = shL J e, ⟨fun hc => ?_, fun hc => ?_⟩, ?_⟩
                . have hc := of_decide_eq_true hc
                  rw [wr (by omega) (by omega)]
                  unfold shL
                  rw [if_pos hc]
                . have hc := of_decide_eq_false hc
                  unfold shL
                  rw [if_neg hc]
                . rintro ⟨e1, e2, e3, e4, _⟩ _ he
                  simp only at he ⊢
                  rw [he, wr (by omega) (by omega)]
                  refine ⟨⟨by simp only [List.length_singleton]; omega, by simp only [List.length_singleton]; omega⟩, ⟨by omega, by omega, ?_⟩, by omega⟩
                  rw [hts, List.map_append, hkp]; rfl
              . have ht := of_decide_eq_false ht
                rw [G7 (by omega)] at hkp
                refine ⟨⟨by simp only [List.length_singleton]; omega, by simp only [List.length_singleton]; omega⟩, by trivial, by trivial, ?_, fun u hu => ?_⟩
                . show (rows ++ [kept]).length = _
                  rw [List.length_append, kl, List.length_singleton]; simp only [rowIx]
                  by_cases hkI : k <= I
                  . rw [if_pos hkI, if_pos (by omega)]; omega
                  . rw [if_neg hkI, if_neg (by omega)]; omega
                . have hu : u < (rows ++ [kept]).length := hu
                  show isV _ _ ((rows ++ [kept]).getD u [])
                  rw [List.length_append, List.length_singleton] at hu
                  rw [List.getD_eq_getElem?_getD]
                  by_cases hu2 : u < rows.length
                  . rw [List.getElem?_append_left hu2, <- List.getD_eq_getElem?_getD]; exact kf u hu2
                  . have hu3 : u = rows.length := by omega
                    subst hu3
                    rw [List.getElem?_append_right (Nat.le_refl _), Nat.sub_self]
                    show isV _ _ kept
                    have hr0 : (if rows.length < I.toNat then rows.length else rows.length + 1) = k.toNat := by
                      rw [kl]; simp only [rowIx]
                      by_cases hkI : k <= I
                      . rw [if_pos hkI, if_pos (by omega)]
                      . rw [if_neg hkI, if_neg (by omega)]; omega
                    rw [hkp]
                    refine ⟨F5n hw1 hwj, fun e he => ?_, fun c hc => ?_⟩
                    . obtain ⟨x, hx, rfl⟩ := List.mem_map.1 he
                      have := hwr x hx
                      have := hwj x hx
                      rw [F5e]
                      split <;> omega
                    . rw [F3i hwj, hwc]
                      unfold F4s
                      rw [hr0, hkJ]
                      by_cases hcJ : c < J.toNat
                      . rw [if_pos (by omega), if_pos hcJ, hke, hie]
                      . rw [if_neg (by omega), if_neg hcJ, show ((c : Int) + 1) = ((c + 1 : Nat) : Int) from by omega, hke, hie]
          . rintro ⟨a, b, rows2, _⟩ _ ⟨g1, g2, g3, g4⟩
            simp only at g1 g2 g3 g4 ⊢
            rw [wr (by omega) (by omega)]
            exact ⟨⟨by omega, by omega, g1, g2, g3, g4⟩, by omega⟩
        . have h := of_decide_eq_false h
          have hlen : rows.length = (R - 1).toNat := by rw [kl]; simp only [rowIx]; rw [if_neg (by omega)]; omega
          exact ⟨fun h2 => absurd hv h2, fun _ => ⟨fun h2 => absurd ⟨i0, i1, j0, j1⟩ h2, fun _ => ⟨fun h2 => absurd h2 hz, fun _ => ⟨⟨by show R - 1 = _; omega, by show C - 1 = _; omega, hlen, fun t ht => kf t (by omega)⟩, by trivial⟩⟩⟩⟩
  . have hr : r = false := by rw [hr]; exact decide_eq_false hv
    rw [hr]
    exact ⟨fun _ => ⟨fun _ => ⟨rfl, by trivial⟩, fun h => absurd h hv⟩, fun h => (by cases h)⟩
noncomputable def A7b : B6 := []
def A7m : An := {}
def B2h : An := { join := [(17, ⟨[5, 48, 49, 50], [1, 3], [(10, false, [.own tE 94])], [], []⟩)], loop := [(6, ⟨[3, 5, 7, 14, 15, 16, 25, 26], [0, 2], [(27, false, [.val (.int .i64)])], [], [(1, .map false (.int .i64) true tQ)]⟩), (3, ⟨[3, 5, 14, 15], [0], [(16, false, [.val (.int .i64)])], [], [(1, .map false (.int .i64) true tQ)]⟩), (13, ⟨[5, 48, 49], [1, 3], [(10, false, [.own tE 94]), (50, false, [.val (.int .i64)])], [], []⟩)], plan := [(8, [2, 5, 6, 8, 10], [13], true, (.p 0 (.p 1 (.q 2 (.p 3 (.p 4 (.q 5 (.q 6 (.p 7 (.q 8 (.p 9 (.q 10 (.e 11 (.e 12 (.e 13 .done)))))))))))))))] }
noncomputable def A2r : B6 := [(71, J1), (122, H4), (160, E2), (174, A4l (E3c 215 3)), (175, A4l (E2k ⟨Tryz.prog, tys⟩ [(47, A7b, A7m)] Tryz.f175.results.toList (Tryz.f175.body.getD .skip) Tryz.f175.ntmps))]
noncomputable def C6p : B6 := []
def C6m : An := {}
def D7q : An := { loop := [(7, ⟨[3, 4, 6, 30, 31], [1, 2, 5], [(32, false, [.val (.int .i64)])], [], [(4, .row (.sl tE) 92)]⟩)], plan := [(9, [1, 4], [7], true, (.p 0 (.q 1 (.p 2 (.p 3 (.q 4 (.e 5 (.p 6 (.e 7 .done)))))))))] }
noncomputable def B8h : B6 := [(85, F9), (125, E8), (110, A4l (E2k ⟨Tryz.prog, tys⟩ [(28, C6p, C6m)] Tryz.f110.results.toList (Tryz.f110.body.getD .skip) Tryz.f110.ntmps))]
noncomputable def A9x : B6 := []
def A9s : An := {}
def B6x : An := { loop := [(8, ⟨[2, 4, 5, 19, 20, 21, 26, 27], [1, 4], [(28, false, [.val (.int .i64)])], [], [(3, .rows tE 92 94)]⟩), (5, ⟨[2, 4, 19, 20], [1, 4], [(21, false, [.val (.int .i64)])], [], [(3, .rows tE 92 94)]⟩)], plan := [(10, [5, 7, 9, 12], [16, 18], false, (.p 0 (.p 2 (.p 4 (.q 5 (.p 6 (.q 7 (.p 8 (.q 9 (.p 10 (.p 11 (.q 12 (.or 1 (.or 3 (.e 13 (.p 14 (.e 15 (.e 16 (.p 17 (.e 18 .done)))))) (.e 13 (.p 14 (.or 3 (.e 15 (.e 16 (.p 17 (.e 18 .done)))) (.e 15 (.or 3 (.e 16 (.p 17 (.e 18 .done))) (.e 16 (.e 3 (.p 17 (.e 18 .done)))))))))) (.or 3 (.or 1 (.e 13 (.p 14 (.e 15 (.e 16 (.p 17 (.e 18 .done)))))) (.e 13 (.p 14 (.or 1 (.e 15 (.e 16 (.p 17 (.e 18 .done)))) (.e 15 (.or 1 (.e 16 (.p 17 (.e 18 .done))) (.e 16 (.e 1 (.p 17 (.e 18 .done)))))))))) (.e 13 (.p 14 (.or 1 (.or 3 (.e 15 (.e 16 (.p 17 (.e 18 .done)))) (.e 15 (.or 3 (.e 16 (.p 17 (.e 18 .done))) (.e 16 (.e 3 (.p 17 (.e 18 .done))))))) (.or 3 (.or 1 (.e 15 (.e 16 (.p 17 (.e 18 .done)))) (.e 15 (.or 1 (.e 16 (.p 17 (.e 18 .done))) (.e 16 (.e 1 (.p 17 (.e 18 .done))))))) (.e 15 (.or 1 (.or 3 (.e 16 (.p 17 (.e 18 .done))) (.e 16 (.e 3 (.p 17 (.e 18 .done))))) (.or 3 (.or 1 (.e 16 (.p 17 (.e 18 .done))) (.e 16 (.e 1 (.p 17 (.e 18 .done))))) (.e 16 (.or 1 (.e 3 (.p 17 (.e 18 .done))) (.e 3 (.e 1 (.p 17 (.e 18 .done)))))))))))))))))))))))))))] }
noncomputable def A5a : B6 := [(85, F9), (111, E1), (110, A4l (E2k ⟨Tryz.prog, F8e⟩ [(17, A9x, A9s)] Tryz.f110.results.toList (Tryz.f110.body.getD .skip) Tryz.f110.ntmps))]
noncomputable def B5g : B6 := []
def B7f : An := {}
def C6v : An := { loop := [(10, ⟨[1, 2, 3, 6, 9, 51, 52], [0, 1], [(53, false, [.val (.int .i64)])], [], [(2, .map false (.int .i64) false (.sl (.int .i64)))]⟩), (23, ⟨[3, 6, 9, 12, 13, 17, 72, 73, 74, 83, 84, 85, 92, 93], [0, 1, 2, 4, 5, 7], [(15, false, [.own tE 94]), (94, false, [.val (.int .i64)])], [], []⟩), (20, ⟨[3, 6, 9, 12, 13, 72, 73, 74, 83, 84], [0, 1, 2, 4, 5], [(15, false, [.own tE 94]), (85, false, [.val (.int .i64)])], [], []⟩), (16, ⟨[3, 6, 9, 12, 72, 73], [0, 1, 2, 5], [(74, false, [.val (.int .i64)])], [], [(4, .rows tE 92 94)]⟩)] }
noncomputable def A9k : B6 := [(85, F9), (106, A4l (F9p Tryz.prog [(false, .int .i64)] false .bool (.int .i64) (fun n x => decide (x.1 < 0 \/ n <= x.1)))), (108, C3), (109, H5), (111, E1), (112, A4l (E2q 113 tE 94 (fun a b => C7b a.1 b.1))), (110, A4l (E2k ⟨Tryz.prog, F8e⟩ [(71, B5g, B7f)] Tryz.f110.results.toList (Tryz.f110.body.getD .skip) Tryz.f110.ntmps))]
def B3v : An := {}
def A3o : B6 := []
def A1y : An := {}
def R5 : B6 := [(165, C6)]
def A3u : An := { loop := [(2, ⟨[0, 1, 7], [], [(8, false, [.val (.int .i64)])], [], []⟩)] }
def U4 : B6 := []
def V2 : A7 E8.args -> Prop := fun (x : List EE × MM × Unit) => ∃ (I : Int × List EE × Unit -> Prop), ∃ (μ : Int × List EE × Unit -> Nat), I ((0 : Int), [], ()) /\ ∀ (p : Int × List EE × Unit), G2 p.1 /\ (∀ (x : Int × (Bool × List Int) × List Int), x ∈ p.2.1 -> WfE x) /\ True -> I p -> (decide (p.1 < (x.1.length : Int)) = true -> (0 <= p.1 /\ p.1 < (x.1.length : Int)) /\ ((0 : Int) <= (gx dEE x.1 p.1).1 /\ (gx dEE x.1 p.1).1 < (x.2.1.2.2.length : Int)) /\ ∃ (I_1 : Int × List EE × Unit -> Prop), ∃ (μ_1 : Int × List EE × Unit -> Nat), I_1 ((0 : Int), p.2.1, ()) /\ ∀ (a : Int × List EE × Unit), G2 a.1 /\ (∀ (x : Int × (Bool × List Int) × List Int), x ∈ a.2.1 -> WfE x) /\ True -> I_1 a -> (decide (a.1 < (↑(gx [] x.2.1.2.2 (gx dEE x.1 p.1).1).length : Int)) = true -> (0 <= a.1 /\ a.1 < (↑(gx [] x.2.1.2.2 (gx dEE x.1 p.1).1).length : Int)) /\ (sh3 (gx dEE x.1 p.1).2 /\ sh3 (gx dEE (gx [] x.2.1.2.2 (gx dEE x.1 p.1).1) a.1).2) /\ ∀ (r : QQ × Unit), WfQ r.1 /\ True -> r.1 = rc (rv (gx dEE x.1 p.1).2 * rv (gx dEE (gx [] x.2.1.2.2 (gx dEE x.1 p.1).1) a.1).2) -> (sh3 ((J0 (Ty.int IntKind.i64) (gx dEE (gx [] x.2.1.2.2 (gx dEE x.1 p.1).1) a.1).1 a.2.1).getD dQ) /\ sh3 r.1) /\ ∀ (b : QQ × Unit), WfQ b.1 /\ True -> b.1 = rc (rv ((J0 (Ty.int IntKind.i64) (gx dEE (gx [] x.2.1.2.2 (gx dEE x.1 p.1).1) a.1).1 a.2.1).getD dQ) + rv r.1) -> I_1 (IntKind.i64.wrap (a.1 + 1), C3k (Ty.int IntKind.i64) (gx dEE (gx [] x.2.1.2.2 (gx dEE x.1 p.1).1) a.1).1 b.1 a.2.1, ()) /\ μ_1 (IntKind.i64.wrap (a.1 + 1), C3k (Ty.int IntKind.i64) (gx dEE (gx [] x.2.1.2.2 (gx dEE x.1 p.1).1) a.1).1 b.1 a.2.1, ()) < μ_1 a) /\ (decide (a.1 < (↑(gx [] x.2.1.2.2 (gx dEE x.1 p.1).1).length : Int)) = false -> I (IntKind.i64.wrap (p.1 + 1), a.2.1, ()) /\ μ (IntKind.i64.wrap (p.1 + 1), a.2.1, ()) < μ p)) /\ (decide (p.1 < (x.1.length : Int)) = false -> (List.length p.2.1 <= 100000 /\ (List.map (fun (x : Int × (Bool × List Int) × List Int) => x.1) p.2.1).Nodup) /\ ∀ (l : List Int), l.Perm (List.map (fun (x : Int × (Bool × List Int) × List Int) => x.1) p.2.1) -> List.Pairwise (fun (x1 x2 : Int) => x1 <= x2) l -> ∃ (I : List EE × Int × Unit -> Prop), ∃ (μ : List EE × Int × Unit -> Nat), I ([], (0 : Int), ()) /\ ∀ (a : List EE × Int × Unit), B8j a.1 /\ G2 a.2.1 /\ True -> I a -> (decide (a.2.1 < (↑l.length : Int)) = true -> ∃ (J : List EE × Unit -> Prop), ((0 <= a.2.1 /\ a.2.1 < (↑l.length : Int)) /\ True /\ ∀ (r : Int × Unit), G2 r.1 /\ True -> r.1 = (rv ((J0 (Ty.int IntKind.i64) (l.getD (Int.toNat a.2.1) (0 : Int)) p.2.1).getD dQ)).num.sign -> (decide (r.1 ≠ 0) = true -> ((List.length a.1 + [(l.getD (Int.toNat a.2.1) (0 : Int), (J0 (Ty.int IntKind.i64) (l.getD (Int.toNat a.2.1) (0 : Int)) p.2.1).getD dQ)].length) * (64 : Nat) <= (140737488355328 : Nat) /\ List.length a.1 + [(l.getD (Int.toNat a.2.1) (0 : Int), (J0 (Ty.int IntKind.i64) (l.getD (Int.toNat a.2.1) (0 : Int)) p.2.1).getD dQ)].length <= 9223372036854775807) /\ J (a.1 ++ [(l.getD (Int.toNat a.2.1) (0 : Int), (J0 (Ty.int IntKind.i64) (l.getD (Int.toNat a.2.1) (0 : Int)) p.2.1).getD dQ)], ())) /\ (decide (r.1 ≠ 0) = false -> J (a.1, ()))) /\ ∀ (p : List EE × Unit), B8j p.1 /\ True -> J p -> I (p.1, IntKind.i64.wrap (a.2.1 + 1), ()) /\ μ (p.1, IntKind.i64.wrap (a.2.1 + 1), ()) < μ a) /\ (decide (a.2.1 < (↑l.length : Int)) = false -> C5c a.1 /\ ∀ (i : Int), F2 a.1 i = A9e x.1 fun (k : Int) => F2 (x.2.1.2.2.getD k.toNat []) i))
theorem A6y (x : A7 E8.args) : K8 Tryz.prog tys A2r B2h E8 Tryz.f125 x = V2 x := by kernel_rfl
def A8c : A7 P4.args -> Prop := fun (x : MM × MM × Unit) => True /\ ∀ (r : Bool × Unit), True /\ True -> r.1 = decide (A6 x.1) -> ((!r.1) = false -> True) /\ ∀ (a : Bool × Unit), ((!r.1) = false -> (True /\ True) /\ a.1 = decide (A6 x.2.1)) -> ((sel (!r.1) true !a.1) = true -> (¬(A6 x.1 /\ A6 x.2.1) -> ((0 : Int), (0 : Int), []) = zm /\ (1 : Int) = (1 : Int)) /\ (A6 x.1 /\ A6 x.2.1 -> (x.1.2.1 ≠ x.2.1.1 -> ((0 : Int), (0 : Int), []) = zm /\ (1 : Int) = (4 : Int)) /\ (x.1.2.1 = x.2.1.1 -> isM x.1.1.toNat x.2.1.2.1.toNat (fun (i j : Nat) => A0h x.1.2.1.toNat fun (k : Nat) => el x.1 i k * el x.2.1 k j) ((0 : Int), (0 : Int), []) /\ (1 : Int) = (0 : Int)))) /\ ((sel (!r.1) true !a.1) = false -> (decide (x.1.2.1 ≠ x.2.1.1) = true -> (¬(A6 x.1 /\ A6 x.2.1) -> ((0 : Int), (0 : Int), []) = zm /\ (4 : Int) = (1 : Int)) /\ (A6 x.1 /\ A6 x.2.1 -> (x.1.2.1 ≠ x.2.1.1 -> ((0 : Int), (0 : Int), []) = zm /\ (4 : Int) = (4 : Int)) /\ (x.1.2.1 = x.2.1.1 -> isM x.1.1.toNat x.2.1.2.1.toNat (fun (i j : Nat) => A0h x.1.2.1.toNat fun (k : Nat) => el x.1 i k * el x.2.1 k j) ((0 : Int), (0 : Int), []) /\ (4 : Int) = (0 : Int)))) /\ (decide (x.1.2.1 ≠ x.2.1.1) = false -> (0 <= x.1.1 /\ x.1.1 <= x.1.1 /\ (↑(24 : Nat) : Int) * x.1.1 <= 281474976710656 /\ x.1.1 <= 9223372036854775807) /\ ∃ (I : Int × List (List EE) × Unit -> Prop), ∃ (μ : Int × List (List EE) × Unit -> Nat), I ((0 : Int), List.replicate (Int.toNat x.1.1) [], ()) /\ ∀ (p : Int × List (List EE) × Unit), G2 p.1 /\ F4z p.2.1 /\ True -> I p -> (decide (p.1 < (x.1.2.2.length : Int)) = true -> (0 <= p.1 /\ p.1 < (x.1.2.2.length : Int)) /\ (okV K0 (gx [] x.1.2.2 p.1) /\ okM K0 x.2.1 /\ A6 x.2.1 /\ V5 (gx [] x.1.2.2 p.1) x.2.1.1 /\ x.2.1.1 <= 1000) /\ ∀ (r : List EE × Unit), B8j r.1 /\ True -> isC (fun (j : Int) => A9e (gx [] x.1.2.2 p.1) fun (k : Int) => F2 (List.getD x.2.1.2.2 k.toNat []) j) r.1 -> (0 <= p.1 /\ p.1 < (p.2.1.length : Int)) /\ I (IntKind.i64.wrap (p.1 + 1), List.set p.2.1 (Int.toNat p.1) r.1, ()) /\ μ (IntKind.i64.wrap (p.1 + 1), List.set p.2.1 (Int.toNat p.1) r.1, ()) < μ p) /\ (decide (p.1 < (x.1.2.2.length : Int)) = false -> (¬(A6 x.1 /\ A6 x.2.1) -> (x.1.1, x.2.1.2.1, p.2.1) = zm /\ (0 : Int) = (1 : Int)) /\ (A6 x.1 /\ A6 x.2.1 -> (x.1.2.1 ≠ x.2.1.1 -> (x.1.1, x.2.1.2.1, p.2.1) = zm /\ (0 : Int) = (4 : Int)) /\ (x.1.2.1 = x.2.1.1 -> isM x.1.1.toNat x.2.1.2.1.toNat (fun (i j : Nat) => A0h x.1.2.1.toNat fun (k : Nat) => el x.1 i k * el x.2.1 k j) (x.1.1, x.2.1.2.1, p.2.1) /\ (0 : Int) = (0 : Int))))))
theorem C6n (x : A7 P4.args) : K8 Tryz.prog tys B8h D7q P4 Tryz.f55 x = A8c x := by kernel_rfl
def Y4 : A7 G9.args -> Prop := fun (x : MM × Unit) => True /\ ∀ (r : Bool × Unit), True /\ True -> r.1 = decide (A6 x.1) -> ((!r.1) = true -> (¬A6 x.1 -> ((0 : Int), (0 : Int), []) = zm /\ (1 : Int) = (1 : Int)) /\ (A6 x.1 -> isM x.1.2.1.toNat x.1.1.toNat (fun (i j : Nat) => el x.1 j i) ((0 : Int), (0 : Int), []) /\ (1 : Int) = (0 : Int))) /\ ((!r.1) = false -> (0 <= x.1.2.1 /\ x.1.2.1 <= x.1.2.1 /\ (↑(24 : Nat) : Int) * x.1.2.1 <= 281474976710656 /\ x.1.2.1 <= 9223372036854775807) /\ ∃ (I : Int × List (List EE) × Unit -> Prop), ∃ (μ : Int × List (List EE) × Unit -> Nat), I ((0 : Int), List.replicate (Int.toNat x.1.2.1) [], ()) /\ ∀ (p : Int × List (List EE) × Unit), G2 p.1 /\ F4z p.2.1 /\ True -> I p -> (decide (p.1 < (x.1.2.2.length : Int)) = true -> (0 <= p.1 /\ p.1 < (x.1.2.2.length : Int)) /\ ∃ (I_1 : Int × List (List EE) × Unit -> Prop), ∃ (μ_1 : Int × List (List EE) × Unit -> Nat), I_1 ((0 : Int), p.2.1, ()) /\ ∀ (a : Int × List (List EE) × Unit), G2 a.1 /\ F4z a.2.1 /\ True -> I_1 a -> (decide (a.1 < (↑(gx [] x.1.2.2 p.1).length : Int)) = true -> (0 <= a.1 /\ a.1 < (↑(gx [] x.1.2.2 p.1).length : Int)) /\ ((0 : Int) <= (gx dEE (gx [] x.1.2.2 p.1) a.1).1 /\ (gx dEE (gx [] x.1.2.2 p.1) a.1).1 < (a.2.1.length : Int)) /\ ((sh3 (gx dEE (gx [] x.1.2.2 p.1) a.1).2 /\ ∀ (r : QQ × Unit), WfQ r.1 /\ True -> r.1 = rc (rv (gx dEE (gx [] x.1.2.2 p.1) a.1).2) -> (((List.getD a.2.1 (Int.toNat (gx dEE (gx [] x.1.2.2 p.1) a.1).1) []).length + [(p.1, r.1)].length) * (64 : Nat) <= (140737488355328 : Nat) /\ (List.getD a.2.1 (Int.toNat (gx dEE (gx [] x.1.2.2 p.1) a.1).1) []).length + [(p.1, r.1)].length <= 9223372036854775807) /\ ((0 : Int) <= (gx dEE (gx [] x.1.2.2 p.1) a.1).1 /\ (gx dEE (gx [] x.1.2.2 p.1) a.1).1 < (a.2.1.length : Int)) /\ Int.toNat (gx dEE (gx [] x.1.2.2 p.1) a.1).1 = Int.toNat (gx dEE (gx [] x.1.2.2 p.1) a.1).1 /\ I_1 (IntKind.i64.wrap (a.1 + 1), List.set a.2.1 (Int.toNat (gx dEE (gx [] x.1.2.2 p.1) a.1).1) (List.getD a.2.1 (Int.toNat (gx dEE (gx [] x.1.2.2 p.1) a.1).1) [] ++ [(p.1, r.1)]), ()) /\ μ_1 (IntKind.i64.wrap (a.1 + 1), List.set a.2.1 (Int.toNat (gx dEE (gx [] x.1.2.2 p.1) a.1).1) (List.getD a.2.1 (Int.toNat (gx dEE (gx [] x.1.2.2 p.1) a.1).1) [] ++ [(p.1, r.1)]), ()) < μ_1 a) /\ sh3 (gx dEE (gx [] x.1.2.2 p.1) a.1).2 /\ ∀ (r : QQ × Unit), WfQ r.1 /\ True -> r.1 = rc (rv (gx dEE (gx [] x.1.2.2 p.1) a.1).2) -> ((((List.getD a.2.1 (Int.toNat (gx dEE (gx [] x.1.2.2 p.1) a.1).1) []).length + [(p.1, r.1)].length) * (64 : Nat) <= (140737488355328 : Nat) /\ (List.getD a.2.1 (Int.toNat (gx dEE (gx [] x.1.2.2 p.1) a.1).1) []).length + [(p.1, r.1)].length <= 9223372036854775807) /\ ((0 : Int) <= (gx dEE (gx [] x.1.2.2 p.1) a.1).1 /\ (gx dEE (gx [] x.1.2.2 p.1) a.1).1 < (a.2.1.length : Int)) /\ Int.toNat (gx dEE (gx [] x.1.2.2 p.1) a.1).1 = Int.toNat (gx dEE (gx [] x.1.2.2 p.1) a.1).1 /\ I_1 (IntKind.i64.wrap (a.1 + 1), List.set a.2.1 (Int.toNat (gx dEE (gx [] x.1.2.2 p.1) a.1).1) (List.getD a.2.1 (Int.toNat (gx dEE (gx [] x.1.2.2 p.1) a.1).1) [] ++ [(p.1, r.1)]), ()) /\ μ_1 (IntKind.i64.wrap (a.1 + 1), List.set a.2.1 (Int.toNat (gx dEE (gx [] x.1.2.2 p.1) a.1).1) (List.getD a.2.1 (Int.toNat (gx dEE (gx [] x.1.2.2 p.1) a.1).1) [] ++ [(p.1, r.1)]), ()) < μ_1 a) /\ ((((List.getD a.2.1 (Int.toNat (gx dEE (gx [] x.1.2.2 p.1) a.1).1) []).length + [(p.1, r.1)].length) * (64 : Nat) <= (140737488355328 : Nat) /\ (List.getD a.2.1 (Int.toNat (gx dEE (gx [] x.1.2.2 p.1) a.1).1) []).length + [(p.1, r.1)].length <= 9223372036854775807) /\ ((0 : Int) <= (gx dEE (gx [] x.1.2.2 p.1) a.1).1 /\ (gx dEE (gx [] x.1.2.2 p.1) a.1).1 < (a.2.1.length : Int)) /\ Int.toNat (gx dEE (gx [] x.1.2.2 p.1) a.1).1 = Int.toNat (gx dEE (gx [] x.1.2.2 p.1) a.1).1 /\ I_1 (IntKind.i64.wrap (a.1 + 1), List.set a.2.1 (Int.toNat (gx dEE (gx [] x.1.2.2 p.1) a.1).1) (List.getD a.2.1 (Int.toNat (gx dEE (gx [] x.1.2.2 p.1) a.1).1) [] ++ [(p.1, r.1)]), ()) /\ μ_1 (IntKind.i64.wrap (a.1 + 1), List.set a.2.1 (Int.toNat (gx dEE (gx [] x.1.2.2 p.1) a.1).1) (List.getD a.2.1 (Int.toNat (gx dEE (gx [] x.1.2.2 p.1) a.1).1) [] ++ [(p.1, r.1)]), ()) < μ_1 a) /\ (((List.getD a.2.1 (Int.toNat (gx dEE (gx [] x.1.2.2 p.1) a.1).1) []).length + [(p.1, r.1)].length) * (64 : Nat) <= (140737488355328 : Nat) /\ (List.getD a.2.1 (Int.toNat (gx dEE (gx [] x.1.2.2 p.1) a.1).1) []).length + [(p.1, r.1)].length <= 9223372036854775807) /\ ((0 : Int) <= (gx dEE (gx [] x.1.2.2 p.1) a.1).1 /\ (gx dEE (gx [] x.1.2.2 p.1) a.1).1 < (a.2.1.length : Int)) /\ Int.toNat (gx dEE (gx [] x.1.2.2 p.1) a.1).1 = Int.toNat (gx dEE (gx [] x.1.2.2 p.1) a.1).1 /\ I_1 (IntKind.i64.wrap (a.1 + 1), List.set a.2.1 (Int.toNat (gx dEE (gx [] x.1.2.2 p.1) a.1).1) (List.getD a.2.1 (Int.toNat (gx dEE (gx [] x.1.2.2 p.1) a.1).1) [] ++ [(p.1, r.1)]), ()) /\ μ_1 (IntKind.i64.wrap (a.1 + 1), List.set a.2.1 (Int.toNat (gx dEE (gx [] x.1.2.2 p.1) a.1).1) (List.getD a.2.1 (Int.toNat (gx dEE (gx [] x.1.2.2 p.1) a.1).1) [] ++ [(p.1, r.1)]), ()) < μ_1 a) /\ ((sh3 (gx dEE (gx [] x.1.2.2 p.1) a.1).2 /\ ∀ (r : QQ × Unit), WfQ r.1 /\ True -> r.1 = rc (rv (gx dEE (gx [] x.1.2.2 p.1) a.1).2) -> (((List.getD a.2.1 (Int.toNat (gx dEE (gx [] x.1.2.2 p.1) a.1).1) []).length + [(p.1, r.1)].length) * (64 : Nat) <= (140737488355328 : Nat) /\ (List.getD a.2.1 (Int.toNat (gx dEE (gx [] x.1.2.2 p.1) a.1).1) []).length + [(p.1, r.1)].length <= 9223372036854775807) /\ ((0 : Int) <= (gx dEE (gx [] x.1.2.2 p.1) a.1).1 /\ (gx dEE (gx [] x.1.2.2 p.1) a.1).1 < (a.2.1.length : Int)) /\ Int.toNat (gx dEE (gx [] x.1.2.2 p.1) a.1).1 = Int.toNat (gx dEE (gx [] x.1.2.2 p.1) a.1).1 /\ I_1 (IntKind.i64.wrap (a.1 + 1), List.set a.2.1 (Int.toNat (gx dEE (gx [] x.1.2.2 p.1) a.1).1) (List.getD a.2.1 (Int.toNat (gx dEE (gx [] x.1.2.2 p.1) a.1).1) [] ++ [(p.1, r.1)]), ()) /\ μ_1 (IntKind.i64.wrap (a.1 + 1), List.set a.2.1 (Int.toNat (gx dEE (gx [] x.1.2.2 p.1) a.1).1) (List.getD a.2.1 (Int.toNat (gx dEE (gx [] x.1.2.2 p.1) a.1).1) [] ++ [(p.1, r.1)]), ()) < μ_1 a) /\ sh3 (gx dEE (gx [] x.1.2.2 p.1) a.1).2 /\ ∀ (r : QQ × Unit), WfQ r.1 /\ True -> r.1 = rc (rv (gx dEE (gx [] x.1.2.2 p.1) a.1).2) -> ((((List.getD a.2.1 (Int.toNat (gx dEE (gx [] x.1.2.2 p.1) a.1).1) []).length + [(p.1, r.1)].length) * (64 : Nat) <= (140737488355328 : Nat) /\ (List.getD a.2.1 (Int.toNat (gx dEE (gx [] x.1.2.2 p.1) a.1).1) []).length + [(p.1, r.1)].length <= 9223372036854775807) /\ ((0 : Int) <= (gx dEE (gx [] x.1.2.2 p.1) a.1).1 /\ (gx dEE (gx [] x.1.2.2 p.1) a.1).1 < (a.2.1.length : Int)) /\ Int.toNat (gx dEE (gx [] x.1.2.2 p.1) a.1).1 = Int.toNat (gx dEE (gx [] x.1.2.2 p.1) a.1).1 /\ I_1 (IntKind.i64.wrap (a.1 + 1), List.set a.2.1 (Int.toNat (gx dEE (gx [] x.1.2.2 p.1) a.1).1) (List.getD a.2.1 (Int.toNat (gx dEE (gx [] x.1.2.2 p.1) a.1).1) [] ++ [(p.1, r.1)]), ()) /\ μ_1 (IntKind.i64.wrap (a.1 + 1), List.set a.2.1 (Int.toNat (gx dEE (gx [] x.1.2.2 p.1) a.1).1) (List.getD a.2.1 (Int.toNat (gx dEE (gx [] x.1.2.2 p.1) a.1).1) [] ++ [(p.1, r.1)]), ()) < μ_1 a) /\ ((((List.getD a.2.1 (Int.toNat (gx dEE (gx [] x.1.2.2 p.1) a.1).1) []).length + [(p.1, r.1)].length) * (64 : Nat) <= (140737488355328 : Nat) /\ (List.getD a.2.1 (Int.toNat (gx dEE (gx [] x.1.2.2 p.1) a.1).1) []).length + [(p.1, r.1)].length <= 9223372036854775807) /\ ((0 : Int) <= (gx dEE (gx [] x.1.2.2 p.1) a.1).1 /\ (gx dEE (gx [] x.1.2.2 p.1) a.1).1 < (a.2.1.length : Int)) /\ Int.toNat (gx dEE (gx [] x.1.2.2 p.1) a.1).1 = Int.toNat (gx dEE (gx [] x.1.2.2 p.1) a.1).1 /\ I_1 (IntKind.i64.wrap (a.1 + 1), List.set a.2.1 (Int.toNat (gx dEE (gx [] x.1.2.2 p.1) a.1).1) (List.getD a.2.1 (Int.toNat (gx dEE (gx [] x.1.2.2 p.1) a.1).1) [] ++ [(p.1, r.1)]), ()) /\ μ_1 (IntKind.i64.wrap (a.1 + 1), List.set a.2.1 (Int.toNat (gx dEE (gx [] x.1.2.2 p.1) a.1).1) (List.getD a.2.1 (Int.toNat (gx dEE (gx [] x.1.2.2 p.1) a.1).1) [] ++ [(p.1, r.1)]), ()) < μ_1 a) /\ (((List.getD a.2.1 (Int.toNat (gx dEE (gx [] x.1.2.2 p.1) a.1).1) []).length + [(p.1, r.1)].length) * (64 : Nat) <= (140737488355328 : Nat) /\ (List.getD a.2.1 (Int.toNat (gx dEE (gx [] x.1.2.2 p.1) a.1).1) []).length + [(p.1, r.1)].length <= 9223372036854775807) /\ ((0 : Int) <= (gx dEE (gx [] x.1.2.2 p.1) a.1).1 /\ (gx dEE (gx [] x.1.2.2 p.1) a.1).1 < (a.2.1.length : Int)) /\ Int.toNat (gx dEE (gx [] x.1.2.2 p.1) a.1).1 = Int.toNat (gx dEE (gx [] x.1.2.2 p.1) a.1).1 /\ I_1 (IntKind.i64.wrap (a.1 + 1), List.set a.2.1 (Int.toNat (gx dEE (gx [] x.1.2.2 p.1) a.1).1) (List.getD a.2.1 (Int.toNat (gx dEE (gx [] x.1.2.2 p.1) a.1).1) [] ++ [(p.1, r.1)]), ()) /\ μ_1 (IntKind.i64.wrap (a.1 + 1), List.set a.2.1 (Int.toNat (gx dEE (gx [] x.1.2.2 p.1) a.1).1) (List.getD a.2.1 (Int.toNat (gx dEE (gx [] x.1.2.2 p.1) a.1).1) [] ++ [(p.1, r.1)]), ()) < μ_1 a) /\ sh3 (gx dEE (gx [] x.1.2.2 p.1) a.1).2 /\ ∀ (r : QQ × Unit), WfQ r.1 /\ True -> r.1 = rc (rv (gx dEE (gx [] x.1.2.2 p.1) a.1).2) -> (((((List.getD a.2.1 (Int.toNat (gx dEE (gx [] x.1.2.2 p.1) a.1).1) []).length + [(p.1, r.1)].length) * (64 : Nat) <= (140737488355328 : Nat) /\ (List.getD a.2.1 (Int.toNat (gx dEE (gx [] x.1.2.2 p.1) a.1).1) []).length + [(p.1, r.1)].length <= 9223372036854775807) /\ ((0 : Int) <= (gx dEE (gx [] x.1.2.2 p.1) a.1).1 /\ (gx dEE (gx [] x.1.2.2 p.1) a.1).1 < (a.2.1.length : Int)) /\ Int.toNat (gx dEE (gx [] x.1.2.2 p.1) a.1).1 = Int.toNat (gx dEE (gx [] x.1.2.2 p.1) a.1).1 /\ I_1 (IntKind.i64.wrap (a.1 + 1), List.set a.2.1 (Int.toNat (gx dEE (gx [] x.1.2.2 p.1) a.1).1) (List.getD a.2.1 (Int.toNat (gx dEE (gx [] x.1.2.2 p.1) a.1).1) [] ++ [(p.1, r.1)]), ()) /\ μ_1 (IntKind.i64.wrap (a.1 + 1), List.set a.2.1 (Int.toNat (gx dEE (gx [] x.1.2.2 p.1) a.1).1) (List.getD a.2.1 (Int.toNat (gx dEE (gx [] x.1.2.2 p.1) a.1).1) [] ++ [(p.1, r.1)]), ()) < μ_1 a) /\ ((((List.getD a.2.1 (Int.toNat (gx dEE (gx [] x.1.2.2 p.1) a.1).1) []).length + [(p.1, r.1)].length) * (64 : Nat) <= (140737488355328 : Nat) /\ (List.getD a.2.1 (Int.toNat (gx dEE (gx [] x.1.2.2 p.1) a.1).1) []).length + [(p.1, r.1)].length <= 9223372036854775807) /\ ((0 : Int) <= (gx dEE (gx [] x.1.2.2 p.1) a.1).1 /\ (gx dEE (gx [] x.1.2.2 p.1) a.1).1 < (a.2.1.length : Int)) /\ Int.toNat (gx dEE (gx [] x.1.2.2 p.1) a.1).1 = Int.toNat (gx dEE (gx [] x.1.2.2 p.1) a.1).1 /\ I_1 (IntKind.i64.wrap (a.1 + 1), List.set a.2.1 (Int.toNat (gx dEE (gx [] x.1.2.2 p.1) a.1).1) (List.getD a.2.1 (Int.toNat (gx dEE (gx [] x.1.2.2 p.1) a.1).1) [] ++ [(p.1, r.1)]), ()) /\ μ_1 (IntKind.i64.wrap (a.1 + 1), List.set a.2.1 (Int.toNat (gx dEE (gx [] x.1.2.2 p.1) a.1).1) (List.getD a.2.1 (Int.toNat (gx dEE (gx [] x.1.2.2 p.1) a.1).1) [] ++ [(p.1, r.1)]), ()) < μ_1 a) /\ (((List.getD a.2.1 (Int.toNat (gx dEE (gx [] x.1.2.2 p.1) a.1).1) []).length + [(p.1, r.1)].length) * (64 : Nat) <= (140737488355328 : Nat) /\ (List.getD a.2.1 (Int.toNat (gx dEE (gx [] x.1.2.2 p.1) a.1).1) []).length + [(p.1, r.1)].length <= 9223372036854775807) /\ ((0 : Int) <= (gx dEE (gx [] x.1.2.2 p.1) a.1).1 /\ (gx dEE (gx [] x.1.2.2 p.1) a.1).1 < (a.2.1.length : Int)) /\ Int.toNat (gx dEE (gx [] x.1.2.2 p.1) a.1).1 = Int.toNat (gx dEE (gx [] x.1.2.2 p.1) a.1).1 /\ I_1 (IntKind.i64.wrap (a.1 + 1), List.set a.2.1 (Int.toNat (gx dEE (gx [] x.1.2.2 p.1) a.1).1) (List.getD a.2.1 (Int.toNat (gx dEE (gx [] x.1.2.2 p.1) a.1).1) [] ++ [(p.1, r.1)]), ()) /\ μ_1 (IntKind.i64.wrap (a.1 + 1), List.set a.2.1 (Int.toNat (gx dEE (gx [] x.1.2.2 p.1) a.1).1) (List.getD a.2.1 (Int.toNat (gx dEE (gx [] x.1.2.2 p.1) a.1).1) [] ++ [(p.1, r.1)]), ()) < μ_1 a) /\ (((((List.getD a.2.1 (Int.toNat (gx dEE (gx [] x.1.2.2 p.1) a.1).1) []).length + [(p.1, r.1)].length) * (64 : Nat) <= (140737488355328 : Nat) /\ (List.getD a.2.1 (Int.toNat (gx dEE (gx [] x.1.2.2 p.1) a.1).1) []).length + [(p.1, r.1)].length <= 9223372036854775807) /\ ((0 : Int) <= (gx dEE (gx [] x.1.2.2 p.1) a.1).1 /\ (gx dEE (gx [] x.1.2.2 p.1) a.1).1 < (a.2.1.length : Int)) /\ Int.toNat (gx dEE (gx [] x.1.2.2 p.1) a.1).1 = Int.toNat (gx dEE (gx [] x.1.2.2 p.1) a.1).1 /\ I_1 (IntKind.i64.wrap (a.1 + 1), List.set a.2.1 (Int.toNat (gx dEE (gx [] x.1.2.2 p.1) a.1).1) (List.getD a.2.1 (Int.toNat (gx dEE (gx [] x.1.2.2 p.1) a.1).1) [] ++ [(p.1, r.1)]), ()) /\ μ_1 (IntKind.i64.wrap (a.1 + 1), List.set a.2.1 (Int.toNat (gx dEE (gx [] x.1.2.2 p.1) a.1).1) (List.getD a.2.1 (Int.toNat (gx dEE (gx [] x.1.2.2 p.1) a.1).1) [] ++ [(p.1, r.1)]), ()) < μ_1 a) /\ ((((List.getD a.2.1 (Int.toNat (gx dEE (gx [] x.1.2.2 p.1) a.1).1) []).length + [(p.1, r.1)].length) * (64 : Nat) <= (140737488355328 : Nat) /\ (List.getD a.2.1 (Int.toNat (gx dEE (gx [] x.1.2.2 p.1) a.1).1) []).length + [(p.1, r.1)].length <= 9223372036854775807) /\ ((0 : Int) <= (gx dEE (gx [] x.1.2.2 p.1) a.1).1 /\ (gx dEE (gx [] x.1.2.2 p.1) a.1).1 < (a.2.1.length : Int)) /\ Int.toNat (gx dEE (gx [] x.1.2.2 p.1) a.1).1 = Int.toNat (gx dEE (gx [] x.1.2.2 p.1) a.1).1 /\ I_1 (IntKind.i64.wrap (a.1 + 1), List.set a.2.1 (Int.toNat (gx dEE (gx [] x.1.2.2 p.1) a.1).1) (List.getD a.2.1 (Int.toNat (gx dEE (gx [] x.1.2.2 p.1) a.1).1) [] ++ [(p.1, r.1)]), ()) /\ μ_1 (IntKind.i64.wrap (a.1 + 1), List.set a.2.1 (Int.toNat (gx dEE (gx [] x.1.2.2 p.1) a.1).1) (List.getD a.2.1 (Int.toNat (gx dEE (gx [] x.1.2.2 p.1) a.1).1) [] ++ [(p.1, r.1)]), ()) < μ_1 a) /\ (((List.getD a.2.1 (Int.toNat (gx dEE (gx [] x.1.2.2 p.1) a.1).1) []).length + [(p.1, r.1)].length) * (64 : Nat) <= (140737488355328 : Nat) /\ (List.getD a.2.1 (Int.toNat (gx dEE (gx [] x.1.2.2 p.1) a.1).1) []).length + [(p.1, r.1)].length <= 9223372036854775807) /\ ((0 : Int) <= (gx dEE (gx [] x.1.2.2 p.1) a.1).1 /\ (gx dEE (gx [] x.1.2.2 p.1) a.1).1 < (a.2.1.length : Int)) /\ Int.toNat (gx dEE (gx [] x.1.2.2 p.1) a.1).1 = Int.toNat (gx dEE (gx [] x.1.2.2 p.1) a.1).1 /\ I_1 (IntKind.i64.wrap (a.1 + 1), List.set a.2.1 (Int.toNat (gx dEE (gx [] x.1.2.2 p.1) a.1).1) (List.getD a.2.1 (Int.toNat (gx dEE (gx [] x.1.2.2 p.1) a.1).1) [] ++ [(p.1, r.1)]), ()) /\ μ_1 (IntKind.i64.wrap (a.1 + 1), List.set a.2.1 (Int.toNat (gx dEE (gx [] x.1.2.2 p.1) a.1).1) (List.getD a.2.1 (Int.toNat (gx dEE (gx [] x.1.2.2 p.1) a.1).1) [] ++ [(p.1, r.1)]), ()) < μ_1 a) /\ (((((List.getD a.2.1 (Int.toNat (gx dEE (gx [] x.1.2.2 p.1) a.1).1) []).length + [(p.1, r.1)].length) * (64 : Nat) <= (140737488355328 : Nat) /\ (List.getD a.2.1 (Int.toNat (gx dEE (gx [] x.1.2.2 p.1) a.1).1) []).length + [(p.1, r.1)].length <= 9223372036854775807) /\ ((0 : Int) <= (gx dEE (gx [] x.1.2.2 p.1) a.1).1 /\ (gx dEE (gx [] x.1.2.2 p.1) a.1).1 < (a.2.1.length : Int)) /\ Int.toNat (gx dEE (gx [] x.1.2.2 p.1) a.1).1 = Int.toNat (gx dEE (gx [] x.1.2.2 p.1) a.1).1 /\ I_1 (IntKind.i64.wrap (a.1 + 1), List.set a.2.1 (Int.toNat (gx dEE (gx [] x.1.2.2 p.1) a.1).1) (List.getD a.2.1 (Int.toNat (gx dEE (gx [] x.1.2.2 p.1) a.1).1) [] ++ [(p.1, r.1)]), ()) /\ μ_1 (IntKind.i64.wrap (a.1 + 1), List.set a.2.1 (Int.toNat (gx dEE (gx [] x.1.2.2 p.1) a.1).1) (List.getD a.2.1 (Int.toNat (gx dEE (gx [] x.1.2.2 p.1) a.1).1) [] ++ [(p.1, r.1)]), ()) < μ_1 a) /\ (((List.getD a.2.1 (Int.toNat (gx dEE (gx [] x.1.2.2 p.1) a.1).1) []).length + [(p.1, r.1)].length) * (64 : Nat) <= (140737488355328 : Nat) /\ (List.getD a.2.1 (Int.toNat (gx dEE (gx [] x.1.2.2 p.1) a.1).1) []).length + [(p.1, r.1)].length <= 9223372036854775807) /\ ((0 : Int) <= (gx dEE (gx [] x.1.2.2 p.1) a.1).1 /\ (gx dEE (gx [] x.1.2.2 p.1) a.1).1 < (a.2.1.length : Int)) /\ Int.toNat (gx dEE (gx [] x.1.2.2 p.1) a.1).1 = Int.toNat (gx dEE (gx [] x.1.2.2 p.1) a.1).1 /\ I_1 (IntKind.i64.wrap (a.1 + 1), List.set a.2.1 (Int.toNat (gx dEE (gx [] x.1.2.2 p.1) a.1).1) (List.getD a.2.1 (Int.toNat (gx dEE (gx [] x.1.2.2 p.1) a.1).1) [] ++ [(p.1, r.1)]), ()) /\ μ_1 (IntKind.i64.wrap (a.1 + 1), List.set a.2.1 (Int.toNat (gx dEE (gx [] x.1.2.2 p.1) a.1).1) (List.getD a.2.1 (Int.toNat (gx dEE (gx [] x.1.2.2 p.1) a.1).1) [] ++ [(p.1, r.1)]), ()) < μ_1 a) /\ (((((List.getD a.2.1 (Int.toNat (gx dEE (gx [] x.1.2.2 p.1) a.1).1) []).length + [(p.1, r.1)].length) * (64 : Nat) <= (140737488355328 : Nat) /\ (List.getD a.2.1 (Int.toNat (gx dEE (gx [] x.1.2.2 p.1) a.1).1) []).length + [(p.1, r.1)].length <= 9223372036854775807) /\ ((0 : Int) <= (gx dEE (gx [] x.1.2.2 p.1) a.1).1 /\ (gx dEE (gx [] x.1.2.2 p.1) a.1).1 < (a.2.1.length : Int)) /\ Int.toNat (gx dEE (gx [] x.1.2.2 p.1) a.1).1 = Int.toNat (gx dEE (gx [] x.1.2.2 p.1) a.1).1 /\ I_1 (IntKind.i64.wrap (a.1 + 1), List.set a.2.1 (Int.toNat (gx dEE (gx [] x.1.2.2 p.1) a.1).1) (List.getD a.2.1 (Int.toNat (gx dEE (gx [] x.1.2.2 p.1) a.1).1) [] ++ [(p.1, r.1)]), ()) /\ μ_1 (IntKind.i64.wrap (a.1 + 1), List.set a.2.1 (Int.toNat (gx dEE (gx [] x.1.2.2 p.1) a.1).1) (List.getD a.2.1 (Int.toNat (gx dEE (gx [] x.1.2.2 p.1) a.1).1) [] ++ [(p.1, r.1)]), ()) < μ_1 a) /\ (((List.getD a.2.1 (Int.toNat (gx dEE (gx [] x.1.2.2 p.1) a.1).1) []).length + [(p.1, r.1)].length) * (64 : Nat) <= (140737488355328 : Nat) /\ (List.getD a.2.1 (Int.toNat (gx dEE (gx [] x.1.2.2 p.1) a.1).1) []).length + [(p.1, r.1)].length <= 9223372036854775807) /\ ((0 : Int) <= (gx dEE (gx [] x.1.2.2 p.1) a.1).1 /\ (gx dEE (gx [] x.1.2.2 p.1) a.1).1 < (a.2.1.length : Int)) /\ Int.toNat (gx dEE (gx [] x.1.2.2 p.1) a.1).1 = Int.toNat (gx dEE (gx [] x.1.2.2 p.1) a.1).1 /\ I_1 (IntKind.i64.wrap (a.1 + 1), List.set a.2.1 (Int.toNat (gx dEE (gx [] x.1.2.2 p.1) a.1).1) (List.getD a.2.1 (Int.toNat (gx dEE (gx [] x.1.2.2 p.1) a.1).1) [] ++ [(p.1, r.1)]), ()) /\ μ_1 (IntKind.i64.wrap (a.1 + 1), List.set a.2.1 (Int.toNat (gx dEE (gx [] x.1.2.2 p.1) a.1).1) (List.getD a.2.1 (Int.toNat (gx dEE (gx [] x.1.2.2 p.1) a.1).1) [] ++ [(p.1, r.1)]), ()) < μ_1 a) /\ (((List.getD a.2.1 (Int.toNat (gx dEE (gx [] x.1.2.2 p.1) a.1).1) []).length + [(p.1, r.1)].length) * (64 : Nat) <= (140737488355328 : Nat) /\ (List.getD a.2.1 (Int.toNat (gx dEE (gx [] x.1.2.2 p.1) a.1).1) []).length + [(p.1, r.1)].length <= 9223372036854775807) /\ (((0 : Int) <= (gx dEE (gx [] x.1.2.2 p.1) a.1).1 /\ (gx dEE (gx [] x.1.2.2 p.1) a.1).1 < (a.2.1.length : Int)) /\ Int.toNat (gx dEE (gx [] x.1.2.2 p.1) a.1).1 = Int.toNat (gx dEE (gx [] x.1.2.2 p.1) a.1).1 /\ I_1 (IntKind.i64.wrap (a.1 + 1), List.set a.2.1 (Int.toNat (gx dEE (gx [] x.1.2.2 p.1) a.1).1) (List.getD a.2.1 (Int.toNat (gx dEE (gx [] x.1.2.2 p.1) a.1).1) [] ++ [(p.1, r.1)]), ()) /\ μ_1 (IntKind.i64.wrap (a.1 + 1), List.set a.2.1 (Int.toNat (gx dEE (gx [] x.1.2.2 p.1) a.1).1) (List.getD a.2.1 (Int.toNat (gx dEE (gx [] x.1.2.2 p.1) a.1).1) [] ++ [(p.1, r.1)]), ()) < μ_1 a) /\ ((0 : Int) <= (gx dEE (gx [] x.1.2.2 p.1) a.1).1 /\ (gx dEE (gx [] x.1.2.2 p.1) a.1).1 < (a.2.1.length : Int)) /\ Int.toNat (gx dEE (gx [] x.1.2.2 p.1) a.1).1 = Int.toNat (gx dEE (gx [] x.1.2.2 p.1) a.1).1 /\ I_1 (IntKind.i64.wrap (a.1 + 1), List.set a.2.1 (Int.toNat (gx dEE (gx [] x.1.2.2 p.1) a.1).1) (List.getD a.2.1 (Int.toNat (gx dEE (gx [] x.1.2.2 p.1) a.1).1) [] ++ [(p.1, r.1)]), ()) /\ μ_1 (IntKind.i64.wrap (a.1 + 1), List.set a.2.1 (Int.toNat (gx dEE (gx [] x.1.2.2 p.1) a.1).1) (List.getD a.2.1 (Int.toNat (gx dEE (gx [] x.1.2.2 p.1) a.1).1) [] ++ [(p.1, r.1)]), ()) < μ_1 a) /\ (decide (a.1 < (↑(gx [] x.1.2.2 p.1).length : Int)) = false -> I (IntKind.i64.wrap (p.1 + 1), a.2.1, ()) /\ μ (IntKind.i64.wrap (p.1 + 1), a.2.1, ()) < μ p)) /\ (decide (p.1 < (x.1.2.2.length : Int)) = false -> (¬A6 x.1 -> (x.1.2.1, x.1.1, p.2.1) = zm /\ (0 : Int) = (1 : Int)) /\ (A6 x.1 -> isM x.1.2.1.toNat x.1.1.toNat (fun (i j : Nat) => el x.1 j i) (x.1.2.1, x.1.1, p.2.1) /\ (0 : Int) = (0 : Int))))
theorem B0g (x : A7 G9.args) : K8 Tryz.prog F8e A5a B6x G9 Tryz.f56 x = Y4 x := by kernel_rfl
def A3g : A7 L8.args -> Prop := fun (x : MM × List Int × List Int × Unit) => True /\ ∀ (r : Bool × Unit), True /\ True -> r.1 = decide (A6 x.1) -> ((!r.1) = true -> (¬A6 x.1 -> ((0 : Int), (0 : Int), []) = zm /\ (1 : Int) = (1 : Int)) /\ (A6 x.1 -> (((∃ (i : Int), i ∈ x.2.1 /\ (i < (0 : Int) \/ x.1.1 <= i)) \/ ∃ (i : Int), i ∈ x.2.2.1 /\ (i < (0 : Int) \/ x.1.2.1 <= i)) -> ((0 : Int), (0 : Int), []) = zm /\ (1 : Int) = (3 : Int)) /\ (¬((∃ (i : Int), i ∈ x.2.1 /\ (i < (0 : Int) \/ x.1.1 <= i)) \/ ∃ (i : Int), i ∈ x.2.2.1 /\ (i < (0 : Int) \/ x.1.2.1 <= i)) -> (16384 < x.2.1.length \/ 16384 < x.2.2.1.length -> ((0 : Int), (0 : Int), []) = zm /\ (1 : Int) = (8 : Int)) /\ (x.2.1.length <= (16384 : Nat) /\ x.2.2.1.length <= (16384 : Nat) -> isM x.2.1.length x.2.2.1.length (fun (i j : Nat) => el x.1 (x.2.1.getD i (0 : Int)).toNat (x.2.2.1.getD j (0 : Int)).toNat) ((0 : Int), (0 : Int), []) /\ (1 : Int) = (0 : Int))))) /\ ((!r.1) = false -> Go.Proofs.Tryz.prog = Go.Proofs.Tryz.prog /\ false = false /\ (∀ (i : Int), i ∈ x.2.1 -> (fun (x : Int × Unit) => True, fun (z : Int × Unit) => decide (z.1 < (0 : (Ty.int IntKind.i64).den) \/ x.1.1 <= z.1)).1 (i, ())) /\ ∀ (f : Bool × Unit), True /\ True -> f.1 = decide (∃ (i : Int), i ∈ x.2.1 /\ (fun (x : Int × Unit) => True, fun (z : Int × Unit) => decide (z.1 < (0 : (Ty.int IntKind.i64).den) \/ x.1.1 <= z.1)).2 (i, ()) = true) -> Go.Proofs.Tryz.prog = Go.Proofs.Tryz.prog /\ false = false /\ (f.1 = false -> ∀ (i : Int), i ∈ x.2.2.1 -> (fun (x : Int × Unit) => True, fun (z : Int × Unit) => decide (z.1 < (0 : (Ty.int IntKind.i64).den) \/ x.1.2.1 <= z.1)).1 (i, ())) /\ ∀ (h : Bool × Unit), (f.1 = false -> (True /\ True) /\ h.1 = decide (∃ (i : Int), i ∈ x.2.2.1 /\ (fun (x : Int × Unit) => True, fun (z : Int × Unit) => decide (z.1 < (0 : (Ty.int IntKind.i64).den) \/ x.1.2.1 <= z.1)).2 (i, ()) = true)) -> (sel f.1 true h.1 = true -> (¬A6 x.1 -> ((0 : Int), (0 : Int), []) = zm /\ (3 : Int) = (1 : Int)) /\ (A6 x.1 -> (((∃ (i : Int), i ∈ x.2.1 /\ (i < (0 : Int) \/ x.1.1 <= i)) \/ ∃ (i : Int), i ∈ x.2.2.1 /\ (i < (0 : Int) \/ x.1.2.1 <= i)) -> ((0 : Int), (0 : Int), []) = zm /\ (3 : Int) = (3 : Int)) /\ (¬((∃ (i : Int), i ∈ x.2.1 /\ (i < (0 : Int) \/ x.1.1 <= i)) \/ ∃ (i : Int), i ∈ x.2.2.1 /\ (i < (0 : Int) \/ x.1.2.1 <= i)) -> (16384 < x.2.1.length \/ 16384 < x.2.2.1.length -> ((0 : Int), (0 : Int), []) = zm /\ (3 : Int) = (8 : Int)) /\ (x.2.1.length <= (16384 : Nat) /\ x.2.2.1.length <= (16384 : Nat) -> isM x.2.1.length x.2.2.1.length (fun (i j : Nat) => el x.1 (x.2.1.getD i (0 : Int)).toNat (x.2.2.1.getD j (0 : Int)).toNat) ((0 : Int), (0 : Int), []) /\ (3 : Int) = (0 : Int))))) /\ (sel f.1 true h.1 = false -> True /\ ∀ (g : Bool × Unit), True /\ True -> g.1 = decide ((0 : Int) <= (x.2.1.length : Int) /\ (x.2.1.length : Int) <= (16384 : Int)) -> ((!g.1) = false -> True) /\ ∀ (k : Bool × Unit), ((!g.1) = false -> (True /\ True) /\ k.1 = decide ((0 : Int) <= (x.2.2.1.length : Int) /\ (x.2.2.1.length : Int) <= (16384 : Int))) -> ((sel (!g.1) true !k.1) = true -> (¬A6 x.1 -> ((0 : Int), (0 : Int), []) = zm /\ (8 : Int) = (1 : Int)) /\ (A6 x.1 -> (((∃ (i : Int), i ∈ x.2.1 /\ (i < (0 : Int) \/ x.1.1 <= i)) \/ ∃ (i : Int), i ∈ x.2.2.1 /\ (i < (0 : Int) \/ x.1.2.1 <= i)) -> ((0 : Int), (0 : Int), []) = zm /\ (8 : Int) = (3 : Int)) /\ (¬((∃ (i : Int), i ∈ x.2.1 /\ (i < (0 : Int) \/ x.1.1 <= i)) \/ ∃ (i : Int), i ∈ x.2.2.1 /\ (i < (0 : Int) \/ x.1.2.1 <= i)) -> (16384 < x.2.1.length \/ 16384 < x.2.2.1.length -> ((0 : Int), (0 : Int), []) = zm /\ (8 : Int) = (8 : Int)) /\ (x.2.1.length <= (16384 : Nat) /\ x.2.2.1.length <= (16384 : Nat) -> isM x.2.1.length x.2.2.1.length (fun (i j : Nat) => el x.1 (x.2.1.getD i (0 : Int)).toNat (x.2.2.1.getD j (0 : Int)).toNat) ((0 : Int), (0 : Int), []) /\ (8 : Int) = (0 : Int))))) /\ ((sel (!g.1) true !k.1) = false -> ∃ (I : Int × List (Int × List Int) × Unit -> Prop), ∃ (μ : Int × List (Int × List Int) × Unit -> Nat), I ((0 : Int), [], ()) /\ ∀ (p : Int × List (Int × List Int) × Unit), G2 p.1 /\ (∀ (x : Int × List Int), x ∈ p.2.1 -> G2 x.1 /\ WfI x.2) /\ True -> I p -> (decide (p.1 < (x.2.2.1.length : Int)) = true -> (0 <= p.1 /\ p.1 < (x.2.2.1.length : Int)) /\ J0 (Ty.int IntKind.i64) (gx (0 : Int) x.2.2.1 p.1) p.2.1 = Option.none /\ (((0 : Nat) + [p.1].length) * (8 : Nat) <= (140737488355328 : Nat) /\ (0 : Nat) + [p.1].length <= 9223372036854775807) /\ I (IntKind.i64.wrap (p.1 + 1), C3k (Ty.int IntKind.i64) (gx (0 : Int) x.2.2.1 p.1) [p.1] p.2.1, ()) /\ μ (IntKind.i64.wrap (p.1 + 1), C3k (Ty.int IntKind.i64) (gx (0 : Int) x.2.2.1 p.1) [p.1] p.2.1, ()) < μ p) /\ (decide (p.1 < (x.2.2.1.length : Int)) = false -> ((0 : Int) <= (x.2.1.length : Int) /\ (x.2.1.length : Int) <= (x.2.1.length : Int) /\ (↑(24 : Nat) : Int) * (x.2.1.length : Int) <= (281474976710656 : Int) /\ (x.2.1.length : Int) <= (9223372036854775807 : Int)) /\ ∃ (I : Int × List (List EE) × Unit -> Prop), ∃ (μ : Int × List (List EE) × Unit -> Nat), I ((0 : Int), List.replicate (x.2.1.length : Int).toNat [], ()) /\ ∀ (c : Int × List (List EE) × Unit), G2 c.1 /\ F4z c.2.1 /\ True -> I c -> (decide (c.1 < (x.2.1.length : Int)) = true -> (0 <= c.1 /\ c.1 < (x.2.1.length : Int)) /\ ((0 : Int) <= gx (0 : Int) x.2.1 c.1 /\ gx (0 : Int) x.2.1 c.1 < (x.1.2.2.length : Int)) /\ ∃ (I_1 : List EE × Int × Unit -> Prop), ∃ (μ_1 : List EE × Int × Unit -> Nat), I_1 ([], (0 : Int), ()) /\ ∀ (d : List EE × Int × Unit), B8j d.1 /\ G2 d.2.1 /\ True -> I_1 d -> (decide (d.2.1 < (↑(gx [] x.1.2.2 (gx (0 : Int) x.2.1 c.1)).length : Int)) = true -> (0 <= d.2.1 /\ d.2.1 < (↑(gx [] x.1.2.2 (gx (0 : Int) x.2.1 c.1)).length : Int)) /\ ∃ (I : List EE × Int × Unit -> Prop), ∃ (μ : List EE × Int × Unit -> Nat), I (d.1, (0 : Int), ()) /\ ∀ (e : List EE × Int × Unit), B8j e.1 /\ G2 e.2.1 /\ True -> I e -> (decide (e.2.1 < (↑((J0 (Ty.int IntKind.i64) (gx dEE (gx [] x.1.2.2 (gx (0 : Int) x.2.1 c.1)) d.2.1).1 p.2.1).getD []).length : Int)) = true -> (0 <= e.2.1 /\ e.2.1 < (↑((J0 (Ty.int IntKind.i64) (gx dEE (gx [] x.1.2.2 (gx (0 : Int) x.2.1 c.1)) d.2.1).1 p.2.1).getD []).length : Int)) /\ sh3 (gx dEE (gx [] x.1.2.2 (gx (0 : Int) x.2.1 c.1)) d.2.1).2 /\ ∀ (r : QQ × Unit), WfQ r.1 /\ True -> r.1 = rc (rv (gx dEE (gx [] x.1.2.2 (gx (0 : Int) x.2.1 c.1)) d.2.1).2) -> ((List.length e.1 + [(gx (0 : Int) ((J0 (Ty.int IntKind.i64) (gx dEE (gx [] x.1.2.2 (gx (0 : Int) x.2.1 c.1)) d.2.1).1 p.2.1).getD []) e.2.1, r.1)].length) * (64 : Nat) <= (140737488355328 : Nat) /\ List.length e.1 + [(gx (0 : Int) ((J0 (Ty.int IntKind.i64) (gx dEE (gx [] x.1.2.2 (gx (0 : Int) x.2.1 c.1)) d.2.1).1 p.2.1).getD []) e.2.1, r.1)].length <= 9223372036854775807) /\ I (e.1 ++ [(gx (0 : Int) ((J0 (Ty.int IntKind.i64) (gx dEE (gx [] x.1.2.2 (gx (0 : Int) x.2.1 c.1)) d.2.1).1 p.2.1).getD []) e.2.1, r.1)], IntKind.i64.wrap (e.2.1 + 1), ()) /\ μ (e.1 ++ [(gx (0 : Int) ((J0 (Ty.int IntKind.i64) (gx dEE (gx [] x.1.2.2 (gx (0 : Int) x.2.1 c.1)) d.2.1).1 p.2.1).getD []) e.2.1, r.1)], IntKind.i64.wrap (e.2.1 + 1), ()) < μ e) /\ (decide (e.2.1 < (↑((J0 (Ty.int IntKind.i64) (gx dEE (gx [] x.1.2.2 (gx (0 : Int) x.2.1 c.1)) d.2.1).1 p.2.1).getD []).length : Int)) = false -> I_1 (e.1, IntKind.i64.wrap (d.2.1 + 1), ()) /\ μ_1 (e.1, IntKind.i64.wrap (d.2.1 + 1), ()) < μ_1 d)) /\ (decide (d.2.1 < (↑(gx [] x.1.2.2 (gx (0 : Int) x.2.1 c.1)).length : Int)) = false -> List.length d.1 <= 100000 /\ ∀ (l' : List EE), tE.sl.wf l' -> l'.Perm d.1 -> List.Pairwise (fun (a b : Int × (Bool × List Int) × List Int) => ¬C7b b.1 a.1 < 0) l' -> (0 <= c.1 /\ c.1 < (c.2.1.length : Int)) /\ I (IntKind.i64.wrap (c.1 + 1), List.set c.2.1 (Int.toNat c.1) l', ()) /\ μ (IntKind.i64.wrap (c.1 + 1), List.set c.2.1 (Int.toNat c.1) l', ()) < μ c)) /\ (decide (c.1 < (x.2.1.length : Int)) = false -> (¬A6 x.1 -> ((x.2.1.length : Int), (x.2.2.1.length : Int), c.2.1) = zm /\ (0 : Int) = (1 : Int)) /\ (A6 x.1 -> (((∃ (i : Int), i ∈ x.2.1 /\ (i < (0 : Int) \/ x.1.1 <= i)) \/ ∃ (i : Int), i ∈ x.2.2.1 /\ (i < (0 : Int) \/ x.1.2.1 <= i)) -> ((x.2.1.length : Int), (x.2.2.1.length : Int), c.2.1) = zm /\ (0 : Int) = (3 : Int)) /\ (¬((∃ (i : Int), i ∈ x.2.1 /\ (i < (0 : Int) \/ x.1.1 <= i)) \/ ∃ (i : Int), i ∈ x.2.2.1 /\ (i < (0 : Int) \/ x.1.2.1 <= i)) -> (16384 < x.2.1.length \/ 16384 < x.2.2.1.length -> ((x.2.1.length : Int), (x.2.2.1.length : Int), c.2.1) = zm /\ (0 : Int) = (8 : Int)) /\ (x.2.1.length <= (16384 : Nat) /\ x.2.2.1.length <= (16384 : Nat) -> isM x.2.1.length x.2.2.1.length (fun (i j : Nat) => el x.1 (x.2.1.getD i (0 : Int)).toNat (x.2.2.1.getD j (0 : Int)).toNat) ((x.2.1.length : Int), (x.2.2.1.length : Int), c.2.1) /\ (0 : Int) = (0 : Int)))))))))
theorem B6s (x : A7 L8.args) : K8 Tryz.prog F8e A9k C6v L8 Tryz.f45 x = A3g x := by kernel_rfl
def X0 : A7 E4.args -> Prop := fun (x : Int × Int × Unit) => sel (decide (x.1 < 0)) true (decide (x.2.1 <= x.1)) = decide (x.1 < 0 \/ x.2.1 <= x.1)
theorem A8a (x : A7 E4.args) : K8 Tryz.prog tys A3o B3v E4 Tryz.f107 x = X0 x := by kernel_rfl
def K5 : A7 C3.args -> Prop := fun (x : List Int × ((Int × Unit -> Prop) × (Int × Unit -> Bool)) × Unit) => Go.Proofs.Tryz.prog = Go.Proofs.Tryz.prog /\ false = false /\ (∀ (i : Int), i ∈ x.1 -> (x.2.1.1, fun (z : Int × Unit) => x.2.1.2 z).1 (i, ())) /\ ∀ (r : Int × Unit), G2 r.1 /\ True -> r.1 = F6b (fun (i : Int) => (x.2.1.1, fun (z : Int × Unit) => x.2.1.2 z).2 (i, ())) x.1 -> decide (0 <= r.1) = decide (∃ (i : Int), i ∈ x.1 /\ x.2.1.2 (i, ()) = true)
theorem A0f (x : A7 C3.args) : K8 Tryz.prog tys R5 A1y C3 Tryz.f108 x = K5 x := by kernel_rfl
def N1 : A7 C6.args -> Prop := fun (x : List Int × ((Int × Unit -> Prop) × (Int × Unit -> Bool)) × Unit) => ∃ (I : Int × Unit -> Prop), ∃ (μ : Int × Unit -> Nat), I ((0 : Int), ()) /\ ∀ (p : Int × Unit), G2 p.1 /\ True -> I p -> (decide (p.1 < (x.1.length : Int)) = true -> (0 <= p.1 /\ p.1 < (x.1.length : Int)) /\ Go.Proofs.Tryz.prog = Go.Proofs.Tryz.prog /\ x.2.1.1 (gx (0 : Int) x.1 p.1, ()) /\ (Ty.bool.wf (x.2.1.2 (gx (0 : Int) x.1 p.1, ())) -> (x.2.1.2 (gx (0 : Int) x.1 p.1, ()) = true -> p.1 = F6b (fun (i : Int) => x.2.1.2 (i, ())) x.1) /\ (x.2.1.2 (gx (0 : Int) x.1 p.1, ()) = false -> I (IntKind.i64.wrap (p.1 + 1), ()) /\ μ (IntKind.i64.wrap (p.1 + 1), ()) < μ p))) /\ (decide (p.1 < (x.1.length : Int)) = false -> (-1 : Int) = F6b (fun (i : Int) => x.2.1.2 (i, ())) x.1)
theorem A1v (x : A7 C6.args) : K8 Tryz.prog tys U4 A3u C6 Tryz.f165 x = N1 x := by kernel_rfl
theorem A8w (a b : Int) : eqB (.int .i64) a b = decide (a = b) := rfl
theorem B9k {α : Type} (k i : Int) (v : α) : ∀ l : List (Int × α), J0 (.int .i64) i (C3k (.int .i64) k v l) = if i = k then some v else J0 (.int .i64) i l
  | [] => by
    simp only [C3k, J0, A8w]
    by_cases h : i = k
    . simp [h]
    . rw [if_neg h]; simp [h]
  | (a, b) :: l => by
    have ih := B9k k i v l
    simp only [C3k, A8w]
    by_cases h : k = a
    . subst h
      simp only [decide_true, cond_true, J0, A8w]
      by_cases h2 : i = k
      . simp [h2]
      . simp [h2]
    . simp only [h, decide_false, cond_false, J0, A8w, ih]
      by_cases h2 : i = a
      . subst h2
        have : ¬ i = k := fun e => h e.symm
        simp [this]
      . simp [h2]
theorem D9p {α : Type} (k : Int) (v : α) : ∀ l : List (Int × α), (C3k (.int .i64) k v l).map (fun e => e.1) = if k ∈ l.map (fun e => e.1) then l.map (fun e => e.1) else l.map (fun e => e.1) ++ [k]
  | [] => by simp [C3k]
  | (a, b) :: l => by
    have ih := D9p k v l
    simp only [C3k, A8w]
    by_cases h : k = a
    . subst h
      simp
    . simp only [h, decide_false, cond_false, List.map_cons, ih, List.mem_cons, false_or]
      split <;> simp
theorem D6v {α : Type} (k : Int) (v : α) : ∀ {l : List (Int × α)} {e : Int × α}, e ∈ C3k (.int .i64) k v l -> e = (k, v) \/ e ∈ l
  | [], e, h => by
    simp only [C3k, List.mem_singleton] at h
    exact .inl h
  | (a, b) :: l, e, h => by
    simp only [C3k, A8w] at h
    by_cases hk : k = a
    . subst hk
      simp only [decide_true, cond_true, List.mem_cons] at h
      rcases h with h | h
      . exact .inl h
      . exact .inr (List.mem_cons_of_mem _ h)
    . simp only [hk, decide_false, cond_false, List.mem_cons] at h
      rcases h with h | h
      . exact .inr (h ▸ List.mem_cons_self ..)
      . exact (D6v k v h).imp id (List.mem_cons_of_mem _)
theorem D4o {α : Type} {k : Int} {v : α} : ∀ {l : List (Int × α)}, J0 (.int .i64) k l = some v -> (k, v) ∈ l
  | (a, b) :: l, h => by
    simp only [J0, A8w] at h
    by_cases hk : k = a
    . simp [hk] at h
      rw [hk, h]; exact List.mem_cons_self ..
    . simp [hk] at h
      exact List.mem_cons_of_mem _ (D4o h)
theorem D4f {α : Type} {k : Int} : ∀ {l : List (Int × α)}, k ∉ l.map (fun e => e.1) -> J0 (.int .i64) k l = none
  | [], _ => rfl
  | (a, b) :: l, h => by
    simp only [List.map_cons, List.mem_cons, not_or] at h
    simp only [J0, A8w]
    simp [h.1, D4f h.2]
theorem E5i {α : Type} {k : Int} : ∀ {l : List (Int × α)}, k ∈ l.map (fun e => e.1) -> ∃ v, J0 (.int .i64) k l = some v
  | (a, b) :: l, h => by
    simp only [J0, A8w]
    by_cases hk : k = a
    . exact ⟨b, by simp [hk]⟩
    . simp only [List.map_cons, List.mem_cons, hk, false_or] at h
      obtain ⟨v, hv⟩ := E5i h
      exact ⟨v, by simp [hk, hv]⟩
theorem E5y : ∀ {r l : List Int}, r.Nodup -> (∀ i ∈ r, i ∈ l) -> r.length <= l.length
  | [], _, _, _ => Nat.zero_le _
  | a :: r, l, hd, hs => by
    rw [List.nodup_cons] at hd
    have hm := hs a (List.mem_cons_self ..)
    have := E5y (l := l.erase a) hd.2 fun i hi => (List.mem_erase_of_ne fun e => hd.1 (by rw [<- e]; exact hi)).2 (hs i (List.mem_cons_of_mem _ hi))
    have h2 := List.length_erase_of_mem hm
    have h3 := List.length_pos_of_mem hm
    rw [List.length_cons]; omega
theorem E9c {r : List Int} {n : Int} (h : r.Nodup) (hr : ∀ i ∈ r, 0 <= i /\ i < n) : (r.length : Int) <= max n 0 := by
  have := E5y (l := (List.range n.toNat).map fun i : Nat => (i : Int)) h fun i hi => by
    have := hr i hi
    exact List.mem_map.2 ⟨i.toNat, List.mem_range.2 (by omega), by omega⟩
  rw [List.length_map, List.length_range] at this
  omega
structure E7n (n : Int) (F : Int -> Rat) (es : List Ent) : Prop where
  nd : (es.map fun e => e.1).Nodup
  rng : ∀ e ∈ es, 0 <= e.1 /\ e.1 < n
  can : ∀ e ∈ es, e.2 = rc (rv e.2)
  val : ∀ j, rv ((J0 (.int .i64) j es).getD dQ) = F j
theorem E7n.at {n : Int} {F : Int -> Rat} {es : List Ent} (h : E7n n F es) (j : Int) : (J0 (.int .i64) j es).getD dQ = rc (F j) \/ ((J0 (.int .i64) j es).getD dQ = dQ /\ F j = 0 /\ j ∉ es.map fun e => e.1) := by
  have hv := h.val j
  cases hf : J0 (.int .i64) j es with
  | none =>
    rw [hf] at hv
    refine .inr ⟨rfl, ?_, fun hj => ?_⟩
    . rw [<- hv]; exact E2p
    . obtain ⟨v, h2⟩ := E5i hj
      rw [hf] at h2; cases h2
  | some v =>
    rw [hf] at hv
    have h2 := h.can _ (D4o hf)
    have hv : rv v = F j := hv
    left
    show v = _
    rw [<- hv]; exact h2
theorem E7n.sh {n : Int} {F : Int -> Rat} {es : List Ent} (h : E7n n F es) (j : Int) (hq : qs 2199023255552 (F j)) : sh3 ((J0 (.int .i64) j es).getD dQ) := by
  rcases h.at j with h1 | ⟨h1, _⟩
  . rw [h1]; exact hq
  . rw [h1]; exact ⟨Nat.zero_le _, Nat.zero_le _⟩
theorem E7n.put {n : Int} {F G : Int -> Rat} {es : List Ent} (h : E7n n F es) {k : Int} {q : Rat} (hk : 0 <= k /\ k < n) (h1 : G k = q) (h2 : ∀ j, j ≠ k -> G j = F j) : E7n n G (C3k (.int .i64) k (rc q) es) := by
  refine ⟨?_, fun e he => ?_, fun e he => ?_, fun j => ?_⟩
  . have := D9p k (rc q) es
    rw [this]
    split
    . exact h.nd
    . rename_i hn
      rw [List.nodup_append]
      refine ⟨h.nd, by simp, fun a ha b hb hab => ?_⟩
      rw [List.mem_singleton] at hb
      subst hb hab; exact hn ha
  . rcases D6v k (rc q) he with rfl | he
    . exact hk
    . exact h.rng e he
  . rcases D6v k (rc q) he with rfl | he
    . show rc q = rc (rv (rc q))
      rw [A5e]
    . exact h.can e he
  . rw [B9k]
    by_cases hj : j = k
    . rw [if_pos hj]
      show rv (rc q) = _
      rw [A5e, hj, h1]
    . rw [if_neg hj, h.val, h2 j hj]
theorem E7n.len {n : Int} {F : Int -> Rat} {es : List Ent} (h : E7n n F es) : (es.length : Int) <= max n 0 := by
  have := E9c h.nd (n := n) fun i hi => by
    obtain ⟨e, he, rfl⟩ := List.mem_map.1 hi
    exact h.rng e he
  rwa [List.length_map] at this
theorem A7p (x : A7 E8.args) (hw : awf E8.args x) (hp : E8.pre x) : V2 x := by
  obtain ⟨v, ⟨R, C, D⟩, _⟩ := x
  have hlv : F6h v := D0l hw.1.2
  have hlm : G0f (R, C, D) := E2b hw.2.1.2.2.2
  change List Ent at v
  change Int at R C
  change List (List Ent) at D
  obtain ⟨hok, hs, hv, hvv, hR⟩ : okV K0 v /\ okM K0 (R, C, D) /\ A6 (R, C, D) /\ V5 v R /\ R <= 1000 := hp
  have v5 : (D.length : Int) = R := hv.2.2.2.2.1
  have v6 : ∀ w ∈ D, V5 w C := hv.2.2.2.2.2
  have v3 : 0 <= C := hv.2.2.1
  have v4 : C <= 16384 := hv.2.2.2.1
  have hvl : v.length <= 1000 := by have := D5w hvv; omega
  simp only [V2]
  let H : Int -> Int -> Rat := fun j k => F2 (D.getD k.toNat []) j
  have hHq : ∀ j : Int, ∀ e ∈ v, qs K0 (H j e.1) := fun j e he => by
    have := hvv.2 e he
    exact E3l hv hlm hs (by decide) (U5 (by omega)) j
  have hEq : ∀ (j : Int) (n : Nat), qs ((v.take n).length * (K0 + K0 + 1) + 1) (A9e (v.take n) (H j)) := fun j n => F7l (fun e he => hlv e (List.mem_of_mem_take he)) (fun e he => hok.2.1 e (List.mem_of_mem_take he)) (by decide) fun e he => hHq j e (List.mem_of_mem_take he)
  have h7 : K0 + K0 + 1 = 2147483649 := by decide
  have h8 : K0 + K0 = 2147483648 := by decide
  refine ⟨fun p => 0 <= p.1 /\ p.1 <= (v.length : Int) /\ E7n C (fun j => A9e (v.take p.1.toNat) (H j)) p.2.1, fun p => ((v.length : Int) - p.1).toNat, ⟨Int.le_refl _, Int.natCast_nonneg _, List.nodup_nil, fun _ h => (by cases h), fun _ h => (by cases h), fun j => E2p⟩, ?_⟩
  rintro ⟨i, es, _⟩ _ ⟨i0, i1, hS⟩
  change Int at i
  change List Ent at es
  simp only at i0 i1 hS ⊢
  refine ⟨fun h => ?_, fun h => ?_⟩
  . have h := of_decide_eq_true h
    have hem := T6 (d := dEE) i0 h
    obtain ⟨e0, e1, _⟩ := hvv.2 _ hem
    have hse := hok.2.1 _ hem
    have hle := hlv _ hem
    have hst := fun j => F2s (d := dEE) i0 h (H j)
    have htl : (v.take i.toNat).length <= 999 := by rw [List.length_take]; omega
    have hEi := fun j => hEq j i.toNat
    generalize gx dEE v i = e at *
    have heD : e.1 < (D.length : Int) := by omega
    rw [C5m e0 heD]
    have hme : D.getD e.1.toNat [] ∈ D := U5 (by omega)
    have hrow := B8e hv hs hme
    have hvr := v6 _ hme
    have hlr := hlm _ hme
    have hH : ∀ j, H j e.1 = F2 (D.getD e.1.toNat []) j := fun j => rfl
    generalize D.getD e.1.toNat [] = row at *
    have hrl := hrow.2.2
    refine ⟨⟨i0, h⟩, ⟨e0, heD⟩, fun p => 0 <= p.1 /\ p.1 <= (row.length : Int) /\ E7n C (fun j => A9e (v.take i.toNat) (H j) + rv e.2 * F2 (row.take p.1.toNat) j) p.2.1, fun p => ((row.length : Int) - p.1).toNat, ⟨Int.le_refl _, Int.natCast_nonneg _, ?_⟩, ?_⟩
    . have : (fun j => A9e (v.take i.toNat) (H j) + rv e.2 * F2 (row.take (Int.toNat 0)) j) = fun j => A9e (v.take i.toNat) (H j) := by
        funext j
        show _ + rv e.2 * 0 = _
        rw [Rat.mul_zero, Rat.add_zero]
      show E7n C (fun j => A9e (v.take i.toNat) (H j) + rv e.2 * F2 (row.take (Int.toNat 0)) j) es
      rw [this]; exact hS
    rintro ⟨t, fs, _⟩ _ ⟨t0, t1, hT⟩
    change Int at t
    change List Ent at fs
    simp only at t0 t1 hT ⊢
    refine ⟨fun ht => ?_, fun ht => ?_⟩
    . have ht := of_decide_eq_true ht
      have hfm := T6 (d := dEE) t0 ht
      have hfr := hvr.2 _ hfm
      have hsf := hrow.2.1 _ hfm
      have hlf := hlr _ hfm
      have hct := C9a (d := dEE) t0 ht
      have hcq := D0d (v := row.take t.toNat) (k := K0) hrow.1.take (fun e he => hlr e (List.mem_of_mem_take he)) (fun e he => hrow.2.1 e (List.mem_of_mem_take he)) (by decide)
      generalize gx dEE row t = f at *
      have hpq := C5e (E0z hle hse (by decide)) (E0z hlf hsf (by decide))
      have hFq : qs 2199023255552 (A9e (v.take i.toNat) (H f.1) + rv e.2 * F2 (row.take t.toNat) f.1) := by
        refine C1r (E4p (hEi f.1) (C5e (E0z hle hse (by decide)) (hcq f.1))) ?_
        rw [h7, h8]; omega
      refine ⟨⟨t0, ht⟩, ⟨B1n hse (by decide), B1n hsf (by decide)⟩, ?_⟩
      rintro ⟨q, _⟩ _ hq
      simp only at hq ⊢
      refine ⟨⟨hT.sh f.1 hFq, by rw [hq]; exact C0w hpq (by decide)⟩, ?_⟩
      rintro ⟨u, _⟩ _ hu
      simp only at hu ⊢
      rw [wr (by omega) (by omega)]
      have hval : rv ((J0 (.int .i64) f.1 fs).getD dQ) = A9e (v.take i.toNat) (H f.1) + rv e.2 * F2 (row.take t.toNat) f.1 := hT.val f.1
      rw [hval, hq, A5e] at hu
      rw [hu]
      refine ⟨⟨by omega, by omega, hT.put ⟨hfr.1, hfr.2.1⟩ ?_ fun j hj => ?_⟩, by omega⟩
      . show _ + rv e.2 * F2 (row.take (t + 1).toNat) f.1 = _
        rw [hct, if_pos rfl, Rat.mul_add, <- Rat.add_assoc]
      . show _ + rv e.2 * F2 (row.take (t + 1).toNat) j = _ + rv e.2 * F2 (row.take t.toNat) j
        rw [hct, if_neg (fun e => hj e.symm), Rat.add_zero]
    . have ht := of_decide_eq_false ht
      rw [G7 (l := row) (i := t) (by omega)] at hT
      rw [wr (by omega) (by omega)]
      refine ⟨⟨by omega, by omega, ?_⟩, by omega⟩
      have : (fun j => A9e (v.take (i + 1).toNat) (H j)) = fun j => A9e (v.take i.toNat) (H j) + rv e.2 * F2 row j := by
        funext j
        rw [hst, hH]
      show E7n C (fun j => A9e (v.take (i + 1).toNat) (H j)) fs
      rw [this]; exact hT
  . have h := of_decide_eq_false h
    rw [G7 (by omega)] at hS
    have hlen := hS.len
    refine ⟨⟨by omega, hS.nd⟩, fun l hl hls => ?_⟩
    have hnd : l.Nodup := hl.nodup_iff.2 hS.nd
    have hlt : l.Pairwise (· < ·) := by
      refine List.Pairwise.imp₂ ?_ hls hnd
      intro a b h1 h2
      omega
    have hll : l.length <= 16384 := by
      have := hl.length_eq
      rw [List.length_map] at this; omega
    have hmem : ∀ j, j ∈ l ↔ j ∈ es.map fun e => e.1 := fun j => hl.mem_iff
    refine ⟨fun p => 0 <= p.2.1 /\ p.2.1 <= (l.length : Int) /\ p.1.length <= p.2.1.toNat /\ C5c p.1 /\ (∀ e ∈ p.1, e.1 ∈ l.take p.2.1.toNat) /\ (∀ j ∈ l.take p.2.1.toNat, F2 p.1 j = A9e v (H j)), fun p => ((l.length : Int) - p.2.1).toNat, ⟨Int.le_refl _, Int.natCast_nonneg _, Nat.le_refl _, C7h, fun _ h => (by cases h), by simp⟩, ?_⟩
    rintro ⟨out, j, _⟩ _ ⟨h0, h1, h2, h3, h4, h5⟩
    change Int at j
    change List Ent at out
    simp only at h0 h1 h2 h3 h4 h5 ⊢
    refine ⟨fun h => ?_, fun h => ?_⟩
    . have h := of_decide_eq_true h
      have hg := Y6 (d := (0 : Int)) h0 h
      have hts : l.take (j + 1).toNat = l.take j.toNat ++ [gx 0 l j] := by
        rw [show (j + 1).toNat = j.toNat + 1 from by omega, List.take_add_one, M7 (d := (0 : Int)) h0 h]; rfl
      have hlt2 : ∀ y ∈ l.take j.toNat, y < gx 0 l j := fun y hy => by
        have : (l.take (j + 1).toNat).Pairwise (· < ·) := hlt.take
        rw [hts, List.pairwise_append] at this
        exact this.2.2 y hy _ (List.mem_singleton.2 rfl)
      have hin : gx 0 l j ∈ l := T6 (d := (0 : Int)) h0 h
      rw [<- hg]
      generalize gx 0 l j = i at *
      have hval : (J0 (.int .i64) i es).getD dQ = rc (A9e v (H i)) := by
        rcases hS.at i with h6 | ⟨_, _, h6⟩
        . exact h6
        . exact absurd ((hmem i).1 hin) h6
      rw [hval]
      have hout : ∀ e ∈ out, e.1 < i := fun e he => hlt2 _ (h4 e he)
      have hnil : F2 out i = 0 := H8 fun e he hei => by have := hout e he; omega
      refine ⟨fun p => p.1.length <= (j + 1).toNat /\ C5c p.1 /\ (∀ e ∈ p.1, e.1 ∈ l.take (j + 1).toNat) /\ ∀ k ∈ l.take (j + 1).toNat, F2 p.1 k = A9e v (H k), ⟨⟨h0, h⟩, trivial, ?_⟩, ?_⟩
      . rintro ⟨s, _⟩ _ hsg
        simp only at hsg ⊢
        rw [A5e] at hsg
        refine ⟨fun hz => ⟨⟨by simp only [List.length_singleton]; omega, by simp only [List.length_singleton]; omega⟩, by show (out ++ [(i, _)]).length <= _; simp; omega, ?_, fun e he => ?_, fun k hk => ?_⟩, fun hz => ⟨by show out.length <= _; omega, h3, fun e he => by rw [hts]; exact List.mem_append.2 (.inl (h4 e he)), fun k hk => ?_⟩⟩
        . have hz := of_decide_eq_true hz
          exact C8n h3 (fun h0 => hz (by rw [hsg, h0]; rfl)) hout
        . rw [hts]
          rcases List.mem_append.1 he with he | he
          . exact List.mem_append.2 (.inl (h4 e he))
          . rw [List.mem_singleton.1 he]; exact List.mem_append.2 (.inr (List.mem_singleton.2 rfl))
        . show F2 (out ++ [(i, rc (A9e v (H i)))]) k = A9e v (H k)
          rw [B9w]
          rw [hts] at hk
          rcases List.mem_append.1 hk with hk | hk
          . have := hlt2 k hk
            rw [if_neg (by omega), Rat.add_zero, h5 k hk]
          . rw [List.mem_singleton.1 hk, if_pos rfl, hnil, Rat.zero_add]
        . have hz := of_decide_eq_false hz
          have hz0 : A9e v (H i) = 0 := E0s (by rw [<- hsg]; exact Decidable.not_not.1 hz)
          rw [hts] at hk
          show F2 out k = A9e v (H k)
          rcases List.mem_append.1 hk with hk | hk
          . exact h5 k hk
          . rw [List.mem_singleton.1 hk, hnil, hz0]
      . rintro ⟨o, _⟩ _ ho
        simp only at ho ⊢
        rw [wr (by omega) (by omega)]
        exact ⟨⟨by omega, by omega, ho⟩, by omega⟩
    . have h := of_decide_eq_false h
      rw [G7 (by omega)] at h4 h5
      refine ⟨h3, fun i => ?_⟩
      show F2 out i = A9e v (H i)
      by_cases hi : i ∈ l
      . exact h5 i hi
      . rw [H8 fun e he hei => hi (by rw [<- hei]; exact h4 e he)]
        have := hS.val i
        rw [D4f fun h6 => hi ((hmem i).2 h6)] at this
        exact E2p.symm.trans this
theorem C6y (x : A7 P4.args) (hw : awf P4.args x) (hp : P4.pre x) : A8c x := by
  obtain ⟨⟨R, C, D⟩, ⟨R', C', D'⟩, _⟩ := x
  change Int at R C R' C'
  change List (List Ent) at D D'
  obtain ⟨hs, hs', hC⟩ : okM K0 (R, C, D) /\ okM K0 (R', C', D') /\ C <= 1000 := hp
  simp only [A8c]
  refine ⟨trivial, ?_⟩
  rintro ⟨r, _⟩ _ hr
  simp only at hr ⊢
  refine ⟨fun _ => trivial, ?_⟩
  rintro ⟨s, _⟩ hs2
  simp only at hs2 ⊢
  rw [Z6]
  by_cases hv : A6 (R, C, D)
  . have hr : r = true := by rw [hr]; exact decide_eq_true hv
    have hs2 := (hs2 (by rw [hr]; rfl)).2
    rw [hr, hs2]
    by_cases hv' : A6 (R', C', D')
    . rw [decide_eq_true hv']
      refine ⟨fun h => (by cases h), fun _ => ⟨fun h => ?_, fun h => ?_⟩⟩
      . have h := of_decide_eq_true h
        exact ⟨fun h => absurd ⟨hv, hv'⟩ h, fun _ => ⟨fun _ => ⟨rfl, by trivial⟩, fun h2 => absurd h2 h⟩⟩
      . have h := Decidable.not_not.1 (of_decide_eq_false h)
        obtain ⟨v1, v2, v3, v4, _, _⟩ := id hv
        have v5 : (D.length : Int) = R := hv.2.2.2.2.1
        have v6 : ∀ w ∈ D, V5 w C := hv.2.2.2.2.2
        have w3 : 0 <= C' := hv'.2.2.1
        have w5 : (D'.length : Int) = R' := hv'.2.2.2.2.1
        have w6 : ∀ w ∈ D', V5 w C' := hv'.2.2.2.2.2
        simp only at v1 v2 v3 v4
        refine ⟨⟨v1, Int.le_refl _, by omega, by omega⟩, ?_⟩
        refine ⟨fun p => 0 <= p.1 /\ p.1 <= R /\ E2z R.toNat p.1.toNat (fun i => isV C'.toNat fun j => A0h C.toNat fun k => el (R, C, D) i k * el (R', C', D') k j) p.2.1, fun p => (R - p.1).toNat, ⟨Int.le_refl _, v1, F2r List.length_replicate⟩, ?_⟩
        rintro ⟨k, rows, _⟩ _ ⟨k0, k1, hf⟩
        change Int at k
        change List (List Ent) at rows
        simp only at k0 k1 hf ⊢
        have := hf.1
        refine ⟨fun hk => ?_, fun hk => ?_⟩
        . have hk := of_decide_eq_true hk
          have hme := T6 (d := ([] : List Ent)) k0 hk
          rw [C5m k0 hk] at hme ⊢
          have hvr := v6 _ hme
          refine ⟨⟨k0, hk⟩, ⟨B8e hv hs hme, hs', hv', by rw [<- h]; exact hvr, by omega⟩, ?_⟩
          rintro ⟨v, _⟩ _ hvv
          simp only at hvv ⊢
          rw [wr (by omega) (by omega)]
          have hes : ∀ j : Int, A9e (D.getD k.toNat []) (fun k => F2 (D'.getD k.toNat []) j) = A0h C.toNat fun l => el (R, C, D) k.toNat l * F2 (D'.getD l []) j := fun j => by
            rw [F8u (n := C.toNat) fun e he => ⟨(hvr.2 e he).1, by have := (hvr.2 e he).2.1; omega⟩]
            exact W9 fun l _ => by rw [Int.toNat_natCast]; rfl
          refine ⟨⟨k0, by omega⟩, ⟨by omega, by omega, C7w hf k0 (by omega) ?_⟩, by omega⟩
          refine E3s hvv (fun j hj => ?_) fun j _ => ?_
          . rw [hes]
            refine C0s fun l hl => ?_
            rw [B1r (w6 _ (U5 (l := D') (i := l) (by omega))) (show ¬ (0 <= j /\ j < C') by omega), Rat.mul_zero]
          . rw [hes]; rfl
        . have hk := of_decide_eq_false hk
          exact ⟨fun h => absurd ⟨hv, hv'⟩ h, fun _ => ⟨fun h2 => absurd h h2, fun _ => ⟨⟨by show R = _; omega, by show C' = _; omega, hf.1, fun i hi => hf.2 i (by omega)⟩, by trivial⟩⟩⟩
    . rw [decide_eq_false hv']
      exact ⟨fun _ => ⟨fun _ => ⟨rfl, by trivial⟩, fun h => absurd h.2 hv'⟩, fun h => (by cases h)⟩
  . have hr : r = false := by rw [hr]; exact decide_eq_false hv
    rw [hr]
    exact ⟨fun _ => ⟨fun _ => ⟨rfl, by trivial⟩, fun h => absurd h.1 hv⟩, fun h => (by simp at h)⟩
theorem F8t {n : Nat} {f : Nat -> Rat} {v : List Ent} (h : isV n f v) : v.length <= n := by
  have := D5w (D8u h)
  omega
theorem A9u (x : A7 G9.args) (hw : awf G9.args x) (hp : G9.pre x) : Y4 x := by
  obtain ⟨⟨R, C, D⟩, _⟩ := x
  change Int at R C
  change List (List Ent) at D
  have hs : okM K1 (R, C, D) := hp
  simp only [Y4]
  refine ⟨trivial, ?_⟩
  rintro ⟨r, _⟩ _ hr
  simp only at hr ⊢
  by_cases hv : A6 (R, C, D)
  . have hr : r = true := by rw [hr]; exact decide_eq_true hv
    rw [hr]
    obtain ⟨v1, v2, v3, v4, _, _⟩ := id hv
    have v5 : (D.length : Int) = R := hv.2.2.2.2.1
    have v6 : ∀ w ∈ D, V5 w C := hv.2.2.2.2.2
    simp only at v1 v2 v3 v4
    refine ⟨fun h => (by cases h), fun _ => ⟨⟨v3, Int.le_refl _, by omega, by omega⟩, ?_⟩⟩
    refine ⟨fun p => 0 <= p.1 /\ p.1 <= R /\ p.2.1.length = C.toNat /\ ∀ j, j < C.toNat -> isV p.1.toNat (fun i => el (R, C, D) i j) (p.2.1.getD j []), fun p => (R - p.1).toNat, ⟨Int.le_refl _, v1, List.length_replicate, fun j hj => ?_⟩, ?_⟩
    . have e : (List.replicate C.toNat ([] : List Ent)).getD j [] = [] := by
        rw [List.getD_eq_getElem?_getD, List.getElem?_replicate, if_pos hj]; rfl
      show isV _ _ ((List.replicate C.toNat ([] : List Ent)).getD j [])
      rw [e]
      exact ⟨C7h, fun _ h => (by cases h), fun i hi => by simp at hi⟩
    rintro ⟨k, rows, _⟩ _ ⟨k0, k1, hl, hf⟩
    change Int at k
    change List (List Ent) at rows
    simp only at k0 k1 hl hf ⊢
    refine ⟨fun hk => ?_, fun hk => ?_⟩
    . have hk := of_decide_eq_true hk
      have hme := T6 (d := ([] : List Ent)) k0 hk
      rw [C5m k0 hk] at hme ⊢
      have hvr := v6 _ hme
      have hrow := B8e hv hs hme
      have hcmp : ∀ j : Nat, F2 (D.getD k.toNat []) (j : Int) = el (R, C, D) k.toNat j := fun j => rfl
      generalize D.getD k.toNat [] = row at *
      have hrl := hrow.2.2
      refine ⟨⟨k0, hk⟩, fun p => 0 <= p.1 /\ p.1 <= (row.length : Int) /\ p.2.1.length = C.toNat /\ ∀ j, j < C.toNat -> isV (k + 1).toNat (fun i => if i < k.toNat then el (R, C, D) i j else F2 (row.take p.1.toNat) (j : Int)) (p.2.1.getD j []), fun p => ((row.length : Int) - p.1).toNat, ⟨Int.le_refl _, Int.natCast_nonneg _, hl, fun j hj => ?_⟩, ?_⟩
      . obtain ⟨a1, a2, a3⟩ := hf j hj
        refine ⟨a1, fun e he => by have := a2 e he; omega, fun i hi => ?_⟩
        dsimp only
        by_cases hi2 : i < k.toNat
        . rw [if_pos hi2]; exact a3 i hi2
        . rw [if_neg hi2, H8 fun e he hei => by have := (a2 e he).2; omega]; rfl
      rintro ⟨t, o, _⟩ _ ⟨t0, t1, ol, of⟩
      change Int at t
      change List (List Ent) at o
      simp only at t0 t1 ol of ⊢
      refine ⟨fun ht => ?_, fun ht => ?_⟩
      . have ht := of_decide_eq_true ht
        have hem := T6 (d := dEE) t0 ht
        obtain ⟨e0, e1, ez⟩ := hvr.2 _ hem
        have hse := hrow.2.1 _ hem
        have hct := C9a (d := dEE) t0 ht
        have hbef : F2 (row.take t.toNat) (gx dEE row t).1 = 0 := by
          refine H8 fun x hx hxe => ?_
          have h1 : (row.take (t + 1).toNat).Pairwise (fun a b => a.1 < b.1) := hrow.1.take
          rw [show (t + 1).toNat = t.toNat + 1 from by omega, List.take_add_one, M7 (d := dEE) t0 ht, List.pairwise_append] at h1
          have := h1.2.2 x hx (gx dEE row t) (by simp)
          omega
        generalize gx dEE row t = e at *
        have hsh : sh3 e.2 := B1n hse (by decide)
        have A1 : t < (row.length : Int) := ht
        have B1 : e.1 < (o.length : Int) := by rw [ol]; omega
        have hoe := of e.1.toNat (by omega)
        have hlen := F8t hoe
        have L1 : ((o.getD e.1.toNat []).length + [(k, rc (rv e.2))].length) * 64 <= 140737488355328 := by simp only [List.length_singleton]; omega
        have L2 : (o.getD e.1.toNat []).length + [(k, rc (rv e.2))].length <= 9223372036854775807 := by simp only [List.length_singleton]; omega
        have hwr : IntKind.i64.wrap (t + 1) = t + 1 := wr (by omega) (by omega)
        rw [hwr]
        have I1 : 0 <= t + 1 := by omega
        have I2 : t + 1 <= (row.length : Int) := by omega
        have I3 : (o.set e.1.toNat (o.getD e.1.toNat [] ++ [(k, rc (rv e.2))])).length = C.toNat := by rw [List.length_set]; exact ol
        have I4 : ∀ j, j < C.toNat -> isV (k + 1).toNat (fun i => if i < k.toNat then el (R, C, D) i j else F2 (row.take (t + 1).toNat) (j : Int)) ((o.set e.1.toNat (o.getD e.1.toNat [] ++ [(k, rc (rv e.2))])).getD j []) := fun j hj => by
          rw [List.getD_eq_getElem?_getD, List.getElem?_set]
          by_cases hje : e.1.toNat = j
          . rw [if_pos hje, if_pos (by omega)]
            subst hje
            obtain ⟨a1, a2, a3⟩ := hoe
            have hlt : ∀ x ∈ o.getD e.1.toNat [], x.1 < k := fun x hx => by
              have h1 := a2 x hx
              have h2 := (a1.2 x hx).1
              rw [<- B2w a1.1 hx] at h2
              refine Decidable.byContradiction fun hn => h2 ?_
              have h3 : x.1 = ((k.toNat : Nat) : Int) := by omega
              rw [h3, a3 k.toNat (by omega)]
              dsimp only
              rw [if_neg (by omega), show ((e.1.toNat : Nat) : Int) = e.1 from by omega]; exact hbef
            refine ⟨C8n a1 ez hlt, fun x hx => ?_, fun i hi => ?_⟩
            . rcases List.mem_append.1 hx with hx | hx
              . exact a2 x hx
              . rw [List.mem_singleton.1 hx]
                show 0 <= k /\ k < _
                omega
            . show F2 (o.getD e.1.toNat [] ++ [(k, rc (rv e.2))]) (i : Int) = _
              rw [B9w, a3 i hi]
              dsimp only
              rw [hct, if_pos (show e.1 = ((e.1.toNat : Nat) : Int) by omega)]
              by_cases hi2 : i < k.toNat
              . rw [if_pos hi2, if_pos hi2, if_neg (by omega), Rat.add_zero]
              . rw [if_neg hi2, if_neg hi2, if_pos (by omega)]
          . rw [if_neg hje, <- List.getD_eq_getElem?_getD]
            refine C8c (of j hj) fun i _ => ?_
            rw [hct, if_neg (show ¬ e.1 = (j : Int) by omega), Rat.add_zero]
        have M1 : ((row.length : Int) - (t + 1)).toNat < ((row.length : Int) - t).toNat := by omega
        clear hoe hlen hct hbef of hf hvr
        repeat' first
          | exact ⟨⟨e0, B1⟩, by trivial, ⟨I1, I2, I3, I4⟩, M1⟩
          | exact ⟨L1, L2⟩
          | exact ⟨e0, B1⟩
          | exact ⟨t0, A1⟩
          | exact hsh
          | apply And.intro
          | (rintro ⟨q, _⟩ _ hq; simp only at hq ⊢; subst hq)
      . have ht := of_decide_eq_false ht
        rw [wr (by omega) (by omega)]
        rw [G7 (l := row) (i := t) (by omega)] at of
        refine ⟨⟨by omega, by omega, ol, fun j hj => C8c (of j hj) fun i hi => ?_⟩, by omega⟩
        by_cases hi2 : i < k.toNat
        . rw [if_pos hi2]
        . rw [if_neg hi2, hcmp, show i = k.toNat from by omega]
    . have hk := of_decide_eq_false hk
      exact ⟨fun h => absurd hv h, fun _ => ⟨⟨by show C = _; omega, by show R = _; omega, hl, fun j hj => by
        have := hf j hj
        rw [show k.toNat = R.toNat from by omega] at this
        exact this⟩, by trivial⟩⟩
  . have hr : r = false := by rw [hr]; exact decide_eq_false hv
    rw [hr]
    exact ⟨fun _ => ⟨fun _ => ⟨rfl, by trivial⟩, fun h => absurd h hv⟩, fun h => (by cases h)⟩
theorem A1n (x : A7 C6.args) (hw : awf C6.args x) (hp : C6.pre x) : N1 x := by
  obtain ⟨l, ⟨ok, φ⟩, _⟩ := x
  have hl : l.length <= 9223372036854775807 := hw.1.1
  change List Int at l
  have hp : ∀ i ∈ l, ok (i, ()) := hp
  simp only [N1]
  refine ⟨fun p => 0 <= p.1 /\ p.1 <= (l.length : Int) /\ ∀ y ∈ l.take p.1.toNat, φ (y, ()) = false, fun p => ((l.length : Int) - p.1).toNat, ⟨Int.le_refl _, Int.natCast_nonneg _, by simp⟩, ?_⟩
  rintro ⟨i, _⟩ _ ⟨h0, h1, h2⟩
  change Int at i
  simp only at h0 h1 h2 ⊢
  refine ⟨fun h => ?_, fun h => ?_⟩
  . have h := of_decide_eq_true h
    refine ⟨⟨h0, h⟩, by trivial, hp _ (T6 h0 h), fun _ => ⟨fun ht => ?_, fun hf => ?_⟩⟩
    . have hfi : l.findIdx? (fun i => φ (i, ())) = some i.toNat := by
        rw [List.findIdx?_eq_some_iff_getElem]
        have hg := M7 (d := (0 : Int)) h0 h
        have hlt : i.toNat < l.length := by omega
        rw [List.getElem?_eq_getElem hlt] at hg
        refine ⟨hlt, by rw [Option.some.inj hg]; exact ht, fun j hj => ?_⟩
        have := h2 l[j] (List.mem_iff_getElem.2 ⟨j, by rw [List.length_take]; omega, by simp⟩)
        simp [this]
      unfold F6b
      rw [hfi]
      show i = ((i.toNat : Nat) : Int)
      omega
    . rw [wr (by omega) (by omega)]
      exact ⟨⟨by omega, by omega, A8e h0 h h2 hf⟩, by omega⟩
  . have h := of_decide_eq_false h
    rw [G7 (by omega)] at h2
    unfold F6b
    have : l.findIdx? (fun i => φ (i, ())) = none := by
      rw [List.findIdx?_eq_none_iff]
      exact h2
    rw [this]
theorem F7x (p : Int -> Bool) (l : List Int) : 0 <= F6b p l ↔ ∃ i, i ∈ l /\ p i = true := by
  unfold F6b
  cases h : l.findIdx? p with
  | none =>
    rw [List.findIdx?_eq_none_iff] at h
    constructor
    . intro h2; simp at h2
    . rintro ⟨i, hi, hp⟩
      have := h i hi
      rw [this] at hp; cases hp
  | some k =>
    rw [List.findIdx?_eq_some_iff_getElem] at h
    obtain ⟨hk, hp, _⟩ := h
    exact ⟨fun _ => ⟨_, List.getElem_mem hk, hp⟩, fun _ => Int.natCast_nonneg _⟩
theorem A0g (x : A7 C3.args) (hw : awf C3.args x) (hp : C3.pre x) : K5 x := by
  obtain ⟨l, ⟨ok, φ⟩, _⟩ := x
  change List Int at l
  have hp : ∀ i ∈ l, ok (i, ()) := hp
  simp only [K5]
  refine ⟨by trivial, by trivial, hp, ?_⟩
  rintro ⟨r, _⟩ _ hr
  simp only at hr ⊢
  rw [hr]
  exact decide_eq_decide.2 (F7x _ _)
theorem A9d (x : A7 E4.args) (hw : awf E4.args x) (_ : E4.pre x) : X0 x := by
  simp only [X0]
  rw [Z6, Bool.decide_or]
theorem E9j {a b : List Ent} (h : a.Perm b) (j : Int) : F2 a j = F2 b j := by
  induction h with
  | nil => rfl
  | cons e _ ih => rw [F2, F2, ih]
  | swap e f l => simp only [F2]; rw [<- Rat.add_assoc, <- Rat.add_assoc, Rat.add_comm (if f.1 = j then rv f.2 else 0)]
  | trans _ _ h1 h2 => rw [h1, h2]
theorem F8o {a b : Int} (h : ¬ C7b b a < 0) : a <= b := by
  unfold C7b at h
  split at h
  . omega
  . split at h <;> omega
theorem B5h (x : A7 L8.args) (hw : awf L8.args x) (hp : L8.pre x) : A3g x := by
  obtain ⟨⟨R, C, D⟩, rows, cols, _⟩ := x
  have hlm : G0f (R, C, D) := E2b hw.1.2.2.2
  change Int at R C
  change List (List Ent) at D
  change List Int at rows cols
  obtain ⟨⟨hs, hlr, hlc⟩, hnd⟩ : (okM K1 (R, C, D) /\ rows.length <= 1000 /\ cols.length <= 1000) /\ cols.Nodup := by
    obtain ⟨a, b, c, d⟩ := hp
    exact ⟨⟨a, b, c⟩, d⟩
  simp only [A3g]
  refine ⟨trivial, ?_⟩
  rintro ⟨r, _⟩ _ hr
  simp only at hr ⊢
  by_cases hv : A6 (R, C, D)
  . have hr : r = true := by rw [hr]; exact decide_eq_true hv
    rw [hr]
    obtain ⟨v1, v2, v3, v4, _, _⟩ := id hv
    have v5 : (D.length : Int) = R := hv.2.2.2.2.1
    have v6 : ∀ w ∈ D, V5 w C := hv.2.2.2.2.2
    simp only at v1 v2 v3 v4
    refine ⟨fun h => (by cases h), fun _ => ⟨by trivial, by trivial, fun _ _ => trivial, ?_⟩⟩
    rintro ⟨b1, _⟩ _ hb1
    simp only at hb1 ⊢
    refine ⟨by trivial, by trivial, fun _ _ _ => trivial, ?_⟩
    rintro ⟨b2, _⟩ hb2
    simp only at hb2 ⊢
    rw [Z6]
    have key : (b1 || b2) = true ↔ ((∃ i, i ∈ rows /\ (i < 0 \/ R <= i)) \/ ∃ i, i ∈ cols /\ (i < 0 \/ C <= i)) := by
      by_cases h1 : ∃ i, i ∈ rows /\ (i < 0 \/ R <= i)
      . have : b1 = true := by
          rw [hb1]
          obtain ⟨i, hi, hc⟩ := h1
          exact decide_eq_true ⟨i, hi, decide_eq_true hc⟩
        rw [this]
        exact ⟨fun _ => .inl h1, fun _ => rfl⟩
      . have h1' : b1 = false := by
          rw [hb1]
          exact decide_eq_false fun ⟨i, hi, hc⟩ => h1 ⟨i, hi, of_decide_eq_true hc⟩
        have hb2 := (hb2 h1').2
        rw [h1', Bool.false_or, hb2]
        constructor
        . intro h
          obtain ⟨i, hi, hc⟩ := of_decide_eq_true h
          exact .inr ⟨i, hi, of_decide_eq_true hc⟩
        . rintro (h | ⟨i, hi, hc⟩)
          . exact absurd h h1
          . exact decide_eq_true ⟨i, hi, decide_eq_true hc⟩
    refine ⟨fun h => ?_, fun h => ⟨trivial, ?_⟩⟩
    . have h := key.1 h
      exact ⟨fun h2 => absurd hv h2, fun _ => ⟨fun _ => ⟨rfl, by trivial⟩, fun h2 => absurd h h2⟩⟩
    have hnot : ¬ ((∃ i, i ∈ rows /\ (i < 0 \/ R <= i)) \/ ∃ i, i ∈ cols /\ (i < 0 \/ C <= i)) := fun h2 => by rw [key.2 h2] at h; cases h
    have hrows : ∀ i ∈ rows, 0 <= i /\ i < R := fun i hi => Decidable.byContradiction fun hn => hnot (.inl ⟨i, hi, by omega⟩)
    have hcols : ∀ i ∈ cols, 0 <= i /\ i < C := fun i hi => Decidable.byContradiction fun hn => hnot (.inr ⟨i, hi, by omega⟩)
    rintro ⟨b3, _⟩ _ hb3
    simp only at hb3 ⊢
    refine ⟨fun _ => trivial, ?_⟩
    rintro ⟨b4, _⟩ hb4
    simp only at hb4 ⊢
    have h3 : b3 = true := by rw [hb3]; exact decide_eq_true ⟨by omega, by omega⟩
    have h4 : b4 = true := by rw [(hb4 (by rw [h3]; rfl)).2]; exact decide_eq_true ⟨by omega, by omega⟩
    rw [h3, h4]
    refine ⟨fun h => (by cases h), fun _ => ?_⟩
    clear hb1 hb2 hb3 hb4 key h
    refine ⟨fun p => 0 <= p.1 /\ p.1 <= (cols.length : Int) /\ (∀ k : Nat, k < p.1.toNat -> J0 (.int .i64) (cols.getD k 0) p.2.1 = some [(k : Int)]) /\ ∀ c, c ∉ cols.take p.1.toNat -> J0 (.int .i64) c p.2.1 = Option.none, fun p => ((cols.length : Int) - p.1).toNat, ⟨Int.le_refl _, Int.natCast_nonneg _, fun k hk => by simp at hk, fun _ _ => rfl⟩, ?_⟩
    rintro ⟨i, es, _⟩ _ ⟨i0, i1, hm1, hm2⟩
    change Int at i
    change List (Int × List Int) at es
    simp only at i0 i1 hm1 hm2 ⊢
    refine ⟨fun hi => ?_, fun hi => ?_⟩
    . have hi := of_decide_eq_true hi
      have hg := Y6 (d := (0 : Int)) i0 hi
      have hlt : i.toNat < cols.length := by omega
      have hts : cols.take (i + 1).toNat = cols.take i.toNat ++ [cols.getD i.toNat 0] := by
        rw [show (i + 1).toNat = i.toNat + 1 from by omega, List.take_add_one, List.getElem?_eq_getElem hlt, B2s _ _ hlt]; rfl
      have hnin : cols.getD i.toNat 0 ∉ cols.take i.toNat := fun hin => by
        have h1 : (cols.take (i + 1).toNat).Nodup := hnd.take
        rw [hts, List.nodup_append] at h1
        exact h1.2.2 _ hin _ (List.mem_singleton.2 rfl) rfl
      rw [hg, wr (by omega) (by omega)]
      refine ⟨⟨i0, hi⟩, hm2 _ hnin, ⟨by simp only [List.length_singleton]; omega, by simp only [List.length_singleton]; omega⟩, ⟨by omega, by omega, fun k hk => ?_, fun c hc => ?_⟩, by omega⟩
      . show J0 (.int .i64) (cols.getD k 0) (C3k (.int .i64) (cols.getD i.toNat 0) [i] es) = _
        rw [B9k]
        by_cases hk2 : k = i.toNat
        . rw [if_pos (by rw [hk2]), hk2, show ((i.toNat : Nat) : Int) = i from by omega]
        . have hk3 : k < i.toNat := by have hk : k < (i + 1).toNat := hk; omega
          rw [if_neg, hm1 k hk3]
          intro he
          apply hnin
          rw [<- he, B2s _ _ (show k < cols.length by omega)]
          exact List.mem_iff_getElem.2 ⟨k, by rw [List.length_take]; omega, by simp⟩
      . show J0 (.int .i64) c (C3k (.int .i64) (cols.getD i.toNat 0) [i] es) = _
        have hc : c ∉ cols.take (i + 1).toNat := hc
        rw [hts, List.mem_append, List.mem_singleton, not_or] at hc
        rw [B9k, if_neg hc.2, hm2 c hc.1]
    . have hi := of_decide_eq_false hi
      rw [G7 (by omega)] at hm2
      have hin : i.toNat = cols.length := by omega
      rw [hin] at hm1
      rw [Int.toNat_natCast]
      refine ⟨⟨by omega, Int.le_refl _, by omega, by omega⟩, fun p => 0 <= p.1 /\ p.1 <= (rows.length : Int) /\ E2z rows.length p.1.toNat (fun i => isV cols.length fun j => el (R, C, D) (rows.getD i 0).toNat (cols.getD j 0).toNat) p.2.1, fun p => ((rows.length : Int) - p.1).toNat, ⟨Int.le_refl _, Int.natCast_nonneg _, F2r List.length_replicate⟩, ?_⟩
      rintro ⟨k, out, _⟩ _ ⟨k0, k1, hf⟩
      change Int at k
      change List (List Ent) at out
      simp only at k0 k1 hf ⊢
      have hol := hf.1
      refine ⟨fun hk => ?_, fun hk => ?_⟩
      . have hk := of_decide_eq_true hk
        have hg := Y6 (d := (0 : Int)) k0 hk
        have hri := hrows _ (T6 (d := (0 : Int)) k0 hk)
        rw [hg] at hri ⊢
        have hfs : ∀ {w : List Ent}, isV cols.length (fun j => el (R, C, D) (rows.getD k.toNat 0).toNat (cols.getD j 0).toNat) w -> E2z rows.length (k + 1).toNat (fun i => isV cols.length fun j => el (R, C, D) (rows.getD i 0).toNat (cols.getD j 0).toNat) (out.set k.toNat w) := fun {w} hw2 => C7w hf k0 hk hw2
        generalize rows.getD k.toNat 0 = ri' at *
        have hrD : ri' < (D.length : Int) := by omega
        rw [C5m hri.1 hrD]
        have hme : D.getD ri'.toNat [] ∈ D := U5 (by omega)
        have hrow := B8e hv hs hme
        have hvr := v6 _ hme
        have hcmp : ∀ c : Int, 0 <= c -> F2 (D.getD ri'.toNat []) c = el (R, C, D) ri'.toNat c.toNat := fun c hc => D6t _ _ hc
        generalize D.getD ri'.toNat [] = row at *
        have hrl := hrow.2.2
        refine ⟨⟨k0, hk⟩, ⟨hri.1, hrD⟩, fun p => 0 <= p.2.1 /\ p.2.1 <= (row.length : Int) /\ p.1.length <= p.2.1.toNat /\ (p.1.map fun e => e.1).Nodup /\ (∀ x ∈ p.1, ∃ q : Nat, q < cols.length /\ x.1 = (q : Int) /\ (∃ y ∈ row.take p.2.1.toNat, y.1 = cols.getD q 0) /\ rv x.2 ≠ 0 /\ x.2 = rc (rv x.2)) /\ ∀ j : Nat, j < cols.length -> F2 p.1 (j : Int) = F2 (row.take p.2.1.toNat) (cols.getD j 0), fun p => ((row.length : Int) - p.2.1).toNat, ⟨Int.le_refl _, Int.natCast_nonneg _, Nat.le_refl _, List.nodup_nil, fun _ h => (by cases h), fun j _ => rfl⟩, ?_⟩
        rintro ⟨o, t, _⟩ _ ⟨t0, t1, o1, o2, o3, o4⟩
        change List Ent at o
        change Int at t
        simp only at t0 t1 o1 o2 o3 o4 ⊢
        refine ⟨fun ht => ?_, fun ht => ?_⟩
        . have ht := of_decide_eq_true ht
          have hem := T6 (d := dEE) t0 ht
          obtain ⟨e0, e1, ez⟩ := hvr.2 _ hem
          have hse := hrow.2.1 _ hem
          have hct := C9a (d := dEE) t0 ht
          have hbef : ∀ y ∈ row.take t.toNat, y.1 ≠ (gx dEE row t).1 := fun x hx hxe => by
            have h1 : (row.take (t + 1).toNat).Pairwise (fun a b => a.1 < b.1) := hrow.1.take
            rw [show (t + 1).toNat = t.toNat + 1 from by omega, List.take_add_one, M7 (d := dEE) t0 ht, List.pairwise_append] at h1
            have := h1.2.2 x hx (gx dEE row t) (by simp)
            omega
          have hsub : ∀ y ∈ row.take t.toNat, y ∈ row.take (t + 1).toNat := fun y hy => by
            rw [show (t + 1).toNat = t.toNat + 1 from by omega, List.take_add_one]; exact List.mem_append.2 (.inl hy)
          have hnew : gx dEE row t ∈ row.take (t + 1).toNat := by
            rw [show (t + 1).toNat = t.toNat + 1 from by omega, List.take_add_one, M7 (d := dEE) t0 ht]; simp
          generalize gx dEE row t = e at *
          have hL : (J0 (.int .i64) e.1 es).getD [] = [] /\ e.1 ∉ cols \/ ∃ q : Nat, q < cols.length /\ cols.getD q 0 = e.1 /\ (J0 (.int .i64) e.1 es).getD [] = [(q : Int)] := by
            by_cases hc : e.1 ∈ cols
            . obtain ⟨q, hq, hqe⟩ := C7n 0 hc
              have := hm1 q hq
              rw [hqe] at this
              exact .inr ⟨q, hq, hqe, by rw [this]; rfl⟩
            . exact .inl ⟨by rw [hm2 _ hc]; rfl, hc⟩
          generalize (J0 (.int .i64) e.1 es).getD [] = L at *
          have hLl : L.length <= 1 := by
            rcases hL with ⟨h, _⟩ | ⟨q, _, _, h⟩ <;> rw [h] <;> simp
          refine ⟨⟨t0, ht⟩, fun p => 0 <= p.2.1 /\ p.2.1 <= (L.length : Int) /\ p.1 = o ++ (L.take p.2.1.toNat).map fun q => (q, rc (rv e.2)), fun p => ((L.length : Int) - p.2.1).toNat, ⟨Int.le_refl _, Int.natCast_nonneg _, by simp⟩, ?_⟩
          rintro ⟨o', u, _⟩ _ ⟨u0, u1, ho'⟩
          change List Ent at o'
          change Int at u
          simp only at u0 u1 ho' ⊢
          have hol' : o'.length <= o.length + 1 := by
            rw [ho', List.length_append, List.length_map, List.length_take]; omega
          refine ⟨fun hu => ?_, fun hu => ?_⟩
          . have hu := of_decide_eq_true hu
            refine ⟨⟨u0, hu⟩, B1n hse (by decide), ?_⟩
            rintro ⟨q, _⟩ _ hq
            simp only at hq ⊢
            rw [wr (by omega) (by omega)]
            refine ⟨⟨by simp only [List.length_singleton]; omega, by simp only [List.length_singleton]; omega⟩, ⟨by omega, by omega, ?_⟩, by omega⟩
            rw [ho', hq, show (u + 1).toNat = u.toNat + 1 from by omega, List.take_add_one, M7 (d := (0 : Int)) u0 hu, List.map_append, List.append_assoc]; rfl
          . have hu := of_decide_eq_false hu
            rw [G7 (l := L) (i := u) (by omega)] at ho'
            rw [wr (by omega) (by omega)]
            have hcj : ∀ j : Nat, j < cols.length -> F2 (row.take (t + 1).toNat) (cols.getD j 0) = F2 (row.take t.toNat) (cols.getD j 0) + if e.1 = cols.getD j 0 then rv e.2 else 0 := fun j _ => hct _
            have hmono : ∀ x ∈ o, ∃ q : Nat, q < cols.length /\ x.1 = (q : Int) /\ (∃ y ∈ row.take (t + 1).toNat, y.1 = cols.getD q 0) /\ rv x.2 ≠ 0 /\ x.2 = rc (rv x.2) := fun x hx => by
              obtain ⟨q, h1, h2, ⟨y, hy, h3⟩, h4, h5⟩ := o3 x hx
              exact ⟨q, h1, h2, ⟨y, hsub y hy, h3⟩, h4, h5⟩
            rcases hL with ⟨hL, hnc⟩ | ⟨q, hq, hqe, hL⟩
            . rw [hL, List.map_nil, List.append_nil] at ho'
              subst ho'
              refine ⟨⟨by omega, by omega, by omega, o2, hmono, fun j hj => ?_⟩, by omega⟩
              rw [o4 j hj, hcj j hj, if_neg (fun h => hnc (by rw [h]; exact U5 hj)), Rat.add_zero]
            . rw [hL, List.map_cons, List.map_nil] at ho'
              subst ho'
              refine ⟨⟨by omega, by omega, by omega, ?_, fun x hx => ?_, fun j hj => ?_⟩, by omega⟩
              . show ((o ++ [((q : Int), rc (rv e.2))]).map fun e : Ent => e.1).Nodup
                rw [List.map_append, List.nodup_append]
                refine ⟨o2, by simp, fun a ha b hb hab => ?_⟩
                obtain ⟨x, hx, rfl⟩ := List.mem_map.1 ha
                simp only [List.map_cons, List.map_nil, List.mem_singleton] at hb
                obtain ⟨q', h1, h2, ⟨y, hy, h3⟩, _⟩ := o3 x hx
                have : q' = q := by omega
                subst this
                exact hbef y hy (by rw [h3, hqe])
              . rcases List.mem_append.1 hx with hx | hx
                . exact hmono x hx
                . rw [List.mem_singleton.1 hx]
                  exact ⟨q, hq, rfl, ⟨e, hnew, hqe.symm⟩, by rw [A5e]; exact ez, by rw [A5e]⟩
              . show F2 (o ++ [((q : Int), rc (rv e.2))]) (j : Int) = _
                rw [B9w, o4 j hj, hcj j hj]
                congr 1
                by_cases hqj : q = j
                . subst hqj
                  rw [if_pos rfl, if_pos hqe.symm]
                . rw [if_neg (by omega), if_neg]
                  intro h6
                  apply hqj
                  have h7 : cols.getD q 0 = cols.getD j 0 := hqe.trans h6
                  rw [B2s _ _ hq, B2s _ _ hj] at h7
                  exact (List.getElem_inj hnd).1 h7
        . have ht := of_decide_eq_false ht
          rw [G7 (by omega)] at o4
          refine ⟨by omega, fun l' _ hpm hst => ?_⟩
          have hst : l'.Pairwise fun a b : Ent => ¬ C7b b.1 a.1 < 0 := hst
          rw [wr (by omega) (by omega)]
          refine ⟨⟨k0, by omega⟩, ⟨by omega, by omega, hfs ?_⟩, by omega⟩
          have hnd2 : (l'.map fun e : Ent => e.1).Nodup := (hpm.map _).nodup_iff.2 o2
          have hasc : asc l' := by
            unfold List.Nodup at hnd2
            rw [List.pairwise_map] at hnd2
            refine List.Pairwise.imp₂ ?_ hst hnd2
            intro a b h1 h2
            have := F8o h1
            omega
          have hx : ∀ x ∈ l', ∃ q : Nat, q < cols.length /\ x.1 = (q : Int) /\ rv x.2 ≠ 0 /\ x.2 = rc (rv x.2) := fun x hx => by
            obtain ⟨q, h1, h2, _, h4, h5⟩ := o3 x (hpm.mem_iff.1 hx)
            exact ⟨q, h1, h2, h4, h5⟩
          refine ⟨⟨hasc, fun x hx' => ?_⟩, fun x hx' => ?_, fun j hj => ?_⟩
          . obtain ⟨q, _, _, h4, h5⟩ := hx x hx'
            exact ⟨h4, h5⟩
          . obtain ⟨q, h1, h2, _⟩ := hx x hx'
            omega
          . rw [E9j hpm, o4 j hj]
            exact hcmp _ (hcols _ (U5 hj)).1
      . have hk := of_decide_eq_false hk
        exact ⟨fun h => absurd hv h, fun _ => ⟨fun h2 => absurd h2 hnot, fun _ => ⟨fun h2 => absurd h2 (by omega), fun _ => ⟨⟨rfl, rfl, hf.1, fun i hi => hf.2 i (by omega)⟩, by trivial⟩⟩⟩⟩
  . have hr : r = false := by rw [hr]; exact decide_eq_false hv
    rw [hr]
    exact ⟨fun _ => ⟨fun _ => ⟨rfl, by trivial⟩, fun h => absurd h hv⟩, fun h => (by cases h)⟩
def E3k : An := { loop := [(3, ⟨[0, 4, 5], [0], [(6, false, [.val (.int .i64)])], [(1, 24, [.val (.int .i64), .val (.int .i64), .own (.sl tE) 92])], []⟩)], plan := [(5, [1, 5], [8, 10], false, (.p 0 (.q 1 (.p 2 (.p 3 (.p 4 (.q 5 (.e 6 (.e 7 (.e 8 (.p 9 (.e 10 .done))))))))))))] }
def D0n : B6 := [(105, L9)]
def C6x : An := { loop := [(4, ⟨[2, 3], [0, 1], [(5, false, [.val (.int .i64)])], [], []⟩)], plan := [(6, [1, 4, 6, 9], [], true, (.p 0 (.q 1 (.p 2 (.p 3 (.q 4 (.p 5 (.q 6 (.p 7 (.p 8 (.q 9 (.e 10 (.p 11 .done)))))))))))))] }
def A9o : B6 := [(126, M0)]
def B6v : A7 W3.args -> Prop := fun (x : List (List QQ) × Int × Unit) => ∃ (I : Int × Int × Int × List (List EE) × Unit -> Prop), ∃ (μ : Int × Int × Int × List (List EE) × Unit -> Nat), I ((0 : Int), (x.1.length : Int), x.2.1, [], ()) /\ ∀ (p : Int × Int × Int × List (List EE) × Unit), G2 p.1 /\ G2 p.2.1 /\ G2 p.2.2.1 /\ F4z p.2.2.2.1 /\ True -> I p -> (decide (p.1 < (x.1.length : Int)) = true -> (0 <= p.1 /\ p.1 < (x.1.length : Int)) /\ ((gx [] x.1 p.1).length <= (100000 : Nat) /\ szL K1 (gx [] x.1 p.1)) /\ ∀ (r : List EE × Unit), B8j r.1 /\ True -> isV (gx [] x.1 p.1).length (fun (j : Nat) => rv ((gx [] x.1 p.1).getD j zr)) r.1 -> ((List.length p.2.2.2.1 + [r.1].length) * (24 : Nat) <= (140737488355328 : Nat) /\ List.length p.2.2.2.1 + [r.1].length <= 9223372036854775807) /\ I (IntKind.i64.wrap (p.1 + 1), p.2.1, p.2.2.1, p.2.2.2.1 ++ [r.1], ()) /\ μ (IntKind.i64.wrap (p.1 + 1), p.2.1, p.2.2.1, p.2.2.2.1 ++ [r.1], ()) < μ p) /\ (decide (p.1 < (x.1.length : Int)) = false -> p.2.1 = (↑x.1.length : Int) /\ p.2.2.1 = (↑x.2.1.toNat : Int) /\ List.length p.2.2.2.1 = x.1.length /\ ∀ (i : Nat), i < x.1.length -> C5c (List.getD p.2.2.2.1 i []) /\ (∀ (e : Ent), e ∈ List.getD p.2.2.2.1 i [] -> 0 <= e.1 /\ e.1 < (↑x.2.1.toNat : Int)) /\ ∀ (j : Nat), j < x.2.1.toNat -> F2 (List.getD p.2.2.2.1 i []) (↑j : Int) = rv ((x.1.getD i []).getD j zr))
theorem D3d (x : A7 W3.args) : K8 Tryz.prog tys D0n E3k W3 Tryz.f78 x = B6v x := by kernel_rfl
def A3h : A7 J5.args -> Prop := fun (x : MM × MM × Unit) => (sel (sel (decide (x.1.1 ≠ x.2.1.1)) true (decide (x.1.2.1 ≠ x.2.1.2.1))) true (decide ((x.1.2.2.length : Int) ≠ (x.2.1.2.2.length : Int))) = true -> (false = true ↔ x.1 = x.2.1 /\ ∀ (v : List EE), v ∈ x.1.2.2 -> ∀ (e : EE), e ∈ v -> e.2 = rc (rv e.2))) /\ (sel (sel (decide (x.1.1 ≠ x.2.1.1)) true (decide (x.1.2.1 ≠ x.2.1.2.1))) true (decide ((x.1.2.2.length : Int) ≠ (x.2.1.2.2.length : Int))) = false -> ∃ (I : Int × Unit -> Prop), ∃ (μ : Int × Unit -> Nat), I ((0 : Int), ()) /\ ∀ (p : Int × Unit), G2 p.1 /\ True -> I p -> (decide (p.1 < (x.1.2.2.length : Int)) = true -> (0 <= p.1 /\ p.1 < (x.1.2.2.length : Int)) /\ (0 <= p.1 /\ p.1 < (x.2.1.2.2.length : Int)) /\ szV K1 (gx [] x.1.2.2 p.1) /\ ∀ (r : Bool × Unit), True /\ True -> r.1 = decide (gx [] x.1.2.2 p.1 = gx [] x.2.1.2.2 p.1 /\ ∀ (e : EE), e ∈ gx [] x.1.2.2 p.1 -> e.2 = rc (rv e.2)) -> ((!r.1) = true -> (false = true ↔ x.1 = x.2.1 /\ ∀ (v : List EE), v ∈ x.1.2.2 -> ∀ (e : EE), e ∈ v -> e.2 = rc (rv e.2))) /\ ((!r.1) = false -> I (IntKind.i64.wrap (p.1 + 1), ()) /\ μ (IntKind.i64.wrap (p.1 + 1), ()) < μ p)) /\ (decide (p.1 < (x.1.2.2.length : Int)) = false -> (true = true ↔ x.1 = x.2.1 /\ ∀ (v : List EE), v ∈ x.1.2.2 -> ∀ (e : EE), e ∈ v -> e.2 = rc (rv e.2))))
theorem B7k (x : A7 J5.args) : K8 Tryz.prog tys A9o C6x J5 Tryz.f58 x = A3h x := by kernel_rfl
theorem D1j (x : A7 W3.args) (hw : awf W3.args x) (hp : W3.pre x) : B6v x := by
  obtain ⟨D, C, _⟩ := x
  change List (List X5) at D
  change Int at C
  obtain ⟨hs, c0, c1, hl⟩ : (∀ l ∈ D, szL K1 l /\ (l.length : Int) = C) /\ 0 <= C /\ C <= 16384 /\ D.length <= 16384 := hp
  simp only [B6v]
  refine ⟨fun p => 0 <= p.1 /\ p.1 <= (D.length : Int) /\ p.2.1 = (D.length : Int) /\ p.2.2.1 = C /\ p.2.2.2.1.length = p.1.toNat /\ ∀ i, i < p.1.toNat -> isV C.toNat (fun j => rv ((D.getD i []).getD j zr)) (p.2.2.2.1.getD i []), fun p => ((D.length : Int) - p.1).toNat, ⟨Int.le_refl _, Int.natCast_nonneg _, rfl, rfl, rfl, fun i hi => by simp at hi⟩, ?_⟩
  rintro ⟨i, a, b, rows, _⟩ _ ⟨i0, i1, ha, hb, hrl, hf⟩
  change Int at i a b
  change List (List Ent) at rows
  simp only at i0 i1 ha hb hrl hf ⊢
  refine ⟨fun h => ?_, fun h => ?_⟩
  . have h := of_decide_eq_true h
    have hme := T6 (d := ([] : List X5)) i0 h
    obtain ⟨h1, h2⟩ := hs _ hme
    refine ⟨⟨i0, h⟩, ⟨by omega, h1⟩, ?_⟩
    rintro ⟨v, _⟩ _ hv
    simp only at hv ⊢
    rw [wr (by omega) (by omega)]
    rw [show (gx [] D i).length = C.toNat from by omega, Y6 i0 h] at hv
    refine ⟨⟨by simp only [List.length_singleton]; omega, by simp only [List.length_singleton]; omega⟩, ⟨by omega, by omega, ha, hb, by rw [List.length_append, List.length_singleton]; omega, fun k hk => ?_⟩, by omega⟩
    show isV _ _ ((rows ++ [v]).getD k [])
    by_cases hk2 : k < rows.length
    . have h9 : (rows ++ [v]).getD k [] = rows.getD k [] := by
        rw [List.getD_eq_getElem?_getD, List.getElem?_append_left hk2, <- List.getD_eq_getElem?_getD]
      rw [h9]; exact hf k (by omega)
    . have hk3 : k = i.toNat := by omega
      have h9 : (rows ++ [v]).getD k [] = v := by
        rw [List.getD_eq_getElem?_getD, List.getElem?_append_right (by omega), show k - rows.length = 0 from by omega]; rfl
      rw [h9, hk3]
      exact hv
  . have h := of_decide_eq_false h
    exact ⟨ha, by omega, by omega, fun k hk => hf k (by omega)⟩
theorem B5i (x : A7 J5.args) (hw : awf J5.args x) (hp : J5.pre x) : A3h x := by
  obtain ⟨⟨R, C, D⟩, ⟨R', C', D'⟩, _⟩ := x
  have hDl : D.length <= 9223372036854775807 := hw.1.2.2.1
  change Int at R C R' C'
  change List (List Ent) at D D'
  have hs : okM K1 (R, C, D) := hp
  simp only [A3h]
  simp only [Z6]
  refine ⟨fun h => ?_, fun h => ?_⟩
  . simp only [Bool.or_eq_true, decide_eq_true_eq] at h
    refine ⟨fun h2 => (by cases h2), fun h2 => ?_⟩
    have h3 := h2.1
    simp only [Prod.mk.injEq] at h3
    obtain ⟨rfl, rfl, rfl⟩ := h3
    simp at h
  . simp only [Bool.or_eq_false_iff, decide_eq_false_iff_not, Decidable.not_not] at h
    obtain ⟨⟨rfl, rfl⟩, hlen⟩ := h
    refine ⟨fun p => 0 <= p.1 /\ p.1 <= (D.length : Int) /\ D.take p.1.toNat = D'.take p.1.toNat /\ ∀ v ∈ D.take p.1.toNat, ∀ e ∈ v, e.2 = rc (rv e.2), fun p => ((D.length : Int) - p.1).toNat, ⟨Int.le_refl _, Int.natCast_nonneg _, by simp, by simp⟩, ?_⟩
    rintro ⟨i, _⟩ _ ⟨h0, h1, h2, h3⟩
    change Int at i
    simp only at h0 h1 h2 h3 ⊢
    refine ⟨fun h => ?_, fun h => ?_⟩
    . have h := of_decide_eq_true h
      have hme := T6 (d := ([] : List Ent)) h0 h
      have ga := M7 (d := ([] : List Ent)) h0 h
      have gb := M7 (d := ([] : List Ent)) (l := D') h0 (by omega)
      have hta : D.take (i + 1).toNat = D.take i.toNat ++ [gx [] D i] := by
        rw [show (i + 1).toNat = i.toNat + 1 from by omega, List.take_add_one, ga]; rfl
      have htb : D'.take (i + 1).toNat = D'.take i.toNat ++ [gx [] D' i] := by
        rw [show (i + 1).toNat = i.toNat + 1 from by omega, List.take_add_one, gb]; rfl
      refine ⟨⟨h0, h⟩, ⟨h0, by omega⟩, hs _ hme, ?_⟩
      rintro ⟨q, _⟩ _ hq
      simp only at hq ⊢
      refine ⟨fun h4 => ⟨fun h5 => (by cases h5), fun h5 => ?_⟩, fun h4 => ?_⟩
      . obtain ⟨h6, h7⟩ := h5
        simp only [Prod.mk.injEq, true_and] at h6
        subst h6
        rw [hq, decide_eq_true (⟨rfl, h7 _ hme⟩ : _ /\ _)] at h4
        cases h4
      . rw [hq] at h4
        have h4 : gx [] D i = gx [] D' i /\ ∀ e ∈ gx [] D i, e.2 = rc (rv e.2) := of_decide_eq_true (by simpa using h4)
        rw [wr (by omega) (by omega)]
        refine ⟨⟨by omega, by omega, by rw [hta, htb, h2, h4.1], fun v hv => ?_⟩, by omega⟩
        rw [hta] at hv
        rcases List.mem_append.1 hv with hv | hv
        . exact h3 v hv
        . rw [List.mem_singleton.1 hv]; exact h4.2
    . have h := of_decide_eq_false h
      rw [G7 (by omega), G7 (by omega)] at h2
      rw [G7 (by omega)] at h3
      subst h2
      exact ⟨fun _ => ⟨rfl, h3⟩, fun _ => by trivial⟩
def grown (n m i j : Nat) (f : Nat -> Nat -> Rat) (rows : List (List X5)) : Prop := rows.length = n /\ ∀ k, k < n -> rows.getD k [] = (List.range (if k < i then m else if k = i then j else 0)).map fun l => rc (f k l)
def E3f : An := {}
def C8b : B6 := []
def E2u : An := {}
def C7t : B6 := []
def C1q : An := { plan := [(1, [3, 7], [], true, (.p 0 (.p 1 (.p 2 (.q 3 (.p 4 (.p 5 (.p 6 (.q 7 (.p 8 (.p 9 .done))))))))))), (4, [3, 7, 10], [], true, (.p 0 (.p 1 (.p 2 (.q 3 (.p 4 (.p 5 (.p 6 (.q 7 (.p 8 (.p 9 (.q 10 (.p 11 (.e 12 (.p 13 .done)))))))))))))))] }
def A6v : B6 := [(49, A0e)]
def C6q : An := {}
def A9g : B6 := [(28, F7), (144, A5j)]
def B7a : An := { join := [(12, ⟨[0, 1, 2, 6, 7, 8, 9, 10, 11], [1, 2, 3], [], [(0, 103, [.val (.sl (.int .i64)), .val (.int .i64)]), (4, 31, [.val .bool, .val (.sl (.int .u32)), .val (.sl (.int .u32))])], []⟩)], loop := [(7, ⟨[0, 1, 2, 6, 7, 8], [1, 2], [(9, false, [.own tQ 31]), (10, false, [.val (.int .i64)])], [(0, 103, [.val (.sl (.int .i64)), .val (.int .i64)])], []⟩), (3, ⟨[0, 1, 2, 6], [1], [(7, false, [.own (.sl tQ) 56]), (8, false, [.val (.int .i64)])], [(0, 103, [.val (.sl (.int .i64)), .val (.int .i64)])], []⟩)] }
def A4i : B6 := [(28, F7), (75, T8), (78, W3), (79, L4)]
def B5o : A7 A0e.args -> Prop := fun (x : Int × Int × Unit) => IntKind.u64.wrap x.2.1 ≠ 0 /\ (0 < x.2.1 -> (0 : Int) <= IntKind.i64.wrap ((IntKind.u64.wrap x.1).tmod (IntKind.u64.wrap x.2.1)) /\ IntKind.i64.wrap ((IntKind.u64.wrap x.1).tmod (IntKind.u64.wrap x.2.1)) < x.2.1 /\ IntKind.i64.wrap ((IntKind.u64.wrap x.1).tmod (IntKind.u64.wrap x.2.1)) = (IntKind.u64.wrap x.1).tmod x.2.1)
theorem D2h (x : A7 A0e.args) : K8 Tryz.prog tys C8b E3f A0e Tryz.f49 x = B5o x := by kernel_rfl
def C8w : A7 Z8.args -> Prop := fun (x : List Int × Unit) => (x.1, (0 : Int)) = (x.1, (0 : Int))
theorem D1m (x : A7 Z8.args) : K8 Tryz.prog tys C7t E2u Z8 Tryz.f18 x = C8w x := by kernel_rfl
def A1w : A7 F7.args -> Prop := fun (x : (List Int × Int) × Int × Unit) => (decide ((x.1.1.length : Int) <= x.1.2) = true -> ((0 : Int) <= (0 : Int) /\ 0 < x.2.1) /\ x.1.1 = x.1.1 /\ 0 <= x.1.2 /\ x.1.2 <= (↑x.1.1.length : Int)) /\ (decide ((x.1.1.length : Int) <= x.1.2) = false -> ((0 : Int) <= IntKind.i64.wrap (IntKind.i64.wrap (x.1.2 + 1) - (1 : Int)) /\ IntKind.i64.wrap (IntKind.i64.wrap (x.1.2 + 1) - (1 : Int)) < (x.1.1.length : Int)) /\ 0 < x.2.1 /\ ∀ (r : Int × Unit), G2 r.1 /\ True -> (0 < x.2.1 -> 0 <= r.1 /\ r.1 < x.2.1 /\ r.1 = (IntKind.u64.wrap (gx (0 : Int) x.1.1 (IntKind.i64.wrap (IntKind.i64.wrap (x.1.2 + 1) - (1 : Int))))).tmod x.2.1) -> (0 <= r.1 /\ r.1 < x.2.1) /\ x.1.1 = x.1.1 /\ (0 : Int) <= IntKind.i64.wrap (x.1.2 + 1) /\ IntKind.i64.wrap (x.1.2 + 1) <= (↑x.1.1.length : Int))
theorem B4f (x : A7 F7.args) : K8 Tryz.prog tys A6v C1q F7 Tryz.f28 x = A1w x := by kernel_rfl
def A3k : A7 L4.args -> Prop := fun (x : (List Int × Int) × Unit) => ((0 : Int) < (13 : Int) /\ 0 <= x.1.2 /\ x.1.2 <= (x.1.1.length : Int)) /\ ∀ (r : Int × Unit) (o : (List Int × Int) × Unit), G2 r.1 /\ True -> ((Ty.int IntKind.i64).sl.pair (Ty.int IntKind.i64)).wf o.1 /\ True -> 0 <= r.1 /\ r.1 < 13 -> o.1.1 = x.1.1 /\ 0 <= o.1.2 /\ o.1.2 <= (x.1.1.length : Int) -> ((0 : Int) < (4 : Int) /\ 0 <= o.1.2 /\ o.1.2 <= (o.1.1.length : Int)) /\ ∀ (b : Int × Unit) (a : (List Int × Int) × Unit), G2 b.1 /\ True -> ((Ty.int IntKind.i64).sl.pair (Ty.int IntKind.i64)).wf a.1 /\ True -> 0 <= b.1 /\ b.1 < 4 -> a.1.1 = o.1.1 /\ 0 <= a.1.2 /\ a.1.2 <= (o.1.1.length : Int) -> True /\ ∀ (c : QQ × Unit), WfQ c.1 /\ True -> c.1 = rc (Rat.divInt (IntKind.i64.wrap (r.1 - 6)) (IntKind.i64.wrap (1 + b.1))) -> F3e c.1 /\ a.1.1 = x.1.1 /\ 0 <= a.1.2 /\ a.1.2 <= (↑x.1.1.length : Int)
theorem B6n (x : A7 L4.args) : K8 Tryz.prog tys A9g C6q L4 Tryz.f79 x = A3k x := by kernel_rfl
def Z4 : A7 H1.args -> Prop := fun (x : (List Int × Int) × Int × Int × Unit) => ∃ (I : List (List QQ) × Int × List Int × Int × Unit -> Prop), ∃ (μ : List (List QQ) × Int × List Int × Int × Unit -> Nat), I ([], (0 : Int), x.1.1, x.1.2, ()) /\ ∀ (p : List (List QQ) × Int × List Int × Int × Unit), G4a p.1 /\ G2 p.2.1 /\ WfI p.2.2.1 /\ G2 p.2.2.2.1 /\ True -> I p -> (decide (p.2.1 < x.2.1) = true -> ∃ (I_1 : List QQ × Int × List Int × Int × Unit -> Prop), ∃ (μ_1 : List QQ × Int × List Int × Int × Unit -> Nat), I_1 ([], (0 : Int), p.2.2.1, p.2.2.2.1, ()) /\ ∀ (a : List QQ × Int × List Int × Int × Unit), WfL a.1 /\ G2 a.2.1 /\ WfI a.2.2.1 /\ G2 a.2.2.2.1 /\ True -> I_1 a -> (decide (a.2.1 < x.2.2.1) = true -> True /\ ∀ (r : QQ × Unit), WfQ r.1 /\ True -> r.1 = rc (0 : Rat) -> ∃ (J : List Int × Int × Bool × List Int × List Int × Unit -> Prop), (((0 : Int) < (3 : Int) /\ 0 <= a.2.2.2.1 /\ a.2.2.2.1 <= (a.2.2.1.length : Int)) /\ ∀ (c : Int × Unit) (o : (List Int × Int) × Unit), G2 c.1 /\ True -> ((Ty.int IntKind.i64).sl.pair (Ty.int IntKind.i64)).wf o.1 /\ True -> 0 <= c.1 /\ c.1 < 3 -> o.1.1 = a.2.2.1 /\ 0 <= o.1.2 /\ o.1.2 <= (a.2.2.1.length : Int) -> (decide (0 < c.1) = true -> (0 <= o.1.2 /\ o.1.2 <= (o.1.1.length : Int)) /\ ∀ (r : QQ × Unit) (b : (List Int × Int) × Unit), WfQ r.1 /\ True -> ((Ty.int IntKind.i64).sl.pair (Ty.int IntKind.i64)).wf b.1 /\ True -> F3e r.1 -> b.1.1 = o.1.1 /\ 0 <= b.1.2 /\ b.1.2 <= (o.1.1.length : Int) -> J (b.1.1, b.1.2, r.1.1.1, r.1.1.2, r.1.2, ())) /\ (decide (0 < c.1) = false -> J (o.1.1, o.1.2, r.1.1.1, r.1.1.2, r.1.2, ()))) /\ ∀ (p : List Int × Int × Bool × List Int × List Int × Unit), WfI p.1 /\ G2 p.2.1 /\ True /\ WfU p.2.2.2.1 /\ WfU p.2.2.2.2.1 /\ True -> J p -> ((List.length a.1 + [((p.2.2.1, p.2.2.2.1), p.2.2.2.2.1)].length) * (56 : Nat) <= (140737488355328 : Nat) /\ List.length a.1 + [((p.2.2.1, p.2.2.2.1), p.2.2.2.2.1)].length <= 9223372036854775807) /\ I_1 (a.1 ++ [((p.2.2.1, p.2.2.2.1), p.2.2.2.2.1)], IntKind.i64.wrap (a.2.1 + 1), p.1, p.2.1, ()) /\ μ_1 (a.1 ++ [((p.2.2.1, p.2.2.2.1), p.2.2.2.2.1)], IntKind.i64.wrap (a.2.1 + 1), p.1, p.2.1, ()) < μ_1 a) /\ (decide (a.2.1 < x.2.2.1) = false -> ((List.length p.1 + [a.1].length) * (24 : Nat) <= (140737488355328 : Nat) /\ List.length p.1 + [a.1].length <= 9223372036854775807) /\ I (p.1 ++ [a.1], IntKind.i64.wrap (p.2.1 + 1), a.2.2.1, a.2.2.2.1, ()) /\ μ (p.1 ++ [a.1], IntKind.i64.wrap (p.2.1 + 1), a.2.2.1, a.2.2.2.1, ()) < μ p)) /\ (decide (p.2.1 < x.2.1) = false -> ((∀ (l : List QQ), l ∈ p.1 -> szL K1 l /\ (↑l.length : Int) = x.2.2.1) /\ 0 <= x.2.2.1 /\ x.2.2.1 <= 16384 /\ List.length p.1 <= 16384) /\ ∀ (r : MM × Unit), WfM r.1 /\ True -> isM (List.length p.1) (Int.toNat x.2.2.1) (fun (i j : Nat) => rv ((List.getD p.1 i []).getD j zr)) r.1 -> F9g x.2.1.toNat x.2.2.1.toNat r.1 /\ p.2.2.1 = x.1.1 /\ 0 <= p.2.2.2.1 /\ p.2.2.2.1 <= (↑x.1.1.length : Int))
theorem A9w (x : A7 H1.args) : K8 Tryz.prog tys A4i B7a H1 Tryz.f20 x = Z4 x := by kernel_rfl
theorem D2z (x : A7 Z8.args) (_ : awf Z8.args x) (_ : Z8.pre x) : C8w x := rfl
theorem B4b (x : A7 F7.args) (hw : awf F7.args x) (hp : F7.pre x) : A1w x := by
  obtain ⟨⟨l, i⟩, n, _⟩ := x
  have hl : l.length <= 9223372036854775807 := hw.1.1.1
  change Int at i n
  change List Int at l
  obtain ⟨p0, p1, p2⟩ : 0 < n /\ 0 <= i /\ i <= (l.length : Int) := hp
  simp only [A1w]
  refine ⟨fun h => ⟨⟨by omega, p0⟩, by trivial, p1, p2⟩, fun h => ?_⟩
  have h := of_decide_eq_false h
  rw [wr (a := i + 1) (by omega) (by omega), wr (a := i + 1 - 1) (by omega) (by omega)]
  refine ⟨⟨by omega, by omega⟩, p0, ?_⟩
  rintro ⟨r, _⟩ _ hr
  exact ⟨⟨(hr p0).1, (hr p0).2.1⟩, by trivial, by omega, by omega⟩
theorem D2f (x : A7 A0e.args) (hw : awf A0e.args x) (hp : A0e.pre x) : B5o x := by
  obtain ⟨a, b, _⟩ := x
  change Int at a b
  have hb : 0 < b := hp
  have h1 : inR .i64 b := hw.2.1
  unfold inR at h1
  rw [show IntKind.i64.min = -9223372036854775808 from by decide, show IntKind.i64.max = 9223372036854775807 from by decide] at h1
  simp only [B5o]
  have e : IntKind.u64.wrap b = b := by simp [IntKind.wrap, IntKind.bits, IntKind.signed]; omega
  have h2 : 0 <= IntKind.u64.wrap a := by simp [IntKind.wrap, IntKind.bits, IntKind.signed]; omega
  rw [e]
  have h3 : 0 <= (IntKind.u64.wrap a).tmod b := Int.tmod_nonneg _ h2
  have h4 : (IntKind.u64.wrap a).tmod b < b := Int.tmod_lt_of_pos _ hb
  rw [wr (by omega) (by omega)]
  exact ⟨by omega, fun _ => ⟨h3, h4, rfl⟩⟩
theorem E3q {a b : Int} (ha : a.natAbs < 4294967296) (h0 : 0 < b) (hb : b.natAbs < 4294967296) : F3e (rc (Rat.divInt a b)) := by
  refine ⟨_, ?_, rfl⟩
  rw [D3p h0]
  exact D5s (by omega) (A5i (by simpa using ha)) (A5i (by simpa using hb))
theorem B6q (x : A7 L4.args) (hw : awf L4.args x) (hp : L4.pre x) : A3k x := by
  obtain ⟨⟨l, i⟩, _⟩ := x
  change Int at i
  change List Int at l
  obtain ⟨p1, p2⟩ : 0 <= i /\ i <= (l.length : Int) := hp
  simp only [A3k]
  refine ⟨⟨by omega, p1, p2⟩, ?_⟩
  rintro ⟨a, _⟩ ⟨⟨l1, i1⟩, _⟩ _ _ ha ho
  change Int at i1 a
  change List Int at l1
  simp only at ha ho ⊢
  obtain ⟨rfl, h1, h2⟩ := ho
  refine ⟨⟨by omega, h1, h2⟩, ?_⟩
  rintro ⟨b, _⟩ ⟨⟨l2, i2⟩, _⟩ _ _ hb ho
  change Int at i2 b
  change List Int at l2
  simp only at hb ho ⊢
  obtain ⟨rfl, h1, h2⟩ := ho
  refine ⟨trivial, ?_⟩
  rintro ⟨q, _⟩ _ hq
  simp only at hq ⊢
  rw [wr (by omega) (by omega), wr (by omega) (by omega)] at hq
  exact ⟨by rw [hq]; exact E3q (by omega) (by omega) (by omega), by trivial, h1, h2⟩
theorem F8p {x : X5} (h : F3e x) : qs 1 (rv x) := by
  obtain ⟨q, hq, rfl⟩ := h
  rw [A5e]; exact hq
theorem F0u {x : X5} (h : F3e x) {k : Nat} (hk : 1 <= k) : sz k x := by
  obtain ⟨q, hq, rfl⟩ := h
  exact ⟨Nat.le_trans hq.1 hk, Nat.le_trans hq.2 hk⟩
theorem A9v (x : A7 H1.args) (hw : awf H1.args x) (hp : H1.pre x) : Z4 x := by
  obtain ⟨⟨l, i⟩, R, C, _⟩ := x
  change Int at i R C
  change List Int at l
  obtain ⟨r0, r1, c0, c1, p1, p2⟩ : 0 <= R /\ R <= 20 /\ 0 <= C /\ C <= 20 /\ 0 <= i /\ i <= (l.length : Int) := hp
  simp only [Z4]
  refine ⟨fun p => 0 <= p.2.1 /\ p.2.1 <= R /\ (p.1.length : Int) = p.2.1 /\ (∀ v ∈ p.1, (v.length : Int) = C /\ ∀ e ∈ v, F3e e) /\ p.2.2.1 = l /\ 0 <= p.2.2.2.1 /\ p.2.2.2.1 <= (l.length : Int), fun p => (R - p.2.1).toNat, ⟨Int.le_refl _, r0, rfl, fun e he => (by cases he), rfl, p1, p2⟩, ?_⟩
  rintro ⟨o, k, l1, i1, _⟩ _ ⟨h0, h1, h2, h3, h4, h5, h6⟩
  change Int at k i1
  change List Int at l1
  change List (List X5) at o
  simp only at h0 h1 h2 h3 h4 h5 h6 ⊢
  subst h4
  refine ⟨fun h => ?_, fun h => ?_⟩
  . have h := of_decide_eq_true h
    refine ⟨fun p => 0 <= p.2.1 /\ p.2.1 <= C /\ (p.1.length : Int) = p.2.1 /\ (∀ e ∈ p.1, F3e e) /\ p.2.2.1 = l1 /\ 0 <= p.2.2.2.1 /\ p.2.2.2.1 <= (l1.length : Int), fun p => (C - p.2.1).toNat, ⟨Int.le_refl _, c0, rfl, fun e he => (by cases he), rfl, h5, h6⟩, ?_⟩
    rintro ⟨u, j, l2, i2, _⟩ _ ⟨g0, g1, g2, g3, g4, g5, g6⟩
    change Int at j i2
    change List Int at l2
    change List X5 at u
    simp only at g0 g1 g2 g3 g4 g5 g6 ⊢
    subst g4
    refine ⟨fun h => ?_, fun h => ?_⟩
    . have h := of_decide_eq_true h
      refine ⟨trivial, ?_⟩
      rintro ⟨z, _⟩ _ hz
      simp only at hz ⊢
      refine ⟨fun p => p.1 = l2 /\ 0 <= p.2.1 /\ p.2.1 <= (l2.length : Int) /\ F3e ((p.2.2.1, p.2.2.2.1), p.2.2.2.2.1), ⟨⟨by omega, g5, g6⟩, ?_⟩, ?_⟩
      . rintro ⟨a, _⟩ ⟨⟨l3, i3⟩, _⟩ _ _ ha ho
        change Int at i3 a
        change List Int at l3
        simp only at ha ho ⊢
        obtain ⟨rfl, f1, f2⟩ := ho
        refine ⟨fun _ => ⟨⟨f1, f2⟩, ?_⟩, fun _ => ?_⟩
        . rintro ⟨q, _⟩ ⟨⟨l4, i4⟩, _⟩ _ _ hq ho
          change Int at i4
          change List Int at l4
          simp only at hq ho ⊢
          obtain ⟨rfl, e1, e2⟩ := ho
          exact ⟨by trivial, e1, e2, hq⟩
        . exact ⟨by trivial, f1, f2, ⟨0, B0l (by decide), hz⟩⟩
      . rintro ⟨l3, i3, b, m, d, _⟩ _ ⟨f1, f2, f3, f4⟩
        change Int at i3
        change List Int at l3
        simp only at f1 f2 f3 f4 ⊢
        subst f1
        rw [wr (by omega) (by omega)]
        refine ⟨⟨by rw [List.length_singleton]; omega, by rw [List.length_singleton]; omega⟩, ⟨by omega, by omega, by rw [List.length_append, List.length_singleton]; omega, fun e he => ?_, by trivial, f2, f3⟩, by omega⟩
        rcases List.mem_append.1 he with he | he
        . exact g3 e he
        . rw [List.mem_singleton.1 he]; exact f4
    . have h := of_decide_eq_false h
      rw [wr (by omega) (by omega)]
      refine ⟨⟨by rw [List.length_singleton]; omega, by rw [List.length_singleton]; omega⟩, ⟨by omega, by omega, by rw [List.length_append, List.length_singleton]; omega, fun e he => ?_, by trivial, g5, g6⟩, by omega⟩
      rcases List.mem_append.1 he with he | he
      . exact h3 e he
      . rw [List.mem_singleton.1 he]; exact ⟨by omega, g3⟩
  . have h := of_decide_eq_false h
    refine ⟨⟨fun v hv => ⟨fun e he => F0u ((h3 v hv).2 e he) (by decide), (h3 v hv).1⟩, c0, by omega, by omega⟩, ?_⟩
    rintro ⟨m, _⟩ _ hm
    simp only at hm ⊢
    refine ⟨⟨_, fun a b => ?_, by rw [show R.toNat = o.length from by omega]; exact hm⟩, by trivial, h5, h6⟩
    by_cases ha : a < o.length
    . by_cases hb : b < (o.getD a []).length
      . exact F8p ((h3 _ (U5 ha)).2 _ (U5 hb))
      . rw [List.getD_eq_getElem?_getD (l := o.getD a []), List.getElem?_eq_none (by omega)]
        exact B0l (by decide)
    . rw [List.getD_eq_getElem?_getD (l := o), List.getElem?_eq_none (by omega)]
      exact B0l (by decide)
def D8e : An := { loop := [(7, ⟨[0, 2, 3, 9, 10, 11, 15, 16], [0, 1], [(6, false, [.own tQ 31]), (17, false, [.val (.int .i64)])], [], []⟩), (3, ⟨[0, 2, 9, 10], [0], [(3, false, [.own (.sl tQ) 56]), (11, false, [.val (.int .i64)])], [], []⟩)] }
def C0d : B6 := [(68, Q0), (78, W3)]
def D3b : An := { plan := [(4, [11, 18, 25], [], false, (.p 0 (.p 1 (.p 2 (.p 3 (.p 4 (.p 5 (.p 6 (.p 7 (.p 8 (.p 9 (.p 10 (.q 11 (.e 12 (.e 13 (.e 14 (.e 15 (.p 16 (.p 17 (.q 18 (.e 19 (.e 20 (.e 21 (.e 22 (.p 23 (.p 24 (.q 25 (.or 26 (.e 27 (.e 28 (.e 29 (.e 30 (.p 31 (.p 32 .done)))))) (.e 27 (.e 26 (.e 28 (.e 29 (.e 30 (.p 31 (.p 32 .done)))))))))))))))))))))))))))))))))))] }
def B4m : B6 := [(45, L8), (50, N8), (55, P4), (58, J5), (116, T3)]
def A8q : A7 T3.args -> Prop := fun (x : List (List Int) × Unit) => ∃ (I : List (List QQ) × Int × Unit -> Prop), ∃ (μ : List (List QQ) × Int × Unit -> Nat), I ([], (0 : Int), ()) /\ ∀ (p : List (List QQ) × Int × Unit), G4a p.1 /\ G2 p.2.1 /\ True -> I p -> (decide (p.2.1 < (x.1.length : Int)) = true -> (0 <= p.2.1 /\ p.2.1 < (x.1.length : Int)) /\ ∃ (I_1 : List QQ × Int × Unit -> Prop), ∃ (μ_1 : List QQ × Int × Unit -> Nat), I_1 ([], (0 : Int), ()) /\ ∀ (a : List QQ × Int × Unit), WfL a.1 /\ G2 a.2.1 /\ True -> I_1 a -> (decide (a.2.1 < (↑(gx [] x.1 p.2.1).length : Int)) = true -> (0 <= a.2.1 /\ a.2.1 < (↑(gx [] x.1 p.2.1).length : Int)) /\ True /\ ∀ (r : QQ × Unit), WfQ r.1 /\ True -> r.1 = ri (gx (0 : Int) (gx [] x.1 p.2.1) a.2.1) -> ((List.length a.1 + [r.1].length) * (56 : Nat) <= (140737488355328 : Nat) /\ List.length a.1 + [r.1].length <= 9223372036854775807) /\ I_1 (a.1 ++ [r.1], IntKind.i64.wrap (a.2.1 + 1), ()) /\ μ_1 (a.1 ++ [r.1], IntKind.i64.wrap (a.2.1 + 1), ()) < μ_1 a) /\ (decide (a.2.1 < (↑(gx [] x.1 p.2.1).length : Int)) = false -> ((List.length p.1 + [a.1].length) * (24 : Nat) <= (140737488355328 : Nat) /\ List.length p.1 + [a.1].length <= 9223372036854775807) /\ I (p.1 ++ [a.1], IntKind.i64.wrap (p.2.1 + 1), ()) /\ μ (p.1 ++ [a.1], IntKind.i64.wrap (p.2.1 + 1), ()) < μ p)) /\ (decide (p.2.1 < (x.1.length : Int)) = false -> ((0 : Int) <= (0 : Int) /\ (0 : Int) < (x.1.length : Int)) /\ ((∀ (l : List QQ), l ∈ p.1 -> szL K1 l /\ (↑l.length : Int) = (↑(gx [] x.1 (0 : Int)).length : Int)) /\ (0 : Int) <= (↑(gx [] x.1 (0 : Int)).length : Int) /\ (↑(gx [] x.1 (0 : Int)).length : Int) <= (16384 : Int) /\ List.length p.1 <= 16384) /\ ∀ (r : MM × Unit), WfM r.1 /\ True -> isM (List.length p.1) (↑(gx [] x.1 (0 : Int)).length : Int).toNat (fun (i j : Nat) => rv ((List.getD p.1 i []).getD j zr)) r.1 -> r.1.1 = (↑x.1.length : Int) /\ r.1.2.1 = (↑(x.1.getD (0 : Nat) []).length : Int) /\ List.length r.1.2.2 = x.1.length /\ ∀ (i : Nat), i < x.1.length -> C5c (List.getD r.1.2.2 i []) /\ (∀ (e : Ent), e ∈ List.getD r.1.2.2 i [] -> 0 <= e.1 /\ e.1 < (↑(x.1.getD (0 : Nat) []).length : Int)) /\ ∀ (j : Nat), j < (x.1.getD (0 : Nat) []).length -> F2 (List.getD r.1.2.2 i []) (↑j : Int) = (↑((x.1.getD i []).getD j (0 : Int)) : Rat))
theorem C5o (x : A7 T3.args) : K8 Tryz.prog tys C0d D8e T3 Tryz.f116 x = A8q x := by kernel_rfl
def A6j : A7 P5.args -> Prop := fun (x : Unit) => ([[(2 : Int), (1 : Int)], [(4 : Int), (5 : Int)]] ≠ [] /\ [[(2 : Int), (1 : Int)], [(4 : Int), (5 : Int)]].length <= (10 : Nat) /\ ∀ (l : List Int), l ∈ [[(2 : Int), (1 : Int)], [(4 : Int), (5 : Int)]] -> l.length = ([[(2 : Int), (1 : Int)], [(4 : Int), (5 : Int)]].getD (0 : Nat) []).length /\ l.length <= (10 : Nat) /\ ∀ (v : Int), v ∈ l -> v.natAbs < (4294967296 : Nat)) /\ ∀ (r : MM × Unit), WfM r.1 /\ True -> isM [[(2 : Int), (1 : Int)], [(4 : Int), (5 : Int)]].length ([[(2 : Int), (1 : Int)], [(4 : Int), (5 : Int)]].getD (0 : Nat) []).length (fun (i j : Nat) => (↑(([[(2 : Int), (1 : Int)], [(4 : Int), (5 : Int)]].getD i []).getD j (0 : Int)) : Rat)) r.1 -> okM K0 r.1 /\ ∀ (b : MM × Int × Unit), WfM b.1 /\ G2 b.2.1 /\ True -> (¬A6 r.1 -> b.1 = zm /\ b.2.1 = 1) /\ (A6 r.1 -> (¬((0 : Int) <= (0 : Int) /\ 0 < r.1.1 /\ (0 : Int) <= (0 : Int) /\ 0 < r.1.2.1) -> b.1 = zm /\ b.2.1 = 3) /\ ((0 : Int) <= (0 : Int) /\ 0 < r.1.1 /\ (0 : Int) <= (0 : Int) /\ 0 < r.1.2.1 -> (el r.1 (Int.toNat (0 : Int)) (Int.toNat (0 : Int)) = (0 : Rat) -> b.1 = zm /\ b.2.1 = 5) /\ (el r.1 (Int.toNat (0 : Int)) (Int.toNat (0 : Int)) ≠ (0 : Rat) -> isM (r.1.1 - 1).toNat (r.1.2.1 - 1).toNat (F4s r.1 (Int.toNat (0 : Int)) (Int.toNat (0 : Int))) b.1 /\ b.2.1 = 0))) -> ([[(1 : Int), (2 : Int)]] ≠ [] /\ [[(1 : Int), (2 : Int)]].length <= (10 : Nat) /\ ∀ (l : List Int), l ∈ [[(1 : Int), (2 : Int)]] -> l.length = ([[(1 : Int), (2 : Int)]].getD (0 : Nat) []).length /\ l.length <= (10 : Nat) /\ ∀ (v : Int), v ∈ l -> v.natAbs < (4294967296 : Nat)) /\ ∀ (r : MM × Unit), WfM r.1 /\ True -> isM [[(1 : Int), (2 : Int)]].length ([[(1 : Int), (2 : Int)]].getD (0 : Nat) []).length (fun (i j : Nat) => (↑(([[(1 : Int), (2 : Int)]].getD i []).getD j (0 : Int)) : Rat)) r.1 -> ([[(3 : Int)], [(4 : Int)]] ≠ [] /\ [[(3 : Int)], [(4 : Int)]].length <= (10 : Nat) /\ ∀ (l : List Int), l ∈ [[(3 : Int)], [(4 : Int)]] -> l.length = ([[(3 : Int)], [(4 : Int)]].getD (0 : Nat) []).length /\ l.length <= (10 : Nat) /\ ∀ (v : Int), v ∈ l -> v.natAbs < (4294967296 : Nat)) /\ ∀ (g : MM × Unit), WfM g.1 /\ True -> isM [[(3 : Int)], [(4 : Int)]].length ([[(3 : Int)], [(4 : Int)]].getD (0 : Nat) []).length (fun (i j : Nat) => (↑(([[(3 : Int)], [(4 : Int)]].getD i []).getD j (0 : Int)) : Rat)) g.1 -> (okM K0 r.1 /\ okM K0 g.1 /\ r.1.2.1 <= 1000) /\ ∀ (c : MM × Int × Unit), WfM c.1 /\ G2 c.2.1 /\ True -> (¬(A6 r.1 /\ A6 g.1) -> c.1 = zm /\ c.2.1 = 1) /\ (A6 r.1 /\ A6 g.1 -> (r.1.2.1 ≠ g.1.1 -> c.1 = zm /\ c.2.1 = 4) /\ (r.1.2.1 = g.1.1 -> isM (Int.toNat r.1.1) (Int.toNat g.1.2.1) (fun (i j : Nat) => A0h (Int.toNat r.1.2.1) fun (k : Nat) => el r.1 i k * el g.1 k j) c.1 /\ c.2.1 = 0)) -> ([[(1 : Int), (2 : Int)], [(3 : Int), (4 : Int)]] ≠ [] /\ [[(1 : Int), (2 : Int)], [(3 : Int), (4 : Int)]].length <= (10 : Nat) /\ ∀ (l : List Int), l ∈ [[(1 : Int), (2 : Int)], [(3 : Int), (4 : Int)]] -> l.length = ([[(1 : Int), (2 : Int)], [(3 : Int), (4 : Int)]].getD (0 : Nat) []).length /\ l.length <= (10 : Nat) /\ ∀ (v : Int), v ∈ l -> v.natAbs < (4294967296 : Nat)) /\ ∀ (r : MM × Unit), WfM r.1 /\ True -> isM [[(1 : Int), (2 : Int)], [(3 : Int), (4 : Int)]].length ([[(1 : Int), (2 : Int)], [(3 : Int), (4 : Int)]].getD (0 : Nat) []).length (fun (i j : Nat) => (↑(([[(1 : Int), (2 : Int)], [(3 : Int), (4 : Int)]].getD i []).getD j (0 : Int)) : Rat)) r.1 -> (okM K1 r.1 /\ [(1 : Int), (1 : Int)].length <= (1000 : Nat) /\ [(0 : Int)].length <= (1000 : Nat) /\ [(0 : Int)].Nodup) /\ ∀ (a : MM × Int × Unit), WfM a.1 /\ G2 a.2.1 /\ True -> (¬A6 r.1 -> a.1 = zm /\ a.2.1 = 1) /\ (A6 r.1 -> (((∃ (i : Int), i ∈ [(1 : Int), (1 : Int)] /\ (i < (0 : Int) \/ r.1.1 <= i)) \/ ∃ (i : Int), i ∈ [(0 : Int)] /\ (i < (0 : Int) \/ r.1.2.1 <= i)) -> a.1 = zm /\ a.2.1 = 3) /\ (¬((∃ (i : Int), i ∈ [(1 : Int), (1 : Int)] /\ (i < (0 : Int) \/ r.1.1 <= i)) \/ ∃ (i : Int), i ∈ [(0 : Int)] /\ (i < (0 : Int) \/ r.1.2.1 <= i)) -> ((16384 : Nat) < [(1 : Int), (1 : Int)].length \/ (16384 : Nat) < [(0 : Int)].length -> a.1 = zm /\ a.2.1 = 8) /\ ([(1 : Int), (1 : Int)].length <= (16384 : Nat) /\ [(0 : Int)].length <= (16384 : Nat) -> isM [(1 : Int), (1 : Int)].length [(0 : Int)].length (fun (i j : Nat) => el r.1 ([(1 : Int), (1 : Int)].getD i (0 : Int)).toNat ([(0 : Int)].getD j (0 : Int)).toNat) a.1 /\ a.2.1 = 0))) -> (sel (sel (decide (b.2.1 = 0)) (decide (c.2.1 = 0)) false) (decide (a.2.1 = 0)) false = true -> [[(3 : Int)]] ≠ [] /\ [[(3 : Int)]].length <= (10 : Nat) /\ ∀ (l : List Int), l ∈ [[(3 : Int)]] -> l.length = ([[(3 : Int)]].getD (0 : Nat) []).length /\ l.length <= (10 : Nat) /\ ∀ (v : Int), v ∈ l -> v.natAbs < (4294967296 : Nat)) /\ ∀ (r : MM × Unit), (sel (sel (decide (b.2.1 = 0)) (decide (c.2.1 = 0)) false) (decide (a.2.1 = 0)) false = true -> (WfM r.1 /\ True) /\ isM [[(3 : Int)]].length ([[(3 : Int)]].getD (0 : Nat) []).length (fun (i j : Nat) => (↑(([[(3 : Int)]].getD i []).getD j (0 : Int)) : Rat)) r.1) -> (sel (sel (decide (b.2.1 = 0)) (decide (c.2.1 = 0)) false) (decide (a.2.1 = 0)) false = true -> okM K1 b.1) /\ ∀ (d : Bool × Unit), (sel (sel (decide (b.2.1 = 0)) (decide (c.2.1 = 0)) false) (decide (a.2.1 = 0)) false = true -> (True /\ True) /\ (d.1 = true ↔ b.1 = r.1 /\ ∀ (v : List EE), v ∈ b.1.2.2 -> ∀ (e : EE), e ∈ v -> e.2 = rc (rv e.2))) -> (sel (sel (sel (decide (b.2.1 = 0)) (decide (c.2.1 = 0)) false) (decide (a.2.1 = 0)) false) d.1 false = true -> [[(11 : Int)]] ≠ [] /\ [[(11 : Int)]].length <= (10 : Nat) /\ ∀ (l : List Int), l ∈ [[(11 : Int)]] -> l.length = ([[(11 : Int)]].getD (0 : Nat) []).length /\ l.length <= (10 : Nat) /\ ∀ (v : Int), v ∈ l -> v.natAbs < (4294967296 : Nat)) /\ ∀ (r : MM × Unit), (sel (sel (sel (decide (b.2.1 = 0)) (decide (c.2.1 = 0)) false) (decide (a.2.1 = 0)) false) d.1 false = true -> (WfM r.1 /\ True) /\ isM [[(11 : Int)]].length ([[(11 : Int)]].getD (0 : Nat) []).length (fun (i j : Nat) => (↑(([[(11 : Int)]].getD i []).getD j (0 : Int)) : Rat)) r.1) -> (sel (sel (sel (decide (b.2.1 = 0)) (decide (c.2.1 = 0)) false) (decide (a.2.1 = 0)) false) d.1 false = true -> okM K1 c.1) /\ ∀ (f : Bool × Unit), (sel (sel (sel (decide (b.2.1 = 0)) (decide (c.2.1 = 0)) false) (decide (a.2.1 = 0)) false) d.1 false = true -> (True /\ True) /\ (f.1 = true ↔ c.1 = r.1 /\ ∀ (v : List EE), v ∈ c.1.2.2 -> ∀ (e : EE), e ∈ v -> e.2 = rc (rv e.2))) -> ((sel (sel (sel (sel (decide (b.2.1 = 0)) (decide (c.2.1 = 0)) false) (decide (a.2.1 = 0)) false) d.1 false) f.1 false = true -> [[(3 : Int)], [(3 : Int)]] ≠ [] /\ [[(3 : Int)], [(3 : Int)]].length <= (10 : Nat) /\ ∀ (l : List Int), l ∈ [[(3 : Int)], [(3 : Int)]] -> l.length = ([[(3 : Int)], [(3 : Int)]].getD (0 : Nat) []).length /\ l.length <= (10 : Nat) /\ ∀ (v : Int), v ∈ l -> v.natAbs < (4294967296 : Nat)) /\ ∀ (r : MM × Unit), (sel (sel (sel (sel (decide (b.2.1 = 0)) (decide (c.2.1 = 0)) false) (decide (a.2.1 = 0)) false) d.1 false) f.1 false = true -> (WfM r.1 /\ True) /\ isM [[(3 : Int)], [(3 : Int)]].length ([[(3 : Int)], [(3 : Int)]].getD (0 : Nat) []).length (fun (i j : Nat) => (↑(([[(3 : Int)], [(3 : Int)]].getD i []).getD j (0 : Int)) : Rat)) r.1) -> (sel (sel (sel (sel (decide (b.2.1 = 0)) (decide (c.2.1 = 0)) false) (decide (a.2.1 = 0)) false) d.1 false) f.1 false = true -> okM K1 a.1) /\ ∀ (h : Bool × Unit), (sel (sel (sel (sel (decide (b.2.1 = 0)) (decide (c.2.1 = 0)) false) (decide (a.2.1 = 0)) false) d.1 false) f.1 false = true -> (True /\ True) /\ (h.1 = true ↔ a.1 = r.1 /\ ∀ (v : List EE), v ∈ a.1.2.2 -> ∀ (e : EE), e ∈ v -> e.2 = rc (rv e.2))) -> sel (sel (sel (sel (sel (decide (b.2.1 = 0)) (decide (c.2.1 = 0)) false) (decide (a.2.1 = 0)) false) d.1 false) f.1 false) h.1 false = true) /\ (sel (sel (sel (sel (decide (b.2.1 = 0)) (decide (c.2.1 = 0)) false) (decide (a.2.1 = 0)) false) d.1 false) f.1 false = true -> [[(3 : Int)], [(3 : Int)]] ≠ [] /\ [[(3 : Int)], [(3 : Int)]].length <= (10 : Nat) /\ ∀ (l : List Int), l ∈ [[(3 : Int)], [(3 : Int)]] -> l.length = ([[(3 : Int)], [(3 : Int)]].getD (0 : Nat) []).length /\ l.length <= (10 : Nat) /\ ∀ (v : Int), v ∈ l -> v.natAbs < (4294967296 : Nat)) /\ ∀ (r : MM × Unit), (sel (sel (sel (sel (decide (b.2.1 = 0)) (decide (c.2.1 = 0)) false) (decide (a.2.1 = 0)) false) d.1 false) f.1 false = true -> (WfM r.1 /\ True) /\ isM [[(3 : Int)], [(3 : Int)]].length ([[(3 : Int)], [(3 : Int)]].getD (0 : Nat) []).length (fun (i j : Nat) => (↑(([[(3 : Int)], [(3 : Int)]].getD i []).getD j (0 : Int)) : Rat)) r.1) -> (sel (sel (sel (sel (decide (b.2.1 = 0)) (decide (c.2.1 = 0)) false) (decide (a.2.1 = 0)) false) d.1 false) f.1 false = true -> okM K1 a.1) /\ ∀ (h : Bool × Unit), (sel (sel (sel (sel (decide (b.2.1 = 0)) (decide (c.2.1 = 0)) false) (decide (a.2.1 = 0)) false) d.1 false) f.1 false = true -> (True /\ True) /\ (h.1 = true ↔ a.1 = r.1 /\ ∀ (v : List EE), v ∈ a.1.2.2 -> ∀ (e : EE), e ∈ v -> e.2 = rc (rv e.2))) -> sel (sel (sel (sel (sel (decide (b.2.1 = 0)) (decide (c.2.1 = 0)) false) (decide (a.2.1 = 0)) false) d.1 false) f.1 false) h.1 false = true
theorem C4m (x : A7 P5.args) : K8 Tryz.prog tys B4m D3b P5 Tryz.f47 x = A6j x := by kernel_rfl
theorem G1j (k : Int) : ri k = rc (k : Rat) := by
  unfold ri rc
  rw [Rat.num_intCast, Rat.den_intCast, C5a]
theorem C5n (x : A7 T3.args) (hw : awf T3.args x) (hp : T3.pre x) : A8q x := by
  obtain ⟨L, _⟩ := x
  change List (List Int) at L
  obtain ⟨hne, hl, hr⟩ : L ≠ [] /\ L.length <= 10 /\ ∀ l ∈ L, l.length = (L.getD 0 []).length /\ l.length <= 10 /\ ∀ v ∈ l, v.natAbs < 4294967296 := hp
  have hpos : 0 < L.length := List.length_pos_iff.2 hne
  have h0 : gx [] L 0 = L.getD 0 [] := Y6 (Int.le_refl _) (by omega)
  let G : Nat -> List X5 := fun i => (L.getD i []).map ri
  simp only [A8q]
  refine ⟨fun p => 0 <= p.2.1 /\ p.2.1 <= (L.length : Int) /\ p.1 = (List.range p.2.1.toNat).map G, fun p => ((L.length : Int) - p.2.1).toNat, ⟨Int.le_refl _, by show (0 : Int) <= _; omega, rfl⟩, ?_⟩
  rintro ⟨o, k, _⟩ _ ⟨k0, k1, ho⟩
  change Int at k
  change List (List X5) at o
  simp only at k0 k1 ho ⊢
  refine ⟨fun h => ?_, fun h => ?_⟩
  . have h := of_decide_eq_true h
    have hm := hr _ (T6 (d := ([] : List Int)) k0 h)
    have hG : G k.toNat = (gx [] L k).map ri := by show (L.getD k.toNat []).map ri = _; rw [Y6 k0 h]
    refine ⟨⟨k0, h⟩, ?_⟩
    generalize gx [] L k = l at hm hG ⊢
    refine ⟨fun p => 0 <= p.2.1 /\ p.2.1 <= (l.length : Int) /\ p.1 = (l.take p.2.1.toNat).map ri, fun p => ((l.length : Int) - p.2.1).toNat, ⟨Int.le_refl _, by simp, rfl⟩, ?_⟩
    rintro ⟨u, j, _⟩ _ ⟨j0, j1, hu⟩
    change Int at j
    change List X5 at u
    simp only at j0 j1 hu ⊢
    refine ⟨fun h2 => ?_, fun h2 => ?_⟩
    . have h2 := of_decide_eq_true h2
      refine ⟨⟨j0, h2⟩, trivial, ?_⟩
      rintro ⟨q, _⟩ _ hq
      simp only at hq ⊢
      have hul : u.length = j.toNat := by rw [hu]; simp; omega
      rw [wr (by omega) (by omega)]
      refine ⟨⟨by rw [List.length_singleton]; omega, by rw [List.length_singleton]; omega⟩, ⟨by omega, by omega, ?_⟩, by omega⟩
      rw [show (j + 1).toNat = j.toNat + 1 from by omega, List.take_add_one, M7 (d := (0 : Int)) j0 h2, List.map_append, hu, hq]
      rfl
    . have h2 := of_decide_eq_false h2
      rw [G7 (by omega)] at hu
      have hol : o.length = k.toNat := by rw [ho]; simp
      rw [wr (by omega) (by omega)]
      refine ⟨⟨by rw [List.length_singleton]; omega, by rw [List.length_singleton]; omega⟩, ⟨by omega, by omega, ?_⟩, by omega⟩
      rw [E5n G k0, <- ho, hG, hu]
  . have h := of_decide_eq_false h
    have hol : o.length = L.length := by rw [ho]; simp; omega
    have hat : ∀ i, i < L.length -> o.getD i [] = G i := fun i hi => by
      rw [ho, List.getD_eq_getElem?_getD, List.getElem?_map, List.getElem?_range (by omega)]; rfl
    have hc := hr _ (U5 (d := ([] : List Int)) hpos)
    have hval : ∀ i j, i < L.length -> j < (L.getD 0 []).length -> rv ((o.getD i []).getD j zr) = (((L.getD i []).getD j 0 : Int) : Rat) := fun i j hi hj => by
      have h5 := (hr _ (U5 (d := ([] : List Int)) hi)).1
      rw [hat i hi]
      show rv (List.getD (List.map ri _) j zr) = _
      have e1 := List.getElem?_eq_getElem (l := L.getD i []) (i := j) (by omega)
      rw [List.getD_eq_getElem?_getD, List.getElem?_map, List.getD_eq_getElem?_getD (l := L.getD i []), e1]
      show rv (ri _) = _
      rw [G1j, A5e]; rfl
    refine ⟨⟨Int.le_refl _, by omega⟩, ⟨fun v hv => ?_, by omega, by rw [h0]; omega, by omega⟩, ?_⟩
    . rw [ho] at hv
      obtain ⟨i, hi, rfl⟩ := List.mem_map.1 hv
      rw [List.mem_range] at hi
      have h5 := hr _ (U5 (d := ([] : List Int)) (i := i) (l := L) (by omega))
      refine ⟨fun e he => ?_, by rw [h0]; show ((List.map ri _).length : Int) = _; rw [List.length_map, h5.1]⟩
      obtain ⟨v, hv, rfl⟩ := List.mem_map.1 he
      rw [G1j]
      exact F0u ⟨_, F6m (h5.2.2 v hv), rfl⟩ (by decide)
    . rintro ⟨m, _⟩ _ hm
      simp only at hm ⊢
      rw [hol, h0, Int.toNat_natCast] at hm
      exact A4j hm hval
theorem B9d {R C : Nat} {f : Nat -> Nat -> Rat} {m : B4g} (h : isM R C f m) : ∀ v ∈ m.2.2, ∀ e ∈ v, e.2 = rc (rv e.2) := fun v hv e he => by
  obtain ⟨i, hi, rfl⟩ := C7n [] hv
  exact ((h.2.2.2 i (by rw [<- h.2.2.1]; exact hi)).1.2 e he).2
theorem B5s {R C k : Nat} {f : Nat -> Nat -> Rat} {m : B4g} (h : isM R C f m) (hk : 1 <= k) (hf : ∀ i j, i < R -> j < C -> ∃ v : Int, f i j = (v : Rat) /\ v.natAbs < 4294967296) : okM k m := F6s h hk fun i j hi hj => by
  obtain ⟨v, e, hv⟩ := hf i j hi hj
  rw [e]; exact C1r (F6m hv) hk
theorem B7e {L : List (List Int)} (h : ∀ l ∈ L, ∀ v ∈ l, v.natAbs < 4294967296) (i j : Nat) : ∃ v : Int, (((L.getD i []).getD j 0 : Int) : Rat) = (v : Rat) /\ v.natAbs < 4294967296 := by
  refine ⟨_, rfl, ?_⟩
  by_cases hi : i < L.length
  . by_cases hj : j < (L.getD i []).length
    . exact h _ (U5 hi) _ (U5 hj)
    . rw [List.getD_eq_getElem?_getD (l := L.getD i []), List.getElem?_eq_none (by omega)]; decide
  . rw [List.getD_eq_getElem?_getD (l := L), List.getElem?_eq_none (by omega)]; simp
theorem E9e : (5 : Rat) - 4 * 1 / 2 = 3 := by decide +kernel
theorem E7s : (0 : Rat) + 1 * 3 + 2 * 4 = 11 := by decide +kernel
theorem C3o (x : A7 P5.args) (hw : awf P5.args x) (hp : P5.pre x) : A6j x := by
  simp only [A6j]
  refine ⟨by decide, ?_⟩
  rintro ⟨A, _⟩ _ hA
  simp only at hA ⊢
  have vA := B2b hA (by decide) (by decide)
  refine ⟨B5s hA (by decide) fun i j _ _ => B7e (by decide) i j, ?_⟩
  rintro ⟨P, c1, _⟩ _ ⟨_, hP⟩
  change Int at c1
  simp only at hP ⊢
  have A1 : A.1 = 2 := hA.1
  have A2 : A.2.1 = 2 := hA.2.1
  have hP := (hP vA).2 (by rw [A1, A2]; decide)
  have el00 : el A 0 0 = 2 := A5k hA (by decide) (by decide)
  have el01 : el A 0 1 = 1 := A5k hA (by decide) (by decide)
  have el10 : el A 1 0 = 4 := A5k hA (by decide) (by decide)
  have el11 : el A 1 1 = 5 := A5k hA (by decide) (by decide)
  obtain ⟨hP2, rfl⟩ := hP.2 (by show el A 0 0 ≠ 0; rw [el00]; decide)
  clear hP
  rw [A1, A2] at hP2
  have hP : isM 1 1 (fun i j => (((([[3]] : List (List Int)).getD i []).getD j 0 : Int) : Rat)) P := A4j hP2 fun i j hi hj => by
    have : i = 0 := by omega
    subst this
    have : j = 0 := by have : j < 1 := hj; omega
    subst this
    show el A 1 1 - el A 1 0 * el A 0 1 / el A 0 0 = 3
    rw [el00, el01, el10, el11]; exact E9e
  refine ⟨by decide, ?_⟩
  rintro ⟨B, _⟩ _ hB
  simp only at hB ⊢
  have vB := B2b hB (by decide) (by decide)
  refine ⟨by decide, ?_⟩
  rintro ⟨C, _⟩ _ hC
  simp only at hC ⊢
  have vC := B2b hC (by decide) (by decide)
  have B1 : B.1 = 1 := hB.1
  have B2 : B.2.1 = 2 := hB.2.1
  have C1 : C.1 = 2 := hC.1
  have C2 : C.2.1 = 1 := hC.2.1
  refine ⟨⟨B5s hB (by decide) fun i j _ _ => B7e (by decide) i j, B5s hC (by decide) fun i j _ _ => B7e (by decide) i j, by rw [B2]; decide⟩, ?_⟩
  rintro ⟨Q, c2, _⟩ _ ⟨_, hQ⟩
  change Int at c2
  simp only at hQ ⊢
  obtain ⟨hQ2, rfl⟩ := (hQ ⟨vB, vC⟩).2 (by rw [B2, C1])
  clear hQ
  rw [B1, B2, C2] at hQ2
  have hQ : isM 1 1 (fun i j => (((([[11]] : List (List Int)).getD i []).getD j 0 : Int) : Rat)) Q := A4j hQ2 fun i j hi hj => by
    have : i = 0 := by have : i < 1 := hi; omega
    subst this
    have : j = 0 := by have : j < 1 := hj; omega
    subst this
    have b0 : el B 0 0 = 1 := A5k hB (by decide) (by decide)
    have b1 : el B 0 1 = 2 := A5k hB (by decide) (by decide)
    have d0 : el C 0 0 = 3 := A5k hC (by decide) (by decide)
    have d1 : el C 1 0 = 4 := A5k hC (by decide) (by decide)
    show (0 : Rat) + el B 0 0 * el C 0 0 + el B 0 1 * el C 1 0 = 11
    rw [b0, b1, d0, d1]; exact E7s
  refine ⟨by decide, ?_⟩
  rintro ⟨D, _⟩ _ hD
  simp only at hD ⊢
  have vD := B2b hD (by decide) (by decide)
  have D1 : D.1 = 2 := hD.1
  have D2 : D.2.1 = 2 := hD.2.1
  refine ⟨⟨B5s hD (by decide) fun i j _ _ => B7e (by decide) i j, by decide, by decide, by decide⟩, ?_⟩
  rintro ⟨S, c3, _⟩ _ ⟨_, hS⟩
  change Int at c3
  simp only at hS ⊢
  have hS := (hS vD).2 (by rw [D1, D2]; decide)
  obtain ⟨hS2, rfl⟩ := hS.2 (by decide)
  clear hS
  have hS : isM 2 1 (fun i j => (((([[3], [3]] : List (List Int)).getD i []).getD j 0 : Int) : Rat)) S := A4j hS2 fun i j hi hj => by
    have : j = 0 := by have : j < 1 := hj; omega
    subst this
    have d0 : el D 1 0 = 3 := A5k hD (by decide) (by decide)
    have hi : i < 2 := hi
    rcases (by omega : i = 0 \/ i = 1) with rfl | rfl
    . exact d0
    . exact d0
  refine ⟨fun _ => by decide, ?_⟩
  rintro ⟨P', _⟩ hP'
  simp only at hP' ⊢
  have hP' := (hP' rfl).2
  refine ⟨fun _ => B5s hP (by decide) fun i j _ _ => B7e (by decide) i j, ?_⟩
  rintro ⟨b1, _⟩ hb1
  simp only at hb1 ⊢
  have hb1 : b1 = true := (hb1 rfl).2.2 ⟨D5t hP hP' fun _ _ _ _ => rfl, B9d hP⟩
  subst hb1
  refine ⟨fun _ => by decide, ?_⟩
  rintro ⟨Q', _⟩ hQ'
  simp only at hQ' ⊢
  have hQ' := (hQ' rfl).2
  refine ⟨fun _ => B5s hQ (by decide) fun i j _ _ => B7e (by decide) i j, ?_⟩
  rintro ⟨b2, _⟩ hb2
  simp only at hb2 ⊢
  have hb2 : b2 = true := (hb2 rfl).2.2 ⟨D5t hQ hQ' fun _ _ _ _ => rfl, B9d hQ⟩
  subst hb2
  have key : ∀ (S' : B4g), isM 2 1 (fun i j => (((([[3], [3]] : List (List Int)).getD i []).getD j 0 : Int) : Rat)) S' -> ∀ b3 : Bool, (b3 = true ↔ S = S' /\ ∀ v ∈ S.2.2, ∀ e ∈ v, e.2 = rc (rv e.2)) -> b3 = true := fun S' hS' b3 hb => hb.2 ⟨D5t hS hS' fun _ _ _ _ => rfl, B9d hS⟩
  have kS : okM K1 S := B5s hS (by decide) fun i j _ _ => B7e (by decide) i j
  refine ⟨⟨fun _ => by decide, ?_⟩, fun _ => by decide, ?_⟩
  . rintro ⟨S', _⟩ hS'
    simp only at hS' ⊢
    refine ⟨fun _ => kS, ?_⟩
    rintro ⟨b3, _⟩ hb3
    simp only at hb3 ⊢
    rw [key S' (hS' rfl).2 b3 (hb3 rfl).2]; rfl
  . rintro ⟨S', _⟩ hS'
    simp only at hS' ⊢
    refine ⟨fun _ => kS, ?_⟩
    rintro ⟨b3, _⟩ hb3
    simp only at hb3 ⊢
    rw [key S' (hS' rfl).2 b3 (hb3 rfl).2]; rfl
def TRr (m a : B4g) (c : Int) : Prop := (¬ A6 m -> a = zm /\ c = 1) /\ (A6 m -> isM m.2.1.toNat m.1.toNat (fun i j => el m j i) a /\ c = 0)
end Go.Proofs.YtkdmjgcjpmcjjaaGreat
namespace Go.Vc
open Go Go.RowKit Go.Gw Go.Shelf
structure El (t : Ty) (w : World) (Z : Nat -> Prop) where
  c : List Value
  v : t.den
  h : Rep t w Z c v
theorem E4y {t : Ty} {w : World} {Z : Nat -> Prop} : ∀ {l : List t.den} {xs : List Value}, Q3 (Rep t w Z) xs l -> ∃ L : List (El t w Z), L.flatMap El.c = xs /\ L.map El.v = l
  | [], _, h => ⟨[], h.symm, rfl⟩
  | x :: l, _, ⟨c1, c2, e, h1, h2⟩ => by
    obtain ⟨L, i1, i2⟩ := E4y h2
    exact ⟨⟨c1, x, h1⟩ :: L, by rw [List.flatMap_cons, i1, e], by rw [List.map_cons, i2]⟩
theorem E5u {t : Ty} {w w' : World} {Z Z' : Nat -> Prop} (hm : ∀ c x, Rep t w Z c x -> Rep t w' Z' c x) : ∀ L : List (El t w Z), Q3 (Rep t w' Z') (L.flatMap El.c) (L.map El.v)
  | [] => rfl
  | p :: L => ⟨p.c, L.flatMap El.c, rfl, hm _ _ p.h, E5u hm L⟩
theorem E5w {α : Type} {enc : α -> List Value} {k : Nat} (hk : ∀ x, (enc x).length = k) : ∀ (L : List α) (i r : Nat) {x : α}, L[i]? = some x -> r < k -> (L.flatMap enc)[i * k + r]? = (enc x)[r]?
  | [], _, _, _, h, _ => by cases h
  | y :: L, 0, r, x, h, hr => by
    simp only [List.getElem?_cons_zero, Option.some.injEq] at h
    subst h
    rw [List.flatMap_cons, Nat.zero_mul, Nat.zero_add, List.getElem?_append_left (by rw [hk]; exact hr)]
  | y :: L, i + 1, r, x, h, hr => by
    rw [List.getElem?_cons_succ] at h
    have e : (i + 1) * k + r - k = i * k + r := by rw [Nat.succ_mul]; omega
    rw [List.flatMap_cons, List.getElem?_append_right (by rw [hk, Nat.succ_mul]; omega), hk, e]
    exact E5w hk L i r h hr
theorem E6a {α : Type} {enc : α -> List Value} {k : Nat} (hk : ∀ x, (enc x).length = k) : ∀ L : List α, (L.flatMap enc).length = L.length * k
  | [] => by simp
  | x :: L => by rw [List.flatMap_cons, List.length_append, E6a hk L, hk, List.length_cons, Nat.succ_mul]; omega
theorem E5j {α : Type} [Inhabited α] {enc : α -> List Value} {k : Nat} (hk : ∀ x, (enc x).length = k) (d : Array α) {j : Nat} (hj : j < d.size * k) : (d.toList.flatMap enc)[j]? = some (Go.Sort.flatK enc k d)[j]! := by
  have hk0 : 0 < k := by
    rcases Nat.eq_zero_or_pos k with h | h
    . rw [h, Nat.mul_zero] at hj; omega
    . exact h
  have hi : j / k < d.size := (Nat.div_lt_iff_lt_mul hk0).2 hj
  have hr : j % k < k := Nat.mod_lt _ hk0
  have e : j = j / k * k + j % k := by rw [Nat.mul_comm]; exact (Nat.div_add_mod j k).symm
  rw [Go.Sort.get_flatK enc k d j hj]
  have hx : d.toList[j / k]? = some d[j / k]! := by
    rw [Array.getElem?_toList, Array.getElem?_eq_getElem hi, getElem!_pos d _ hi]
  have := E5w hk d.toList (j / k) (j % k) hx hr
  rw [<- e] at this
  have hl : j % k < (enc d[j / k]!).length := by rw [hk]; exact hr
  rw [this, List.getElem?_eq_getElem hl, getElem!_pos (enc d[j / k]!) (j % k) hl]
theorem F0o {F cur : Array Value} {n : Nat} {xs : List Value} (hx : xs.length = n) (hF : F.size = n) (hn : n <= cur.size) (h : ∀ j, j < n -> xs[j]? = some F[j]!) : (Go.Sort.putCells id 0 F cur).size = cur.size /\ (Go.Sort.putCells id 0 F cur).toList.take n = xs := by
  refine ⟨by simp [Go.Sort.putCells], ?_⟩
  apply List.ext_getElem?
  intro j
  by_cases hj : j < n
  . rw [List.getElem?_take_of_lt hj, h j hj, Array.getElem?_toList]
    unfold Go.Sort.putCells
    rw [Array.getElem?_mapIdx, Array.getElem?_eq_getElem (by omega)]
    simp only [Option.map_some]
    rw [if_pos ⟨Nat.zero_le _, by omega⟩]
    rfl
  . rw [List.getElem?_eq_none (by simp; omega), List.getElem?_eq_none (by omega)]
theorem F5h {α : Type} [Inhabited α] {d d' : Array α} (h : Go.Sort.PermIn 0 d.size d d') : d'.toList.Perm d.toList := by
  obtain ⟨h1, _, h3⟩ := h
  rw [Array.toList_extract, Array.toList_extract] at h3
  simpa [List.extract_eq_take_drop, List.take_of_length_le, h1] using h3
theorem E7q {α : Type} [Inhabited α] {lt : α -> α -> Bool} {d' : Array α} {n : Nat} (hn : d'.size = n) (h : Go.Sort.SortedIn lt 0 n d') : d'.toList.Pairwise fun a b => lt b a = false := by
  rw [List.pairwise_iff_getElem]
  intro i j hi hj hij
  have hi' : i < d'.size := by simpa using hi
  have hj' : j < d'.size := by simpa using hj
  have := h i j (Nat.zero_le _) hij (by omega)
  rw [getElem!_pos d' i hi', getElem!_pos d' j hj'] at this
  simpa using this
theorem F9r {w : World} {b m : Nat} {f : Array Value -> Array Value} {os : Array Obj} : w.heap.size <= (Go.Sort.grow (Go.Sort.mapBlock (Go.Sort.ahead w m) b f) os).heap.size := by
  simp [Go.Sort.grow, Go.Sort.mapBlock, Go.Sort.ahead]
theorem E5d {w : World} {b m j : Nat} {f : Array Value -> Array Value} {os : Array Obj} (hj : j < w.heap.size) (hne : j ≠ b) : (Go.Sort.grow (Go.Sort.mapBlock (Go.Sort.ahead w m) b f) os).heap[j]? = w.heap[j]? := by
  rw [Go.Sort.heap_grow_old _ _ (by simpa [Go.Sort.mapBlock, Go.Sort.ahead] using hj)]
  unfold Go.Sort.mapBlock
  simp only
  rw [Array.getElem?_modify, if_neg (Ne.symm hne)]
  rfl
theorem F7w {w : World} {b m : Nat} {f : Array Value -> Array Value} {os : Array Obj} {cur : Array Value} {e : TypeId} (hh : w.heap[b]? = some (.cells cur e (0, 0))) : (Go.Sort.grow (Go.Sort.mapBlock (Go.Sort.ahead w m) b f) os).heap[b]? = some (.cells (f cur) e (0, 0)) := by
  have hj : b < w.heap.size := (Array.getElem?_eq_some_iff.1 hh).1
  rw [Go.Sort.heap_grow_old _ _ (by simpa [Go.Sort.mapBlock, Go.Sort.ahead] using hj)]
  unfold Go.Sort.mapBlock
  simp only
  rw [Array.getElem?_modify, if_pos rfl]
  have : (Go.Sort.ahead w m).heap[b]? = some (.cells cur e (0, 0)) := hh
  rw [this]
  rfl
theorem B2x {P : Program} {f : FuncId} (he : A5s P f = true) (args : Array Value) (w : World) : (callFunc f args).run P w = .ok (.enter f args) w := by
  unfold A5s at he
  split at he
  . rename_i fn hfn
    simp only [Bool.and_eq_true, Bool.not_eq_true'] at he
    have h2 : ¬ fn.body = none := by intro hb; rw [hb] at he; simp at he
    have h1 : ¬ fn.name = "runtime.NumGoroutine" := by simpa using he.1
    simp [callFunc, hfn, h1, h2, go_sem]
  . cases he
theorem F7t {α β : Type} {φ : α -> α -> Int} (v : β -> α) (h1 : ∀ a, ¬ φ a a < 0) (h2 : ∀ a b c, φ a b < 0 -> φ b c < 0 -> φ a c < 0) (h3 : ∀ a b c, ¬ φ a b < 0 -> ¬ φ b c < 0 -> ¬ φ a c < 0) :
    Go.Sort.SWO (Go.Proofs.ltOf fun x y : β => φ (v x) (v y)) := by
  refine ⟨fun x => ?_, fun x y z h h' => ?_, fun x y z h h' => ?_⟩
  . exact decide_eq_false (h1 _)
  . exact decide_eq_true (h2 _ _ _ (of_decide_eq_true h) (of_decide_eq_true h'))
  . exact decide_eq_false (h3 _ _ _ (of_decide_eq_false h) (of_decide_eq_false h'))
theorem E9z {t : Ty} {φ : t.den -> t.den -> Int} {e : TypeId} {w w' : World} {Z : Nat -> Prop} {fv : Value} {g cap : Nat} {cur F : Array Value} {k : Nat} {x : List t.den} {L L' : List (El t w Z)}
    (hZ : ∀ b, Z b -> b < w.heap.size) (hgZ : ¬ Z g) (hk : t.size = k)
    (hheap : w.heap[g]? = some (.cells cur e (0, 0))) (hcap : L.length <= cap) (hmax : cap <= maxLen) (hcs : cur.size = cap * k) (hLx : L.map El.v = x)
    (hp : L'.Perm L) (hs : L'.Pairwise fun a b => ¬ φ b.v a.v < 0)
    (hF : F.size = L.length * k) (hFx : ∀ j, j < L.length * k -> (L'.flatMap El.c)[j]? = some F[j]!)
    (hos : w'.os = w.os) (htape : w'.tape = w.tape) (hout : w'.output = w.output) (hsz : w.heap.size <= w'.heap.size)
    (hblk : ∀ j, j < w.heap.size -> j ≠ g -> w'.heap[j]? = w.heap[j]?) (hg : w'.heap[g]? = some (.cells (Go.Sort.putCells id 0 F cur) e (0, 0))) :
    C1g (F6j w (Y0 t e φ).args [.slice (some ⟨g, 0, none⟩) L.length cap, fv]) w w' /\ ∃ (r : A5f (Y0 t e φ).res) (o : D2s (Y0 t e φ).args) (us : List Value) (Zn : Nat -> Prop), (Y0 t e φ).post (x, ()) r /\ (T2 (Y0 t e φ).args = true -> (Y0 t e φ).mpost (x, ()) r o) /\ Value.tuple #[] = D0j us /\ (∀ b, Zn b -> (w.heap.size <= b /\ b < w'.heap.size) \/ ((Y0 t e φ).shared = true /\ Z b)) /\ C1k w.heap.size w' Zn (Y0 t e φ).res us r /\ D8q w w' Zn (Y0 t e φ).args [.slice (some ⟨g, 0, none⟩) L.length cap, fv] o := by
  have hlen : L'.length = L.length := hp.length_eq
  have hc : ∀ p : El t w Z, p.c.length = k := fun p => by rw [<- hk]; exact Rep.length p.h
  have hxl : (L'.flatMap El.c).length = L.length * k := by rw [E6a hc, hlen]
  obtain ⟨p1, p2⟩ := F0o hxl hF (by rw [hcs]; exact Nat.mul_le_mul_right _ hcap) hFx
  have hsame : W7 Z w w' := fun b hb => hblk b (hZ b hb) (fun e => hgZ (e ▸ hb))
  refine ⟨⟨hos, htape, hout, hsz, fun j hj hm => hblk j hj (fun ej => hm ?_), trivial⟩, (), (L'.map El.v, ()), [], Z, trivial, fun _ => ⟨?_, ?_⟩, rfl, fun b hb => .inr ⟨rfl, hb⟩, rfl, ?_⟩
  . subst ej
    refine ⟨(.row t e, .slice (some ⟨j, 0, none⟩) L.length cap), List.mem_cons_self, ?_⟩
    rfl
  . rw [<- hLx]; exact hp.map _
  . exact List.pairwise_map.2 hs
  . refine ⟨⟨L'.flatMap El.c, ⟨?_, .inr ⟨g, cap, Go.Sort.putCells id 0 F cur, ?_, Nat.zero_le _, hg, ?_, hmax, ?_, ?_⟩⟩, ?_⟩, trivial⟩
    . simp only [List.length_map]; rw [hxl, hlen, hk]
    . simp only [List.length_map, hlen]
    . simp only [List.length_map, hlen]; exact hcap
    . rw [p1, hcs, hk]
    . simp only [List.length_map, hlen, hk]; exact p2
    . refine E5u (fun c y hy => ?_) L'
      exact Rep.mono (fun b hb => hb) hsame hy
def G0u (P : Program) (g : FuncId) (t : Ty) (φ : t.den -> t.den -> Int) : Prop :=
  ∀ (w : World) (Z : Nat -> Prop) (c1 c2 : List Value) (x y : t.den), Rep t w Z c1 x -> Rep t w Z c2 y -> Calls P g #[.agg c1.toArray, .agg c2.toArray] w fun e w' => e = .returned (.int .i64 (φ x y)) /\ ∃ q os, w' = Go.Sort.grow (w.drewN q) os
theorem F5t {P : Program} {ρ : Ren} (LL : Go.Proofs.SlLaysF0.n6 P ρ) {t : Ty} {e : TypeId} {g : FuncId} {φ : t.den -> t.den -> Int} (aE : ∀ w, (isAgg (ρ.t 24)).run P w = .ok true w) (zE : ∀ w, (Go.sizeOf (ρ.t 24)).run P w = .ok t.size w)
    (h1 : ∀ a, ¬ φ a a < 0) (h2 : ∀ a b c, φ a b < 0 -> φ b c < 0 -> φ a c < 0) (h3 : ∀ a b c, ¬ φ a b < 0 -> ¬ φ b c < 0 -> ¬ φ a c < 0) (hen : A5s P g = true) (hcm : G0u P g t φ) : F1a P (ρ.f 6) g t e φ := by
  rintro w Z v l hZ ⟨xs, hown, hea, hZv⟩ hlen
  obtain ⟨L, rfl, rfl⟩ := E4y hea
  have hL : (L.map El.v).length = L.length := List.length_map ..
  rw [hL] at hown hlen
  obtain ⟨hxs, hv⟩ := hown
  have hnone : ∀ (p : Option Addr) (cap : Nat), L = [] -> Gw.Ret P (ρ.f 6) [.slice p 0 cap, .func (.func g) #[] #[]] w fun u w' => u = .tuple #[] /\ w' = w := fun p cap _ =>
    Calls.mono (Go.Proofs.AnyF.slices_SortFunc_none LL p cap (.func (.func g) #[] #[]) w) fun _ _ ⟨he, hw⟩ => ⟨_, he, rfl, hw⟩
  rcases hv with ⟨rfl, hn⟩ | ⟨b, cap, cur, rfl, _, hheap, hcap, hmax, hcs, htake⟩
  . have hL0 : L = [] := List.eq_nil_of_length_eq_zero hn
    subst hL0
    refine (hnone none 0 rfl).mono ?_
    rintro _ _ ⟨rfl, rfl⟩
    refine ⟨C1g.of (Ext.refl _), (), ([], ()), [], (fun _ => False), trivial, fun _ => ⟨List.Perm.refl _, List.Pairwise.nil⟩, rfl, fun _ hb => hb.elim, rfl, ⟨⟨[], World.ownsRow_nil _ _ _ _, rfl⟩, trivial⟩⟩
  . have hbZ : ¬ Z b := hZv b rfl
    have hc : ∀ p : El t w Z, p.c.length = t.size := fun p => Rep.length p.h
    have hbl : b < w.heap.size := (Array.getElem?_eq_some_iff.1 hheap).1
    rcases hL0 : L with _ | ⟨p0, L0⟩
    . subst hL0
      refine (hnone _ cap rfl).mono ?_
      rintro _ _ ⟨rfl, rfl⟩
      refine ⟨C1g.of (Ext.refl _), (), ([], ()), [], (fun _ => False), trivial, fun _ => ⟨List.Perm.refl _, List.Pairwise.nil⟩, rfl, fun _ hb => hb.elim, rfl, ⟨⟨[], ⟨by simp, .inr ⟨b, cap, cur, rfl, Nat.zero_le _, hheap, hcap, hmax, hcs, by simp⟩⟩, rfl⟩, trivial⟩⟩
    . rw [<- hL0]
      clear hnone
      haveI : Inhabited (El t w Z) := ⟨p0⟩
      have hH : Go.Sort.HoldsK El.c t.size w b 0 L.toArray := by
        intro j hj
        rw [Go.Sort.size_flatK] at hj
        have hj' : j < L.length * t.size := by simpa using hj
        have h5 := E5j hc L.toArray hj
        rw [Nat.zero_add]
        refine ⟨?_, ?_⟩
        . have h6 : cur[j]? = some (Go.Sort.flatK El.c t.size L.toArray)[j]! := by
            rw [<- h5]
            simp only
            rw [<- htake, List.getElem?_take_of_lt hj', Array.getElem?_toList]
          simp only [World.cell?, hheap]
          exact h6
        . simp [World.frozen?, hheap]
      have hcmp : Go.Proofs.CmpLays P g #[] El.c t.size (fun x y : El t w Z => φ x.v y.v) b 0 L.toArray.size w := by
        intro m os dk hdk x y
        have hsame : W7 Z w (Go.Proofs.sortWorldK El.c t.size w b 0 m dk os) := by
          intro i hi
          have : i ≠ b := fun e => hbZ (e ▸ hi)
          exact E5d (hZ i hi) this
        exact hcm _ Z x.c y.c x.v y.v (Rep.mono (fun _ h => h) hsame x.h) (Rep.mono (fun _ h => h) hsame y.h)
      have hcall := Go.Proofs.AnyQ.slices_SortFunc LL t.size aE zE El.c hc (fun x => Rep.oneCell x.h) (fun x y : El t w Z => φ x.v y.v) (F7t El.v h1 h2 h3) g #[] b 0 cap L.toArray w (B2x hen) hcmp hH hbl (by simp; omega)
      refine Calls.mono hcall ?_
      rintro _ w' ⟨rfl, d', n, os, hperm, hsort, rfl⟩
      refine ⟨_, rfl, ?_⟩
      have hp := F5h hperm
      have hs := E7q hperm.1 hsort
      have hds : d'.size = L.length := by rw [hperm.1]; simp
      refine E9z (k := t.size) (F := Go.Sort.flatK El.c t.size d') (L := L) (L' := d'.toList) (cur := cur) (x := L.map El.v) hZ hbZ rfl hheap hcap hmax hcs rfl hp ?_ ?_ ?_ rfl rfl rfl ?_ ?_ ?_
      . exact hs.imp fun h => of_decide_eq_false h
      . rw [Go.Sort.size_flatK, hds]
      . intro j hj; exact E5j hc d' (by rw [hds]; exact hj)
      . exact F9r
      . intro i hi hne
        exact E5d hi hne
      . exact F7w hheap
end Go.Vc
