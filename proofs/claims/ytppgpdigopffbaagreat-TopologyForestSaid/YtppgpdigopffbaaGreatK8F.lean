/- Parts: TPJ, Th, TPK, Ti, TPL, Tj, TPM, Tk, TPN, Tl, TPO, Tm, TPP, Tn, TPQ, OkC, OkF. -/
import Derived.Test.YtppgpdigopffbaaGreatK8E
namespace Go.Proofs.YtppgpdigopffbaaGreat
open Go.Vc Go.Gw
theorem vc_natural_cut_ok (x : dens s_natural_cut.args) (hw : awf s_natural_cut.args x) (_ : s_natural_cut.pre x) : vc_natural_cut x := by
  obtain ⟨l, _⟩ := x
  have hl : l.length ≤ 9223372036854775807 := hw.1.1
  have hb : limbs l := limbs_of hw.1.2
  change List Int at l
  simp only [vc_natural_cut]
  refine ⟨fun p => 0 ≤ p.1 ∧ p.1 ≤ (l.length : Int) ∧ ∀ i x, p.1.toNat ≤ i → l[i]? = some x → x = 0, fun p => p.1.toNat, ⟨Int.natCast_nonneg _, Int.le_refl _, fun i x hi hx => ?_⟩, ?_⟩
  · rw [List.getElem?_eq_none (by simpa using hi)] at hx; cases hx
  rintro ⟨n, _⟩ _ ⟨h0, h1, h2⟩
  change Int at n
  simp only at h0 h1 h2 ⊢
  refine ⟨fun h => ?_, fun h => ?_, fun h => ?_⟩
  · have h := of_decide_eq_true h
    rw [wr (by omega) (by omega)]
    exact ⟨by omega, by omega⟩
  · rw [sel_and] at h
    simp only [Bool.and_eq_true, decide_eq_true_eq] at h
    obtain ⟨h3, h4⟩ := h
    rw [wr (by omega) (by omega)] at h4 ⊢
    refine ⟨⟨by omega, by omega, fun i x hi hx => ?_⟩, by omega⟩
    by_cases he : i = (n - 1).toNat
    · subst he
      rw [gx_get (d := (0 : Int)) (by omega) (by omega)] at hx
      cases hx; exact h4
    · exact h2 i x (by omega) hx
  · refine ⟨⟨Int.le_refl _, h0, h1⟩, ?_⟩
    show (l.take n.toNat).drop 0 = _
    rw [List.drop_zero]
    refine nc_take hb (by omega) h2 ?_
    rw [sel_and] at h
    simp only [Bool.and_eq_false_iff, decide_eq_false_iff_not] at h
    rcases h with h | h
    · exact .inl (by omega)
    · by_cases hn : n = 0
      · exact .inl (by omega)
      · rw [wr (by omega) (by omega)] at h
        refine .inr ⟨gx 0 l (n - 1), ?_, h⟩
        have := gx_get (d := (0 : Int)) (l := l) (i := n - 1) (by omega) (by omega)
        rw [← this]; congr 1; omega
theorem vc_natural_FromUint64_ok (x : dens s_natural_FromUint64.args) (hw : awf s_natural_FromUint64.args x) (_ : s_natural_FromUint64.pre x) : vc_natural_FromUint64 x := by
  obtain ⟨v, _⟩ := x
  change Int at v
  have hv : IntKind.u64.min ≤ v ∧ v ≤ IntKind.u64.max := hw.1
  rw [u64_min, u64_max] at hv
  simp only [vc_natural_FromUint64]
  refine ⟨by decide, trivial, ?_⟩
  rintro ⟨r, _⟩ _ hr
  simp only at hr ⊢
  rw [hr]
  congr 1
  rw [show Min.min (Int.toNat 32) IntKind.u64.bits = 32 from rfl]
  simp only [nv, w32_mod]
  rw [Int.fdiv_eq_ediv_of_nonneg _ (by decide), show (2 : Int) ^ 32 = 4294967296 from rfl]
  omega
theorem vc_natural_word_ok (x : dens s_natural_word.args) (hw : awf s_natural_word.args x) (hp : s_natural_word.pre x) : vc_natural_word x := by
  obtain ⟨l, _⟩ := x
  have hb : limbs l := limbs_of hw.1.2
  have hl : l.length ≤ 2 := hp
  change List Int at l
  simp only [vc_natural_word]
  refine ⟨fun p => 0 ≤ p.2.1 ∧ p.2.1 ≤ (l.length : Int) ∧ p.1 = (nv (l.take p.2.1.toNat) : Int), fun p => ((l.length : Int) - p.2.1).toNat, ⟨Int.le_refl _, Int.natCast_nonneg _, rfl⟩, ?_⟩
  rintro ⟨v, i, _⟩ hv ⟨h0, h1, h2⟩
  change Int at v i
  simp only at h0 h1 h2 ⊢
  refine ⟨fun h => ?_, fun h => ?_⟩
  · have h := of_decide_eq_true h
    have hg := limb_gx hb h0 h
    have hlt := nv_lt (l := l.take i.toNat) fun x hx => hb x (List.mem_of_mem_take hx)
    rw [List.length_take, Nat.min_eq_left (by omega)] at hlt
    have hs := nv_take_succ h0 h
    rw [wr (a := 32 * i) (by omega) (by omega), wr (a := i + 1) (by omega) (by omega), w64 hg.1 (by omega)]
    have hm : Min.min (32 * i).toNat IntKind.u64.bits = 32 * i.toNat := by
      show Min.min (32 * i).toNat 64 = _
      omega
    rw [hm]
    have hi : i.toNat = 0 ∨ i.toNat = 1 := by omega
    refine ⟨⟨h0, h⟩, by show (0 : Int) ≤ 32 * i; omega, ?_⟩
    have key : IntKind.u64.wrap (((BitVec.ofInt 64 v ||| BitVec.ofInt 64 (IntKind.u64.wrap (gx 0 l i * 2 ^ (32 * i.toNat)))).toNat : Nat) : Int) = (nv (l.take (i + 1).toNat) : Int) := by
      rw [hs]
      generalize gx 0 l i = b at hg
      rcases hi with hi | hi
      · rw [hi] at hlt ⊢
        have hv0 : v = 0 := by rw [h2, hi]; simp [nv]
        rw [w64 (a := b * 2 ^ (32 * 0)) (by omega) (by omega), or_add (v := v) (b := b) (k := 32 * 0) (by omega) (by omega) hg.1 (by omega) (by omega), w64 (by omega) (by omega)]
        simp [nv]
        omega
      · rw [hi] at hlt ⊢
        rw [hi] at h2
        rw [w64 (a := b * 2 ^ (32 * 1)) (by omega) (by omega), or_add (v := v) (b := b) (k := 32 * 1) (by omega) (by omega) hg.1 (by omega) (by omega), w64 (by omega) (by omega)]
        omega
    exact ⟨⟨by omega, by omega, key⟩, by omega⟩
  · have h := of_decide_eq_false h
    rw [take_all (by omega)] at h2
    exact h2
theorem vc_natural_Uint64_ok (x : dens s_natural_Uint64.args) (hw : awf s_natural_Uint64.args x) (_ : s_natural_Uint64.pre x) : vc_natural_Uint64 x := by
  obtain ⟨l, _⟩ := x
  change List Int at l
  simp only [vc_natural_Uint64]
  refine ⟨trivial, ?_⟩
  rintro ⟨r, _⟩ _ hr
  simp only at hr ⊢
  subst hr
  refine ⟨fun h => ?_, fun h => ?_⟩
  · have h := of_decide_eq_true h
    have := nc_ge (k := 2) (n := nv l) (by omega)
    refine ⟨fun h2 => ?_, fun _ => trivial⟩
    rw [show (4294967296 : Nat) ^ 2 = 18446744073709551616 from rfl] at this
    omega
  · have h := of_decide_eq_false h
    have hle : (nc (nv l)).length ≤ 2 := by omega
    refine ⟨hle, ?_⟩
    rintro ⟨r, _⟩ _ hr
    simp only at hr ⊢
    have hlt := Nat.lt_of_lt_of_le (nc_lt_pow (nv l)) (Nat.pow_le_pow_right (by decide) hle)
    rw [nv_nc] at hr
    refine ⟨fun _ => ⟨hr, trivial⟩, fun h2 => ?_⟩
    rw [show (4294967296 : Nat) ^ 2 = 18446744073709551616 from rfl] at hlt
    omega
theorem vc_natural_Compare_ok (x : dens s_natural_Compare.args) (hw : awf s_natural_Compare.args x) (_ : s_natural_Compare.pre x) : vc_natural_Compare x := by
  obtain ⟨a, b, _⟩ := x
  change List Int at a b
  simp only [vc_natural_Compare]
  refine ⟨trivial, ?_⟩
  rintro ⟨r, _⟩ ⟨⟨hla, _⟩, _⟩ hr
  simp only at hr hla ⊢
  subst hr
  refine ⟨trivial, ?_⟩
  rintro ⟨s, _⟩ ⟨⟨hlb, _⟩, _⟩ hs
  simp only at hs hlb ⊢
  subst hs
  have ha := nc_limbs (nv a)
  have hb := nc_limbs (nv b)
  refine ⟨fun hne => ⟨fun h => ?_, fun h => ?_⟩, fun hne => ?_⟩
  · have h := of_decide_eq_true h
    exact (ncmp_lt (nc_len_lt (by omega))).symm
  · have h := of_decide_eq_false h
    have hne := of_decide_eq_true hne
    exact (ncmp_gt (nc_len_lt (by omega))).symm
  · have hlen : (nc (nv a)).length = (nc (nv b)).length := by have := of_decide_eq_false hne; omega
    have ea := nv_nc (nv a)
    have eb := nv_nc (nv b)
    generalize nc (nv a) = r at *
    generalize nc (nv b) = s at *
    rw [← ea, ← eb]
    refine ⟨fun p => -1 ≤ p.1 ∧ p.1 < (r.length : Int) ∧ r.drop (p.1 + 1).toNat = s.drop (p.1 + 1).toNat, fun p => (p.1 + 1).toNat, ?_, ?_⟩
    · rw [wr (by omega) (by omega)]
      refine ⟨by omega, by omega, ?_⟩
      rw [List.drop_of_length_le (by omega), List.drop_of_length_le (by omega)]
    rintro ⟨i, _⟩ _ ⟨h0, h1, h2⟩
    change Int at i
    simp only at h0 h1 h2 ⊢
    refine ⟨fun h => ?_, fun h => ?_⟩
    · have h := of_decide_eq_true h
      refine ⟨⟨h, h1⟩, ⟨h, by omega⟩, fun hlt => ?_, fun hlt => ⟨⟨h, h1⟩, ⟨h, by omega⟩, fun hgt => ?_, fun hgt => ?_⟩⟩
      · exact (ncmp_lt (nv_top ha hb hlen h h1 h2 (of_decide_eq_true hlt))).symm
      · exact (ncmp_gt (nv_top hb ha hlen.symm h (by omega) h2.symm (of_decide_eq_true hgt))).symm
      · have hlt := of_decide_eq_false hlt
        have hgt := of_decide_eq_false hgt
        rw [wr (by omega) (by omega)]
        refine ⟨⟨by omega, by omega, ?_⟩, by omega⟩
        rw [show i - 1 + 1 = i from by omega, nv_drop_cons h h1, nv_drop_cons h (by omega), h2, show gx 0 r i = gx 0 s i from by omega]
    · have h := of_decide_eq_false h
      rw [show (i + 1).toNat = 0 from by omega, List.drop_zero, List.drop_zero] at h2
      rw [h2, ncmp_self]
theorem vc_integer_signed_ok (x : dens s_integer_signed.args) (hw : awf s_integer_signed.args x) (_ : s_integer_signed.pre x) : vc_integer_signed x := by
  obtain ⟨b, l, _⟩ := x
  change Bool at b
  change List Int at l
  simp only [vc_integer_signed, sel_and]
  cases l <;> simp
theorem vc_integer_FromInt_ok (x : dens s_integer_FromInt.args) (hw : awf s_integer_FromInt.args x) (_ : s_integer_FromInt.pre x) : vc_integer_FromInt x := by
  obtain ⟨v, _⟩ := x
  change Int at v
  have hv : IntKind.i64.min ≤ v ∧ v ≤ IntKind.i64.max := hw.1
  rw [i64_min, i64_max] at hv
  simp only [vc_integer_FromInt]
  refine ⟨fun h => ⟨trivial, ?_⟩, fun h => ⟨trivial, ?_⟩⟩
  · rintro ⟨r, _⟩ _ hr
    refine ⟨trivial, ?_⟩
    rintro ⟨s, _⟩ _ hs
    simp only at hr hs ⊢
    have h := of_decide_eq_true h
    have e : (IntKind.u64.wrap (-IntKind.u64.wrap v)).toNat = v.natAbs := by rw [w64_mod, w64_mod]; omega
    rw [e] at hr
    subst hs hr
    unfold ic
    rw [decide_eq_true h, Bool.true_and, decide_eq_true (by rw [ne_eq, nc_nil]; omega)]
  · rintro ⟨r, _⟩ _ hr
    refine ⟨trivial, ?_⟩
    rintro ⟨s, _⟩ _ hs
    simp only at hr hs ⊢
    have h := of_decide_eq_false h
    have e : (IntKind.u64.wrap v).toNat = v.natAbs := by rw [w64_mod]; omega
    rw [e] at hr
    subst hs hr
    unfold ic
    rw [decide_eq_false h, Bool.false_and]
theorem vc_integer_Sign_ok (x : dens s_integer_Sign.args) (hw : awf s_integer_Sign.args x) (_ : s_integer_Sign.pre x) : vc_integer_Sign x := by
  obtain ⟨⟨b, l⟩, _⟩ := x
  change Bool at b
  change List Int at l
  simp only [vc_integer_Sign]
  refine ⟨trivial, ?_⟩
  rintro ⟨r, _⟩ _ hr
  simp only at hr ⊢
  rw [nv_nil] at hr
  refine ⟨fun h => ?_, fun h => ⟨fun hb => ?_, fun hb => ?_⟩⟩
  · have h := of_decide_eq_true h
    have h0 : nv l = 0 := ncmp_eq0.1 (hr ▸ h)
    unfold iv; simp only [h0]; split <;> rfl
  · have h := of_decide_eq_false h
    have h0 : nv l ≠ 0 := fun e => h (by rw [hr, e]; rfl)
    unfold iv; simp only [hb, if_true]
    rw [Int.sign_neg, Int.sign_eq_one_of_pos (by omega)]
  · have h := of_decide_eq_false h
    have h0 : nv l ≠ 0 := fun e => h (by rw [hr, e]; rfl)
    unfold iv; simp only [hb]
    exact (Int.sign_eq_one_of_pos (by simp; omega)).symm
theorem vc_rational_FromInt_ok (x : dens s_rational_FromInt.args) (hw : awf s_rational_FromInt.args x) (_ : s_rational_FromInt.pre x) : vc_rational_FromInt x := by
  obtain ⟨v, _⟩ := x
  simp only [vc_rational_FromInt]
  refine ⟨trivial, ?_⟩
  rintro ⟨r, _⟩ _ hr
  simp only at hr ⊢
  rw [hr]; rfl
theorem vc_rational_parts_ok (x : dens s_rational_parts.args) (hw : awf s_rational_parts.args x) (_ : s_rational_parts.pre x) : vc_rational_parts x := by
  obtain ⟨⟨a, l⟩, _⟩ := x
  change List Int at l
  simp only [vc_rational_parts]
  refine ⟨trivial, ?_⟩
  rintro ⟨r, _⟩ _ hr
  simp only at hr ⊢
  rw [nv_nil] at hr
  refine ⟨fun h => ?_, fun h => ?_⟩
  · have h0 : nv l = 0 := ncmp_eq0.1 (hr ▸ of_decide_eq_true h)
    exact ⟨fun _ => ⟨rfl, by trivial⟩, fun h => absurd h0 h⟩
  · have h0 : nv l ≠ 0 := fun e => (of_decide_eq_false h) (by rw [hr, e]; rfl)
    exact ⟨⟨fun h => absurd h h0, fun _ => ⟨by trivial, by trivial⟩⟩, fun h => absurd h h0, fun _ => ⟨by trivial, by trivial⟩⟩
theorem vc_rational_Sign_ok (x : dens s_rational_Sign.args) (hw : awf s_rational_Sign.args x) (_ : s_rational_Sign.pre x) : vc_rational_Sign x := by
  obtain ⟨⟨a, l⟩, _⟩ := x
  change List Int at l
  simp only [vc_rational_Sign]
  refine ⟨trivial, ?_⟩
  rintro ⟨r, d, _⟩ _ ⟨hr, hr2⟩
  refine ⟨trivial, ?_⟩
  rintro ⟨s, _⟩ _ hs
  simp only at hr hr2 hs ⊢
  rw [hs]
  unfold rsgn
  split
  · rename_i h; rw [(hr h).1]; rfl
  · rename_i h; rw [(hr2 h).1]
theorem vc_rational_small_ok (x : dens s_rational_small.args) (hw : awf s_rational_small.args x) (_ : s_rational_small.pre x) : vc_rational_small x := by
  obtain ⟨⟨⟨b, a⟩, l⟩, _⟩ := x
  change Bool at b
  change List Int at a l
  simp only [vc_rational_small]
  refine ⟨trivial, ?_⟩
  rintro ⟨u, ok, _⟩ _ ⟨h1, h2⟩
  refine ⟨trivial, ?_⟩
  rintro ⟨v, fits, _⟩ _ ⟨h3, h4⟩
  change Int at u v
  change Bool at ok fits
  simp only at h1 h2 h3 h4 ⊢
  have hs : sel (sel (sel (!ok) true !fits) true (decide (2147483648 ≤ u))) true (decide (2147483648 ≤ v)) = (!ok || !fits || decide (2147483648 ≤ u) || decide (2147483648 ≤ v)) := by simp only [sel_or]
  rw [hs]
  have key : (!ok || !fits || decide (2147483648 ≤ u) || decide (2147483648 ≤ v)) = false → smallR ((b, a), l) ∧ u = (nv a : Int) ∧ v = (nv l : Int) := fun h => by
    simp only [Bool.or_eq_false_iff, Bool.not_eq_false', decide_eq_false_iff_not] at h
    obtain ⟨⟨⟨e1, e2⟩, e3⟩, e4⟩ := h
    have ha : nv a < 18446744073709551616 := by
      rcases Nat.lt_or_ge (nv a) 18446744073709551616 with h | h
      · exact h
      · rw [h2 h] at e1; cases e1
    have hl : nv l < 18446744073709551616 := by
      rcases Nat.lt_or_ge (nv l) 18446744073709551616 with h | h
      · exact h
      · rw [h4 h] at e2; cases e2
    have q1 := (h1 ha).1
    have q3 := (h3 hl).1
    exact ⟨⟨by show nv a < _; omega, by show nv l < _; omega⟩, q1, q3⟩
  have key2 : smallR ((b, a), l) → (!ok || !fits || decide (2147483648 ≤ u) || decide (2147483648 ≤ v)) = false := fun h => by
    obtain ⟨g1, g2⟩ := h
    change nv a < _ at g1
    change nv l < _ at g2
    obtain ⟨q1, q2⟩ := h1 (by omega)
    obtain ⟨q3, q4⟩ := h3 (by omega)
    simp only [Bool.or_eq_false_iff, Bool.not_eq_false', decide_eq_false_iff_not]
    exact ⟨⟨⟨q2, q4⟩, by omega⟩, by omega⟩
  refine ⟨fun h => ⟨fun hs => ?_, fun _ => trivial⟩, fun h => ?_⟩
  · rw [key2 hs] at h; cases h
  · obtain ⟨hsm, hu, hv⟩ := key h
    have hsm' := hsm
    obtain ⟨g1, g2⟩ := hsm
    change nv a < _ at g1
    change nv l < _ at g2
    refine ⟨fun hz => ?_, fun hz => ⟨fun hb => ?_, fun hb => ?_⟩⟩
    · have hz := of_decide_eq_true hz
      have h0 : nv l = 0 := by omega
      exact ⟨fun _ => ⟨by unfold numS; rw [if_pos h0], by unfold denS; rw [if_pos h0], trivial⟩, fun h => absurd hsm' h⟩
    · have hz := of_decide_eq_false hz
      have h0 : nv l ≠ 0 := by omega
      refine ⟨fun _ => ⟨?_, ?_, trivial⟩, fun h => absurd hsm' h⟩
      · unfold numS; rw [if_neg h0, wr (a := u) (by omega) (by omega), wr (by omega) (by omega)]
        unfold iv; simp only [hb, if_true]; omega
      · unfold denS; rw [if_neg h0, wr (by omega) (by omega)]; exact hv
    · have hz := of_decide_eq_false hz
      have h0 : nv l ≠ 0 := by omega
      refine ⟨fun _ => ⟨?_, ?_, trivial⟩, fun h => absurd hsm' h⟩
      · unfold numS; rw [if_neg h0, wr (a := u) (by omega) (by omega)]
        unfold iv; simp only [hb]; simpa using hu
      · unfold denS; rw [if_neg h0, wr (by omega) (by omega)]; exact hv
theorem vc_rational_quotient_ok (x : dens s_rational_quotient.args) (hw : awf s_rational_quotient.args x) (hp : s_rational_quotient.pre x) : vc_rational_quotient x := by
  obtain ⟨n, d, _⟩ := x
  change Int at n d
  obtain ⟨d0, d1, n0, n1⟩ : 0 < d ∧ d ≤ 4611686018427387904 ∧ -4611686018427387904 ≤ n ∧ n ≤ 4611686018427387904 := hp
  have i1 : IntKind.i64.min = -9223372036854775808 := i64_min
  simp only [vc_rational_quotient]
  refine ⟨fun p => p.1 = (n.natAbs : Int), ⟨fun h => ?_, fun h => ?_⟩, ?_⟩
  · have h := of_decide_eq_true h
    show IntKind.u64.wrap (-IntKind.u64.wrap n) = _
    rw [w64_mod, w64_mod]; omega
  · have h := of_decide_eq_false h
    show IntKind.u64.wrap n = _
    rw [w64_mod]; omega
  rintro ⟨s, _⟩ _ hs
  simp only at hs ⊢
  subst hs
  have hd : IntKind.u64.wrap d = d := w64 (by omega) (by omega)
  refine ⟨fun p => 0 ≤ p.1 ∧ 0 ≤ p.2.1 ∧ (p.1 ≠ 0 ∨ p.2.1 ≠ 0) ∧ p.1.toNat.gcd p.2.1.toNat = d.toNat.gcd n.natAbs, fun p => p.2.1.toNat, ?_, ?_⟩
  · refine ⟨by omega, by show (0 : Int) ≤ (n.natAbs : Int); omega, .inl (by omega), ?_⟩
    rw [hd]; rfl
  rintro ⟨g, t, _⟩ _ ⟨h0, h1, h2, h3⟩
  change Int at g t
  simp only at h0 h1 h2 h3 ⊢
  refine ⟨fun h => ?_, fun h => ?_⟩
  · have h := of_decide_eq_true h
    have e : Int.tmod g t = g % t := Int.tmod_eq_emod_of_nonneg h0
    have e2 := Int.emod_nonneg g h
    have e3 := Int.emod_lt_of_pos g (b := t) (by omega)
    rw [e]
    refine ⟨h, ⟨h1, e2, .inl h, ?_⟩, by omega⟩
    rw [← h3, Int.toNat_emod h0 h1, Nat.gcd_comm t.toNat, ← Nat.gcd_rec, Nat.gcd_comm]
  · have h : t = 0 := by simpa using h
    subst h
    have hg : g ≠ 0 := by omega
    refine ⟨hg, hg, trivial, ?_⟩
    rintro ⟨r, _⟩ _ hr
    refine ⟨trivial, ?_⟩
    rintro ⟨q, _⟩ _ hq
    simp only at hr hq ⊢
    have hG : g.toNat = d.toNat.gcd n.natAbs := by rw [← h3]; simp
    have hgp : 0 < g := by omega
    have hge : g = ((d.toNat.gcd n.natAbs : Nat) : Int) := by omega
    obtain ⟨hn, hdn⟩ := mkRat_parts (x := n) (d := d.toNat) (by omega)
    have e1 : (IntKind.u64.wrap (Int.tdiv (n.natAbs : Int) g)).toNat = n.natAbs / d.toNat.gcd n.natAbs := by
      rw [IntWalk.u64_quo _ _ ⟨by omega, by omega, by omega⟩, hge, ← Int.natCast_ediv, Int.toNat_natCast]
    have e2 : (IntKind.u64.wrap (Int.tdiv d g)).toNat = d.toNat / d.toNat.gcd n.natAbs := by
      rw [IntWalk.u64_quo _ _ ⟨by omega, by omega, by omega⟩, hge]
      conv => lhs; rw [show d = ((d.toNat : Nat) : Int) from by omega]
      rw [← Int.natCast_ediv, Int.toNat_natCast]; simp only [Int.toNat_natCast]
    rw [hr, hq, hd, e1, e2]
    unfold rc
    rw [hn, hdn]
    unfold ic
    have hdvd : ((d.toNat.gcd n.natAbs : Nat) : Int) ∣ n := Int.ofNat_dvd_left.2 (Nat.gcd_dvd_right ..)
    have hgN : 0 < d.toNat.gcd n.natAbs := by omega
    generalize d.toNat.gcd n.natAbs = G at hdvd hgN
    obtain ⟨c, rfl⟩ := hdvd
    rw [Int.mul_ediv_cancel_left _ (by omega)]
    have hsgn : (G : Int) * c < 0 ↔ c < 0 := by
      constructor
      · intro h
        rcases Int.lt_or_le c 0 with h1 | h1
        · exact h1
        · have := Int.mul_nonneg (Int.le_of_lt (Int.ofNat_lt.2 hgN)) h1; omega
      · intro h
        exact Int.mul_neg_of_pos_of_neg (by omega) h
    rw [Int.natAbs_mul, Int.natAbs_natCast, Nat.mul_div_cancel_left _ hgN]
    simp only [hsgn]
theorem numS_rv (x : RatV) : mkRat (numS x) (denS x).toNat = rv x := by
  unfold numS denS rv
  split
  · rename_i h; rw [h, Rat.mkRat_zero]; rfl
  · rename_i h; rw [Int.toNat_natCast]
theorem vc_rational_Norm_ok (x : dens s_rational_Norm.args) (hw : awf s_rational_Norm.args x) (hp : s_rational_Norm.pre x) : vc_rational_Norm x := by
  obtain ⟨a, _⟩ := x
  have hs : smallR a := hp
  simp only [vc_rational_Norm]
  refine ⟨trivial, ?_⟩
  rintro ⟨n, d, ok, _⟩ _ ⟨h1, _⟩
  obtain ⟨h1, h2, h3⟩ := h1 hs
  simp only at h1 h2 h3 ⊢
  subst h1 h2 h3
  have hb : 0 < denS a ∧ denS a < 2147483648 ∧ -2147483648 < numS a ∧ numS a < 2147483648 := by
    obtain ⟨g1, g2⟩ := hs
    unfold denS numS iv
    split
    · omega
    · split <;> omega
  refine ⟨fun _ => ⟨⟨by omega, by omega, by omega, by omega⟩, ?_⟩, fun h => by cases h⟩
  rintro ⟨r, _⟩ _ hr
  simp only at hr ⊢
  rw [hr, numS_rv]
theorem vc_cmp_Compare_int_ok (x : dens s_cmp_Compare_int.args) (hw : awf s_cmp_Compare_int.args x) (_ : s_cmp_Compare_int.pre x) : vc_cmp_Compare_int x := by
  obtain ⟨a, b, _⟩ := x
  change Int at a b
  simp only [vc_cmp_Compare_int]
  refine ⟨trivial, ?_⟩
  rintro ⟨r, _⟩ _ hr
  refine ⟨trivial, ?_⟩
  rintro ⟨s, _⟩ _ hs
  change Bool at r s
  simp only at hr hs
  rw [hr, hs]
  refine ⟨fun h => (by cases h), fun _ => ⟨fun h => (by cases h), fun _ => ⟨fun h => ?_, fun h => ⟨fun h2 => ?_, fun h2 => ?_⟩⟩⟩⟩
  · simp [cmpI, of_decide_eq_true h]
  · simp [cmpI, of_decide_eq_false h, of_decide_eq_true h2]
  · simp [cmpI, of_decide_eq_false h, of_decide_eq_false h2]
end Go.Proofs.YtppgpdigopffbaaGreat
namespace Go.Proofs.YtppgpdigopffbaaGreat
open Go.Vc Go.Gw
def an_vector_byIndex : An := {}
def sp_vector_byIndex : Specs := [(105, s_cmp_Compare_int)]
def an_vector_ascending : An := { loop := [(2, ⟨[0], [], [(3, false, [.val (.int .i64)])], [], []⟩)], plan := [(4, [5, 10], [], true, (.p 0 (.p 1 (.p 2 (.p 3 (.p 4 (.q 5 (.p 6 (.p 7 (.p 8 (.p 9 (.q 10 (.p 11 .done)))))))))))))] }
def sp_vector_ascending : Specs := []
def an_slices_insertionSortCmpFunc_Entry : An := { loop := [(4, ⟨[0, 1, 2, 3, 8], [], [(9, false, [.val (.int .i64)])], [], [(0, .row (.pair (.int .i64) (.pair (.pair .bool (.sl (.int .u32))) (.sl (.int .u32)))) 49)]⟩), (1, ⟨[0, 1, 2, 3], [], [(8, false, [.val (.int .i64)])], [], [(0, .row (.pair (.int .i64) (.pair (.pair .bool (.sl (.int .u32))) (.sl (.int .u32)))) 49)]⟩)], plan := [(4, [8, 13], [], false, (.p 0 (.p 1 (.p 2 (.p 3 (.p 4 (.p 5 (.p 6 (.p 7 (.q 8 (.p 9 (.p 10 (.p 11 (.p 12 (.q 13 (.e 14 (.p 15 (.p 16 .done)))))))))))))))))), (6, [9, 13], [15, 17], true, (.p 0 (.p 1 (.p 2 (.p 3 (.p 4 (.p 5 (.p 6 (.p 7 (.p 8 (.q 9 (.p 10 (.p 11 (.p 12 (.q 13 (.p 14 (.e 15 (.p 16 (.e 17 .done)))))))))))))))))))] }
def sp_slices_insertionSortCmpFunc_Entry : Specs := []
def an_slices_stableCmpFunc_Entry : An := { join := [(16, ⟨[0, 1, 2, 6], [], [], [], [(0, .row (.pair (.int .i64) (.pair (.pair .bool (.sl (.int .u32))) (.sl (.int .u32)))) 49)]⟩)], loop := [(2, ⟨[0, 1, 2, 6], [], [(7, false, [.val (.int .i64)]), (8, false, [.val (.int .i64)])], [], [(0, .row (.pair (.int .i64) (.pair (.pair .bool (.sl (.int .u32))) (.sl (.int .u32)))) 49)]⟩), (9, ⟨[0, 1, 2, 6], [], [(7, false, [.val (.int .i64)]), (8, false, [.val (.int .i64)])], [], [(0, .row (.pair (.int .i64) (.pair (.pair .bool (.sl (.int .u32))) (.sl (.int .u32)))) 49)]⟩), (7, ⟨[0, 1, 2], [], [(6, false, [.val (.int .i64)])], [], [(0, .row (.pair (.int .i64) (.pair (.pair .bool (.sl (.int .u32))) (.sl (.int .u32)))) 49)]⟩)] }
def sp_slices_stableCmpFunc_Entry : Specs := [(118, s_slices_insertionSortCmpFunc_Entry), (119, s_slices_symMergeCmpFunc_Entry)]
def an_slices_SortStableFunc_SEntry_Entry : An := {}
def sp_slices_SortStableFunc_SEntry_Entry : Specs := [(104, s_slices_stableCmpFunc_Entry)]
def an_vector_arrange : An := { join := [(14, ⟨[3, 18, 19, 20], [], [(4, false, [.val (.int .i64)])], [], [(0, .row (.pair (.int .i64) (.pair (.pair .bool (.sl (.int .u32))) (.sl (.int .u32)))) 49)]⟩)], loop := [(8, ⟨[3, 18, 19], [], [(4, false, [.val (.int .i64)]), (20, false, [.val (.int .i64)])], [], [(0, .row (.pair (.int .i64) (.pair (.pair .bool (.sl (.int .u32))) (.sl (.int .u32)))) 49)]⟩)], plan := [(10, [8, 10], [], true, (.p 0 (.p 1 (.p 2 (.p 3 (.p 4 (.p 5 (.p 6 (.p 7 (.q 8 (.p 9 (.q 10 (.p 11 (.p 12 .done)))))))))))))), (11, [8, 10], [14], true, (.p 0 (.p 1 (.p 2 (.p 3 (.p 4 (.p 5 (.p 6 (.p 7 (.q 8 (.p 9 (.q 10 (.e 11 (.p 12 (.p 13 (.e 14 .done))))))))))))))))] }
def sp_vector_arrange : Specs := [(87, s_vector_ascending), (88, s_slices_SortStableFunc_SEntry_Entry), (89, s_vector_byIndex), (90, s_rational_Add)]
def an_vector_merge : An := { join := [(13, ⟨[2, 7, 9, 10], [1], [(0, false, [.val (.sl (.pair (.int .i64) (.pair (.pair .bool (.sl (.int .u32))) (.sl (.int .u32)))))]), (1, false, [.val (.sl (.pair (.int .i64) (.pair (.pair .bool (.sl (.int .u32))) (.sl (.int .u32)))))]), (8, false, [.val (.int .i64)])], [(2, 44, [.val .bool, .val (.sl (.int .u32)), .val (.sl (.int .u32))]), (3, 44, [.val .bool, .val (.sl (.int .u32)), .val (.sl (.int .u32))])], []⟩)], loop := [(2, ⟨[2], [], [(0, false, [.val (.sl (.pair (.int .i64) (.pair (.pair .bool (.sl (.int .u32))) (.sl (.int .u32)))))]), (1, false, [.val (.sl (.pair (.int .i64) (.pair (.pair .bool (.sl (.int .u32))) (.sl (.int .u32)))))]), (7, false, [.own (.pair (.int .i64) (.pair (.pair .bool (.sl (.int .u32))) (.sl (.int .u32)))) 49])], [], []⟩)], plan := [(5, [11, 15], [], true, (.p 0 (.p 1 (.p 2 (.p 3 (.p 4 (.p 5 (.p 6 (.p 7 (.p 8 (.p 9 (.p 10 (.q 11 (.p 12 (.p 13 (.p 14 (.q 15 (.p 16 (.p 17 (.p 18 .done)))))))))))))))))))), (6, [3, 7], [9], true, (.p 0 (.p 1 (.p 2 (.q 3 (.p 4 (.p 5 (.p 6 (.q 7 (.p 8 (.e 9 .done))))))))))), (11, [3, 7], [9], true, (.p 0 (.p 1 (.p 2 (.q 3 (.p 4 (.p 5 (.p 6 (.q 7 (.p 8 (.e 9 .done)))))))))))] }
def sp_vector_merge : Specs := [(86, s_rational_Sign)]
def an_vector_Norm_1 : An := {}
def sp_vector_Norm_1 : Specs := [(69, s_rational_Norm)]
def an_vector_Norm : An := {}
def sp_vector_Norm : Specs := [(66, s_vector_merge), (67, s_vector_arrange), (68, s_vector_Norm_1)]
def vc_vector_byIndex : dens s_vector_byIndex.args → Prop := fun (x : EE × EE × Unit) => True ∧ ∀ (r : Int × Unit), In64 r.fst ∧ True → r.fst = cmpI x.fst.fst x.snd.fst.fst → r.fst = cmpI x.fst.fst x.snd.fst.fst
theorem vc_vector_byIndex_eq (x : dens s_vector_byIndex.args) : semF ⟨Tryz.prog, tys⟩ sp_vector_byIndex an_vector_byIndex s_vector_byIndex Tryz.f89.results.toList (Tryz.f89.body.getD .skip) x = vc_vector_byIndex x := by kernel_rfl
theorem m_vector_byIndex (hsp : SpOk Tryz.prog sp_vector_byIndex) (h : ∀ x, awf s_vector_byIndex.args x → s_vector_byIndex.pre x → vc_vector_byIndex x) : Meets Tryz.prog 89 s_vector_byIndex := meets_vc (cx := ⟨Tryz.prog, tys⟩) (sp := sp_vector_byIndex) (an := an_vector_byIndex) (s := s_vector_byIndex) (fn := Tryz.f89) (c := Tryz.f89.body.getD .skip) Tryz.func89 (by kernel_rfl) (Nat.le_of_ble_eq_true (by kernel_rfl)) (by kernel_rfl) tys_ok hsp vc_vector_byIndex_eq h
def vc_vector_ascending : dens s_vector_ascending.args → Prop := fun (x : List EE × Unit) => ∃ (I : Int × Unit → Prop), ∃ (μ : Int × Unit → Nat), I ((1 : Int), ()) ∧ ∀ (p : Int × Unit), In64 p.fst ∧ True → I p → (decide (p.fst < (↑(List.length x.fst) : Int)) = true → ((0 : Int) ≤ IntKind.i64.wrap (p.fst - (1 : Int)) ∧ IntKind.i64.wrap (p.fst - (1 : Int)) < (↑(List.length x.fst) : Int)) ∧ ((0 : Int) ≤ p.fst ∧ p.fst < (↑(List.length x.fst) : Int)) ∧ (decide ((gx dEE x.fst p.fst).fst ≤ (gx dEE x.fst (IntKind.i64.wrap (p.fst - (1 : Int)))).fst) = true → false = decide (byIx x.fst)) ∧ (decide ((gx dEE x.fst p.fst).fst ≤ (gx dEE x.fst (IntKind.i64.wrap (p.fst - (1 : Int)))).fst) = false → I (IntKind.i64.wrap (p.fst + (1 : Int)), ()) ∧ μ (IntKind.i64.wrap (p.fst + (1 : Int)), ()) < μ p)) ∧ (decide (p.fst < (↑(List.length x.fst) : Int)) = false → true = decide (byIx x.fst))
theorem vc_vector_ascending_eq (x : dens s_vector_ascending.args) : semF ⟨Tryz.prog, tys⟩ sp_vector_ascending an_vector_ascending s_vector_ascending Tryz.f87.results.toList (Tryz.f87.body.getD .skip) x = vc_vector_ascending x := by kernel_rfl
theorem m_vector_ascending (hsp : SpOk Tryz.prog sp_vector_ascending) (h : ∀ x, awf s_vector_ascending.args x → s_vector_ascending.pre x → vc_vector_ascending x) : Meets Tryz.prog 87 s_vector_ascending := meets_vc (cx := ⟨Tryz.prog, tys⟩) (sp := sp_vector_ascending) (an := an_vector_ascending) (s := s_vector_ascending) (fn := Tryz.f87) (c := Tryz.f87.body.getD .skip) Tryz.func87 (by kernel_rfl) (Nat.le_of_ble_eq_true (by kernel_rfl)) (by kernel_rfl) tys_ok hsp vc_vector_ascending_eq h
def vc_slices_insertionSortCmpFunc_Entry : dens s_slices_insertionSortCmpFunc_Entry.args → Prop := fun (x : List EE × Int × Int × ((EE × EE × Unit → Prop) × (EE × EE × Unit → Int)) × Unit) => ∃ (I : Int × List EE × Unit → Prop), ∃ (μ : Int × List EE × Unit → Nat), I (IntKind.i64.wrap (x.snd.fst + (1 : Int)), x.fst, ()) ∧ ∀ (p : Int × List EE × Unit), In64 p.fst ∧ WfEs p.snd.fst ∧ True → I p → (decide (p.fst < x.snd.snd.fst) = true → ∃ (I_1 : Int × List EE × Unit → Prop), ∃ (μ_1 : Int × List EE × Unit → Nat), I_1 (p.fst, p.snd.fst, ()) ∧ ∀ (p_1 : Int × List EE × Unit), In64 p_1.fst ∧ WfEs p_1.snd.fst ∧ True → I_1 p_1 → (decide (x.snd.fst < p_1.fst) = true → (0 : Int) ≤ p_1.fst ∧ p_1.fst < (↑(List.length p_1.snd.fst) : Int)) ∧ (decide (x.snd.fst < p_1.fst) = true → (0 : Int) ≤ IntKind.i64.wrap (p_1.fst - (1 : Int)) ∧ IntKind.i64.wrap (p_1.fst - (1 : Int)) < (↑(List.length p_1.snd.fst) : Int)) ∧ Go.Proofs.Tryz.prog = Go.Proofs.Tryz.prog ∧ (decide (x.snd.fst < p_1.fst) = true → x.snd.snd.snd.fst.fst (List.getD p_1.snd.fst (Int.toNat p_1.fst) dEE, List.getD p_1.snd.fst (IntKind.i64.wrap (p_1.fst - (1 : Int))).toNat dEE, ())) ∧ ((decide (x.snd.fst < p_1.fst) = true → (Ty.int IntKind.i64).wf (x.snd.snd.snd.fst.snd (List.getD p_1.snd.fst (Int.toNat p_1.fst) dEE, List.getD p_1.snd.fst (IntKind.i64.wrap (p_1.fst - (1 : Int))).toNat dEE, ()))) → (sel (decide (x.snd.fst < p_1.fst)) (decide (x.snd.snd.snd.fst.snd (List.getD p_1.snd.fst (Int.toNat p_1.fst) dEE, List.getD p_1.snd.fst (IntKind.i64.wrap (p_1.fst - (1 : Int))).toNat dEE, ()) < (0 : Int))) false = true → ((0 : Int) ≤ IntKind.i64.wrap (p_1.fst - (1 : Int)) ∧ IntKind.i64.wrap (p_1.fst - (1 : Int)) < (↑(List.length p_1.snd.fst) : Int)) ∧ ((0 : Int) ≤ p_1.fst ∧ p_1.fst < (↑(List.length p_1.snd.fst) : Int)) ∧ ((0 : Int) ≤ p_1.fst ∧ p_1.fst < (↑(List.length p_1.snd.fst) : Int)) ∧ ((0 : Int) ≤ IntKind.i64.wrap (p_1.fst - (1 : Int)) ∧ IntKind.i64.wrap (p_1.fst - (1 : Int)) < (↑(List.set p_1.snd.fst (Int.toNat p_1.fst) (List.getD p_1.snd.fst (IntKind.i64.wrap (p_1.fst - (1 : Int))).toNat dEE)).length : Int)) ∧ I_1 (IntKind.i64.wrap (p_1.fst - (1 : Int)), (List.set p_1.snd.fst (Int.toNat p_1.fst) (List.getD p_1.snd.fst (IntKind.i64.wrap (p_1.fst - (1 : Int))).toNat dEE)).set (IntKind.i64.wrap (p_1.fst - (1 : Int))).toNat (List.getD p_1.snd.fst (Int.toNat p_1.fst) dEE), ()) ∧ μ_1 (IntKind.i64.wrap (p_1.fst - (1 : Int)), (List.set p_1.snd.fst (Int.toNat p_1.fst) (List.getD p_1.snd.fst (IntKind.i64.wrap (p_1.fst - (1 : Int))).toNat dEE)).set (IntKind.i64.wrap (p_1.fst - (1 : Int))).toNat (List.getD p_1.snd.fst (Int.toNat p_1.fst) dEE), ()) < μ_1 p_1) ∧ (sel (decide (x.snd.fst < p_1.fst)) (decide (x.snd.snd.snd.fst.snd (List.getD p_1.snd.fst (Int.toNat p_1.fst) dEE, List.getD p_1.snd.fst (IntKind.i64.wrap (p_1.fst - (1 : Int))).toNat dEE, ()) < (0 : Int))) false = false → I (IntKind.i64.wrap (p.fst + (1 : Int)), p_1.snd.fst, ()) ∧ μ (IntKind.i64.wrap (p.fst + (1 : Int)), p_1.snd.fst, ()) < μ p))) ∧ (decide (p.fst < x.snd.snd.fst) = false → True ∧ List.Perm p.snd.fst x.fst ∧ List.take x.snd.fst.toNat p.snd.fst = List.take x.snd.fst.toNat x.fst ∧ List.drop x.snd.snd.fst.toNat p.snd.fst = List.drop x.snd.snd.fst.toNat x.fst ∧ srtd x.snd.snd.snd.fst.snd (List.take (x.snd.snd.fst.toNat - x.snd.fst.toNat) (List.drop x.snd.fst.toNat p.snd.fst)))
theorem vc_slices_insertionSortCmpFunc_Entry_eq (x : dens s_slices_insertionSortCmpFunc_Entry.args) : semF ⟨Tryz.prog, tys⟩ sp_slices_insertionSortCmpFunc_Entry an_slices_insertionSortCmpFunc_Entry s_slices_insertionSortCmpFunc_Entry Tryz.f118.results.toList (Tryz.f118.body.getD .skip) x = vc_slices_insertionSortCmpFunc_Entry x := by kernel_rfl
theorem m_slices_insertionSortCmpFunc_Entry (hsp : SpOk Tryz.prog sp_slices_insertionSortCmpFunc_Entry) (h : ∀ x, awf s_slices_insertionSortCmpFunc_Entry.args x → s_slices_insertionSortCmpFunc_Entry.pre x → vc_slices_insertionSortCmpFunc_Entry x) : Meets Tryz.prog 118 s_slices_insertionSortCmpFunc_Entry := meets_vc (cx := ⟨Tryz.prog, tys⟩) (sp := sp_slices_insertionSortCmpFunc_Entry) (an := an_slices_insertionSortCmpFunc_Entry) (s := s_slices_insertionSortCmpFunc_Entry) (fn := Tryz.f118) (c := Tryz.f118.body.getD .skip) Tryz.func118 (by kernel_rfl) (Nat.le_of_ble_eq_true (by kernel_rfl)) (by kernel_rfl) tys_ok hsp vc_slices_insertionSortCmpFunc_Entry_eq h
def vc_slices_stableCmpFunc_Entry : dens s_slices_stableCmpFunc_Entry.args → Prop := fun (x : List EE × Int × ((EE × EE × Unit → Prop) × (EE × EE × Unit → Int)) × Unit) => ∃ (I : Int × Int × List EE × Unit → Prop), ∃ (μ : Int × Int × List EE × Unit → Nat), I ((0 : Int), (20 : Int), x.fst, ()) ∧ ∀ (p : Int × Int × List EE × Unit), In64 p.fst ∧ In64 p.snd.fst ∧ WfEs p.snd.snd.fst ∧ True → I p → (decide (p.snd.fst ≤ x.snd.fst) = true → Go.Proofs.Tryz.prog = Go.Proofs.Tryz.prog ∧ false = false ∧ ((okCmp x.snd.snd.fst.fst fun (z : EE × EE × Unit) => x.snd.snd.fst.snd z) ∧ (0 : Int) ≤ p.fst ∧ p.fst ≤ p.snd.fst ∧ p.snd.fst ≤ (↑(List.length p.snd.snd.fst) : Int) ∧ List.length p.snd.snd.fst ≤ (100000 : Nat)) ∧ ∀ (r : Unit) (o : List EE × Unit), True → ((Ty.int IntKind.i64).pair ((Ty.bool.pair (Ty.int IntKind.u32).sl).pair (Ty.int IntKind.u32).sl)).sl.wf o.fst ∧ True → True → o.fst.Perm p.snd.snd.fst ∧ List.take (Int.toNat p.fst) o.fst = List.take (Int.toNat p.fst) p.snd.snd.fst ∧ List.drop (Int.toNat p.snd.fst) o.fst = List.drop (Int.toNat p.snd.fst) p.snd.snd.fst ∧ srtd (fun (z : EE × EE × Unit) => x.snd.snd.fst.snd z) (List.take (Int.toNat p.snd.fst - Int.toNat p.fst) (List.drop (Int.toNat p.fst) o.fst)) → I (p.snd.fst, IntKind.i64.wrap (p.snd.fst + (20 : Int)), o) ∧ μ (p.snd.fst, IntKind.i64.wrap (p.snd.fst + (20 : Int)), o) < μ p) ∧ (decide (p.snd.fst ≤ x.snd.fst) = false → Go.Proofs.Tryz.prog = Go.Proofs.Tryz.prog ∧ false = false ∧ ((okCmp x.snd.snd.fst.fst fun (z : EE × EE × Unit) => x.snd.snd.fst.snd z) ∧ (0 : Int) ≤ p.fst ∧ p.fst ≤ x.snd.fst ∧ x.snd.fst ≤ (↑(List.length p.snd.snd.fst) : Int) ∧ List.length p.snd.snd.fst ≤ (100000 : Nat)) ∧ ∀ (r : Unit) (o : List EE × Unit), True → ((Ty.int IntKind.i64).pair ((Ty.bool.pair (Ty.int IntKind.u32).sl).pair (Ty.int IntKind.u32).sl)).sl.wf o.fst ∧ True → True → o.fst.Perm p.snd.snd.fst ∧ List.take (Int.toNat p.fst) o.fst = List.take (Int.toNat p.fst) p.snd.snd.fst ∧ List.drop (Int.toNat x.snd.fst) o.fst = List.drop (Int.toNat x.snd.fst) p.snd.snd.fst ∧ srtd (fun (z : EE × EE × Unit) => x.snd.snd.fst.snd z) (List.take (Int.toNat x.snd.fst - Int.toNat p.fst) (List.drop (Int.toNat p.fst) o.fst)) → ∃ (I : Int × List EE × Unit → Prop), ∃ (μ : Int × List EE × Unit → Nat), I ((20 : Int), o) ∧ ∀ (p : Int × List EE × Unit), In64 p.fst ∧ WfEs p.snd.fst ∧ True → I p → (decide (p.fst < x.snd.fst) = true → ∃ (I_1 : Int × Int × List EE × Unit → Prop), ∃ (μ_1 : Int × Int × List EE × Unit → Nat), I_1 ((0 : Int), IntKind.i64.wrap ((2 : Int) * p.fst), p.snd.fst, ()) ∧ ∀ (p_1 : Int × Int × List EE × Unit), In64 p_1.fst ∧ In64 p_1.snd.fst ∧ WfEs p_1.snd.snd.fst ∧ True → I_1 p_1 → (decide (p_1.snd.fst ≤ x.snd.fst) = true → Go.Proofs.Tryz.prog = Go.Proofs.Tryz.prog ∧ false = false ∧ False ∧ ∀ (r : Unit) (o : List EE × Unit), True → ((Ty.int IntKind.i64).pair ((Ty.bool.pair (Ty.int IntKind.u32).sl).pair (Ty.int IntKind.u32).sl)).sl.wf o.fst ∧ True → True → True → I_1 (p_1.snd.fst, IntKind.i64.wrap (p_1.snd.fst + IntKind.i64.wrap ((2 : Int) * p.fst)), o) ∧ μ_1 (p_1.snd.fst, IntKind.i64.wrap (p_1.snd.fst + IntKind.i64.wrap ((2 : Int) * p.fst)), o) < μ_1 p_1) ∧ (decide (p_1.snd.fst ≤ x.snd.fst) = false → ∃ (J : List EE × Unit → Prop), ((decide (IntKind.i64.wrap (p_1.fst + p.fst) < x.snd.fst) = true → Go.Proofs.Tryz.prog = Go.Proofs.Tryz.prog ∧ false = false ∧ False ∧ ∀ (r : Unit) (o : List EE × Unit), True → ((Ty.int IntKind.i64).pair ((Ty.bool.pair (Ty.int IntKind.u32).sl).pair (Ty.int IntKind.u32).sl)).sl.wf o.fst ∧ True → True → True → J o) ∧ (decide (IntKind.i64.wrap (p_1.fst + p.fst) < x.snd.fst) = false → J (p_1.snd.snd.fst, ()))) ∧ ∀ (p_2 : List EE × Unit), WfEs p_2.fst ∧ True → J p_2 → I (IntKind.i64.wrap (p.fst * (2 : Int)), p_2) ∧ μ (IntKind.i64.wrap (p.fst * (2 : Int)), p_2) < μ p)) ∧ (decide (p.fst < x.snd.fst) = false → True ∧ List.Perm p.snd.fst x.fst ∧ srtd x.snd.snd.fst.snd p.snd.fst))
theorem vc_slices_stableCmpFunc_Entry_eq (x : dens s_slices_stableCmpFunc_Entry.args) : semF ⟨Tryz.prog, tys⟩ sp_slices_stableCmpFunc_Entry an_slices_stableCmpFunc_Entry s_slices_stableCmpFunc_Entry Tryz.f104.results.toList (Tryz.f104.body.getD .skip) x = vc_slices_stableCmpFunc_Entry x := by kernel_rfl
theorem m_slices_stableCmpFunc_Entry (hsp : SpOk Tryz.prog sp_slices_stableCmpFunc_Entry) (h : ∀ x, awf s_slices_stableCmpFunc_Entry.args x → s_slices_stableCmpFunc_Entry.pre x → vc_slices_stableCmpFunc_Entry x) : Meets Tryz.prog 104 s_slices_stableCmpFunc_Entry := meets_vc (cx := ⟨Tryz.prog, tys⟩) (sp := sp_slices_stableCmpFunc_Entry) (an := an_slices_stableCmpFunc_Entry) (s := s_slices_stableCmpFunc_Entry) (fn := Tryz.f104) (c := Tryz.f104.body.getD .skip) Tryz.func104 (by kernel_rfl) (Nat.le_of_ble_eq_true (by kernel_rfl)) (by kernel_rfl) tys_ok hsp vc_slices_stableCmpFunc_Entry_eq h
def vc_slices_SortStableFunc_SEntry_Entry : dens s_slices_SortStableFunc_SEntry_Entry.args → Prop := fun (x : List EE × ((EE × EE × Unit → Prop) × (EE × EE × Unit → Int)) × Unit) => Go.Proofs.Tryz.prog = Go.Proofs.Tryz.prog ∧ false = false ∧ ((okCmp x.snd.fst.fst fun (z : EE × EE × Unit) => x.snd.fst.snd z) ∧ (↑(List.length x.fst) : Int) = (↑(List.length x.fst) : Int) ∧ List.length x.fst ≤ (20 : Nat)) ∧ ∀ (r : Unit) (o : List EE × Unit), True → ((Ty.int IntKind.i64).pair ((Ty.bool.pair (Ty.int IntKind.u32).sl).pair (Ty.int IntKind.u32).sl)).sl.wf o.fst ∧ True → True → o.fst.Perm x.fst ∧ srtd (fun (z : EE × EE × Unit) => x.snd.fst.snd z) o.fst → True ∧ o.fst.Perm x.fst ∧ srtd x.snd.fst.snd o.fst
theorem vc_slices_SortStableFunc_SEntry_Entry_eq (x : dens s_slices_SortStableFunc_SEntry_Entry.args) : semF ⟨Tryz.prog, tys⟩ sp_slices_SortStableFunc_SEntry_Entry an_slices_SortStableFunc_SEntry_Entry s_slices_SortStableFunc_SEntry_Entry Tryz.f88.results.toList (Tryz.f88.body.getD .skip) x = vc_slices_SortStableFunc_SEntry_Entry x := by kernel_rfl
theorem m_slices_SortStableFunc_SEntry_Entry (hsp : SpOk Tryz.prog sp_slices_SortStableFunc_SEntry_Entry) (h : ∀ x, awf s_slices_SortStableFunc_SEntry_Entry.args x → s_slices_SortStableFunc_SEntry_Entry.pre x → vc_slices_SortStableFunc_SEntry_Entry x) : Meets Tryz.prog 88 s_slices_SortStableFunc_SEntry_Entry := meets_vc (cx := ⟨Tryz.prog, tys⟩) (sp := sp_slices_SortStableFunc_SEntry_Entry) (an := an_slices_SortStableFunc_SEntry_Entry) (s := s_slices_SortStableFunc_SEntry_Entry) (fn := Tryz.f88) (c := Tryz.f88.body.getD .skip) Tryz.func88 (by kernel_rfl) (Nat.le_of_ble_eq_true (by kernel_rfl)) (by kernel_rfl) tys_ok hsp vc_slices_SortStableFunc_SEntry_Entry_eq h
def vc_vector_arrange : dens s_vector_arrange.args → Prop := fun (x : List EE × Unit) => True ∧ ∀ (r : Bool × Unit), True ∧ True → r.fst = decide (byIx x.fst) → (r.fst = true → List.Perm x.fst x.fst ∧ byIx x.fst) ∧ (r.fst = false → ((0 : Int) ≤ (↑(List.length x.fst) : Int) ∧ (↑(List.length x.fst) : Int) ≤ (↑(List.length x.fst) : Int) ∧ (↑(64 : Nat) : Int) * (↑(List.length x.fst) : Int) ≤ (281474976710656 : Int) ∧ (↑(List.length x.fst) : Int) ≤ (9223372036854775807 : Int)) ∧ ∃ (ok : EE × EE × Unit → Prop), ∃ (φ : EE × EE × Unit → Int), (∀ (y : EE × EE × Unit), ((Ty.int IntKind.i64).pair ((Ty.bool.pair (Ty.int IntKind.u32).sl).pair (Ty.int IntKind.u32).sl)).wf y.fst ∧ ((Ty.int IntKind.i64).pair ((Ty.bool.pair (Ty.int IntKind.u32).sl).pair (Ty.int IntKind.u32).sl)).wf y.snd.fst ∧ True → ok y → True ∧ ∀ (z : Int × Unit), In64 z.fst ∧ True → z.fst = cmpI y.fst.fst y.snd.fst.fst → false = false ∧ z.fst = φ y) ∧ (okCmp ok φ ∧ (copyL (List.replicate (↑(List.length x.fst) : Int).toNat dEE) x.fst).length ≤ (20 : Nat)) ∧ ∀ (r_1 : Unit) (o : List EE × Unit), True → ((Ty.int IntKind.i64).pair ((Ty.bool.pair (Ty.int IntKind.u32).sl).pair (Ty.int IntKind.u32).sl)).sl.wf o.fst ∧ True → True → o.fst.Perm (copyL (List.replicate (↑(List.length x.fst) : Int).toNat dEE) x.fst) ∧ srtd φ o.fst → ∃ (I : Int × Int × List EE × Unit → Prop), ∃ (μ : Int × Int × List EE × Unit → Nat), I ((0 : Int), (0 : Int), o) ∧ ∀ (p : Int × Int × List EE × Unit), In64 p.fst ∧ In64 p.snd.fst ∧ WfEs p.snd.snd.fst ∧ True → I p → (decide (p.snd.fst < (↑o.fst.length : Int)) = true → ∃ (J : Int × List EE × Unit → Prop), (((0 : Int) ≤ p.snd.fst ∧ p.snd.fst < (↑(List.length p.snd.snd.fst) : Int)) ∧ (decide ((0 : Int) < p.fst) = true → (0 : Int) ≤ IntKind.i64.wrap (p.fst - (1 : Int)) ∧ IntKind.i64.wrap (p.fst - (1 : Int)) < (↑(List.length p.snd.snd.fst) : Int)) ∧ (sel (decide ((0 : Int) < p.fst)) (decide ((List.getD p.snd.snd.fst (IntKind.i64.wrap (p.fst - (1 : Int))).toNat dEE).fst = (List.getD p.snd.snd.fst (Int.toNat p.snd.fst) dEE).fst)) false = true → ((0 : Int) ≤ IntKind.i64.wrap (p.fst - (1 : Int)) ∧ IntKind.i64.wrap (p.fst - (1 : Int)) < (↑(List.length p.snd.snd.fst) : Int)) ∧ False ∧ ∀ (r : QQ × Unit), WfQ r.fst ∧ True → True → ((0 : Int) ≤ IntKind.i64.wrap (p.fst - (1 : Int)) ∧ IntKind.i64.wrap (p.fst - (1 : Int)) < (↑(List.length p.snd.snd.fst) : Int)) ∧ J (p.fst, List.set p.snd.snd.fst (IntKind.i64.wrap (p.fst - (1 : Int))).toNat ((List.getD p.snd.snd.fst (IntKind.i64.wrap (p.fst - (1 : Int))).toNat dEE).fst, r.fst), ())) ∧ (sel (decide ((0 : Int) < p.fst)) (decide ((List.getD p.snd.snd.fst (IntKind.i64.wrap (p.fst - (1 : Int))).toNat dEE).fst = (List.getD p.snd.snd.fst (Int.toNat p.snd.fst) dEE).fst)) false = false → ((0 : Int) ≤ p.fst ∧ p.fst < (↑(List.length p.snd.snd.fst) : Int)) ∧ J (IntKind.i64.wrap (p.fst + (1 : Int)), List.set p.snd.snd.fst (Int.toNat p.fst) (List.getD p.snd.snd.fst (Int.toNat p.snd.fst) dEE), ()))) ∧ ∀ (p_1 : Int × List EE × Unit), In64 p_1.fst ∧ WfEs p_1.snd.fst ∧ True → J p_1 → I (p_1.fst, IntKind.i64.wrap (p.snd.fst + (1 : Int)), p_1.snd.fst, ()) ∧ μ (p_1.fst, IntKind.i64.wrap (p.snd.fst + (1 : Int)), p_1.snd.fst, ()) < μ p) ∧ (decide (p.snd.fst < (↑o.fst.length : Int)) = false → ((0 : Int) ≤ (0 : Int) ∧ (0 : Int) ≤ p.fst ∧ p.fst ≤ (↑(List.length p.snd.snd.fst) : Int)) ∧ (List.drop (Int.toNat (0 : Int)) (List.take (Int.toNat p.fst) p.snd.snd.fst)).Perm x.fst ∧ byIx (List.drop (Int.toNat (0 : Int)) (List.take (Int.toNat p.fst) p.snd.snd.fst))))
theorem vc_vector_arrange_eq (x : dens s_vector_arrange.args) : semF ⟨Tryz.prog, tys⟩ sp_vector_arrange an_vector_arrange s_vector_arrange Tryz.f67.results.toList (Tryz.f67.body.getD .skip) x = vc_vector_arrange x := by kernel_rfl
theorem m_vector_arrange (hsp : SpOk Tryz.prog sp_vector_arrange) (h : ∀ x, awf s_vector_arrange.args x → s_vector_arrange.pre x → vc_vector_arrange x) : Meets Tryz.prog 67 s_vector_arrange := meets_vc (cx := ⟨Tryz.prog, tys⟩) (sp := sp_vector_arrange) (an := an_vector_arrange) (s := s_vector_arrange) (fn := Tryz.f67) (c := Tryz.f67.body.getD .skip) Tryz.func67 (by kernel_rfl) (Nat.le_of_ble_eq_true (by kernel_rfl)) (by kernel_rfl) tys_ok hsp vc_vector_arrange_eq h
def vc_vector_merge : dens s_vector_merge.args → Prop := fun (x : List EE × List EE × ((QQ × QQ × Unit → Prop) × (QQ × QQ × Unit → (Bool × List Int) × List Int)) × Unit) => ((0 : Int) ≤ (0 : Int) ∧ (0 : Int) ≤ Max.max (↑(List.length x.fst) : Int) (↑(List.length x.snd.fst) : Int) ∧ (↑(64 : Nat) : Int) * Max.max (↑(List.length x.fst) : Int) (↑(List.length x.snd.fst) : Int) ≤ (281474976710656 : Int) ∧ Max.max (↑(List.length x.fst) : Int) (↑(List.length x.snd.fst) : Int) ≤ (9223372036854775807 : Int)) ∧ ∃ (I : List EE × List EE × List EE × Unit → Prop), ∃ (μ : List EE × List EE × List EE × Unit → Nat), I (x.fst, x.snd.fst, List.replicate (Int.toNat (0 : Int)) dEE, ()) ∧ ∀ (p : List EE × List EE × List EE × Unit), WfEs p.fst ∧ WfEs p.snd.fst ∧ WfEs p.snd.snd.fst ∧ True → I p → (sel (decide ((0 : Int) < (↑(List.length p.fst) : Int))) true (decide ((0 : Int) < (↑(List.length p.snd.fst) : Int))) = true → ∃ (J : List EE × List EE × Int × Bool × List Int × List Int × Bool × List Int × List Int × Unit → Prop), ((decide ((0 : Int) < (↑(List.length p.fst) : Int)) = true ∧ decide ((↑(List.length p.snd.fst) : Int) = (0 : Int)) = false → (0 : Int) ≤ (0 : Int) ∧ (0 : Int) < (↑(List.length p.fst) : Int)) ∧ (decide ((0 : Int) < (↑(List.length p.fst) : Int)) = true ∧ decide ((↑(List.length p.snd.fst) : Int) = (0 : Int)) = false → (0 : Int) ≤ (0 : Int) ∧ (0 : Int) < (↑(List.length p.snd.fst) : Int)) ∧ (sel (decide ((↑(List.length p.snd.fst) : Int) = (0 : Int))) true (sel (decide ((0 : Int) < (↑(List.length p.fst) : Int))) (decide ((gx dEE p.fst (0 : Int)).fst ≤ (gx dEE p.snd.fst (0 : Int)).fst)) false) = true → ((0 : Int) ≤ (0 : Int) ∧ (0 : Int) < (↑(List.length p.fst) : Int)) ∧ ((0 : Int) ≤ (0 : Int) ∧ (0 : Int) < (↑(List.length p.fst) : Int)) ∧ ((0 : Int) ≤ (1 : Int) ∧ (1 : Int) ≤ (↑(List.length p.fst) : Int) ∧ (↑(List.length p.fst) : Int) ≤ (↑(List.length p.fst) : Int)) ∧ (decide ((0 : Int) < (↑(List.length p.snd.fst) : Int)) = true → (0 : Int) ≤ (0 : Int) ∧ (0 : Int) < (↑(List.length p.snd.fst) : Int)) ∧ (sel (decide ((0 : Int) < (↑(List.length p.snd.fst) : Int))) (decide ((gx dEE p.snd.fst (0 : Int)).fst = (gx dEE p.fst (0 : Int)).fst)) false = true → ((0 : Int) ≤ (0 : Int) ∧ (0 : Int) < (↑(List.length p.snd.fst) : Int)) ∧ ((0 : Int) ≤ (1 : Int) ∧ (1 : Int) ≤ (↑(List.length p.snd.fst) : Int) ∧ (↑(List.length p.snd.fst) : Int) ≤ (↑(List.length p.snd.fst) : Int)) ∧ J (List.drop (Int.toNat (1 : Int)) (List.take (↑(List.length p.fst) : Int).toNat p.fst), List.drop (Int.toNat (1 : Int)) (List.take (↑(List.length p.snd.fst) : Int).toNat p.snd.fst), (gx dEE p.fst (0 : Int)).fst, (gx dEE p.fst (0 : Int)).snd.fst.fst, (gx dEE p.fst (0 : Int)).snd.fst.snd, (gx dEE p.fst (0 : Int)).snd.snd, (gx dEE p.snd.fst (0 : Int)).snd.fst.fst, (gx dEE p.snd.fst (0 : Int)).snd.fst.snd, (gx dEE p.snd.fst (0 : Int)).snd.snd, ())) ∧ (sel (decide ((0 : Int) < (↑(List.length p.snd.fst) : Int))) (decide ((gx dEE p.snd.fst (0 : Int)).fst = (gx dEE p.fst (0 : Int)).fst)) false = false → J (List.drop (Int.toNat (1 : Int)) (List.take (↑(List.length p.fst) : Int).toNat p.fst), p.snd.fst, (gx dEE p.fst (0 : Int)).fst, (gx dEE p.fst (0 : Int)).snd.fst.fst, (gx dEE p.fst (0 : Int)).snd.fst.snd, (gx dEE p.fst (0 : Int)).snd.snd, false, [], [], ()))) ∧ (sel (decide ((↑(List.length p.snd.fst) : Int) = (0 : Int))) true (sel (decide ((0 : Int) < (↑(List.length p.fst) : Int))) (decide ((gx dEE p.fst (0 : Int)).fst ≤ (gx dEE p.snd.fst (0 : Int)).fst)) false) = false → ((0 : Int) ≤ (0 : Int) ∧ (0 : Int) < (↑(List.length p.snd.fst) : Int)) ∧ ((0 : Int) ≤ (0 : Int) ∧ (0 : Int) < (↑(List.length p.snd.fst) : Int)) ∧ ((0 : Int) ≤ (1 : Int) ∧ (1 : Int) ≤ (↑(List.length p.snd.fst) : Int) ∧ (↑(List.length p.snd.fst) : Int) ≤ (↑(List.length p.snd.fst) : Int)) ∧ J (p.fst, List.drop (Int.toNat (1 : Int)) (List.take (↑(List.length p.snd.fst) : Int).toNat p.snd.fst), (gx dEE p.snd.fst (0 : Int)).fst, false, [], [], (gx dEE p.snd.fst (0 : Int)).snd.fst.fst, (gx dEE p.snd.fst (0 : Int)).snd.fst.snd, (gx dEE p.snd.fst (0 : Int)).snd.snd, ()))) ∧ ∀ (p_1 : List EE × List EE × Int × Bool × List Int × List Int × Bool × List Int × List Int × Unit), WfEs p_1.fst ∧ WfEs p_1.snd.fst ∧ In64 p_1.snd.snd.fst ∧ True ∧ WfU p_1.snd.snd.snd.snd.fst ∧ WfU p_1.snd.snd.snd.snd.snd.fst ∧ True ∧ WfU p_1.snd.snd.snd.snd.snd.snd.snd.fst ∧ WfU p_1.snd.snd.snd.snd.snd.snd.snd.snd.fst ∧ True → J p_1 → Go.Proofs.Tryz.prog = Go.Proofs.Tryz.prog ∧ x.snd.snd.fst.fst (((p_1.snd.snd.snd.fst, p_1.snd.snd.snd.snd.fst), p_1.snd.snd.snd.snd.snd.fst), ((p_1.snd.snd.snd.snd.snd.snd.fst, p_1.snd.snd.snd.snd.snd.snd.snd.fst), p_1.snd.snd.snd.snd.snd.snd.snd.snd.fst), ()) ∧ (((Ty.bool.pair (Ty.int IntKind.u32).sl).pair (Ty.int IntKind.u32).sl).wf (x.snd.snd.fst.snd (((p_1.snd.snd.snd.fst, p_1.snd.snd.snd.snd.fst), p_1.snd.snd.snd.snd.snd.fst), ((p_1.snd.snd.snd.snd.snd.snd.fst, p_1.snd.snd.snd.snd.snd.snd.snd.fst), p_1.snd.snd.snd.snd.snd.snd.snd.snd.fst), ())) → True ∧ ∀ (r : Int × Unit), In64 r.fst ∧ True → r.fst = rsgn (x.snd.snd.fst.snd (((p_1.snd.snd.snd.fst, p_1.snd.snd.snd.snd.fst), p_1.snd.snd.snd.snd.snd.fst), ((p_1.snd.snd.snd.snd.snd.snd.fst, p_1.snd.snd.snd.snd.snd.snd.snd.fst), p_1.snd.snd.snd.snd.snd.snd.snd.snd.fst), ())) → (decide (r.fst ≠ (0 : Int)) = true → ((List.length p.snd.snd.fst + [(p_1.snd.snd.fst, x.snd.snd.fst.snd (((p_1.snd.snd.snd.fst, p_1.snd.snd.snd.snd.fst), p_1.snd.snd.snd.snd.snd.fst), ((p_1.snd.snd.snd.snd.snd.snd.fst, p_1.snd.snd.snd.snd.snd.snd.snd.fst), p_1.snd.snd.snd.snd.snd.snd.snd.snd.fst), ()))].length) * (64 : Nat) ≤ (140737488355328 : Nat) ∧ List.length p.snd.snd.fst + [(p_1.snd.snd.fst, x.snd.snd.fst.snd (((p_1.snd.snd.snd.fst, p_1.snd.snd.snd.snd.fst), p_1.snd.snd.snd.snd.snd.fst), ((p_1.snd.snd.snd.snd.snd.snd.fst, p_1.snd.snd.snd.snd.snd.snd.snd.fst), p_1.snd.snd.snd.snd.snd.snd.snd.snd.fst), ()))].length ≤ 9223372036854775807) ∧ I (p_1.fst, p_1.snd.fst, p.snd.snd.fst ++ [(p_1.snd.snd.fst, x.snd.snd.fst.snd (((p_1.snd.snd.snd.fst, p_1.snd.snd.snd.snd.fst), p_1.snd.snd.snd.snd.snd.fst), ((p_1.snd.snd.snd.snd.snd.snd.fst, p_1.snd.snd.snd.snd.snd.snd.snd.fst), p_1.snd.snd.snd.snd.snd.snd.snd.snd.fst), ()))], ()) ∧ μ (p_1.fst, p_1.snd.fst, p.snd.snd.fst ++ [(p_1.snd.snd.fst, x.snd.snd.fst.snd (((p_1.snd.snd.snd.fst, p_1.snd.snd.snd.snd.fst), p_1.snd.snd.snd.snd.snd.fst), ((p_1.snd.snd.snd.snd.snd.snd.fst, p_1.snd.snd.snd.snd.snd.snd.snd.fst), p_1.snd.snd.snd.snd.snd.snd.snd.snd.fst), ()))], ()) < μ p) ∧ (decide (r.fst ≠ (0 : Int)) = false → I (p_1.fst, p_1.snd.fst, p.snd.snd.fst, ()) ∧ μ (p_1.fst, p_1.snd.fst, p.snd.snd.fst, ()) < μ p))) ∧ (sel (decide ((0 : Int) < (↑(List.length p.fst) : Int))) true (decide ((0 : Int) < (↑(List.length p.snd.fst) : Int))) = false → p.snd.snd.fst = x.fst)
theorem vc_vector_merge_eq (x : dens s_vector_merge.args) : semF ⟨Tryz.prog, tys⟩ sp_vector_merge an_vector_merge s_vector_merge Tryz.f66.results.toList (Tryz.f66.body.getD .skip) x = vc_vector_merge x := by kernel_rfl
theorem m_vector_merge (hsp : SpOk Tryz.prog sp_vector_merge) (h : ∀ x, awf s_vector_merge.args x → s_vector_merge.pre x → vc_vector_merge x) : Meets Tryz.prog 66 s_vector_merge := meets_vc (cx := ⟨Tryz.prog, tys⟩) (sp := sp_vector_merge) (an := an_vector_merge) (s := s_vector_merge) (fn := Tryz.f66) (c := Tryz.f66.body.getD .skip) Tryz.func66 (by kernel_rfl) (Nat.le_of_ble_eq_true (by kernel_rfl)) (by kernel_rfl) tys_ok hsp vc_vector_merge_eq h
def vc_vector_Norm_1 : dens s_vector_Norm_1.args → Prop := fun (x : QQ × QQ × Unit) => smallR x.fst ∧ ∀ (r : QQ × Unit), WfQ r.fst ∧ True → r.fst = rc (rv x.fst) → r.fst = rc (rv x.fst)
theorem vc_vector_Norm_1_eq (x : dens s_vector_Norm_1.args) : semF ⟨Tryz.prog, tys⟩ sp_vector_Norm_1 an_vector_Norm_1 s_vector_Norm_1 Tryz.f68.results.toList (Tryz.f68.body.getD .skip) x = vc_vector_Norm_1 x := by kernel_rfl
theorem m_vector_Norm_1 (hsp : SpOk Tryz.prog sp_vector_Norm_1) (h : ∀ x, awf s_vector_Norm_1.args x → s_vector_Norm_1.pre x → vc_vector_Norm_1 x) : Meets Tryz.prog 68 s_vector_Norm_1 := meets_vc (cx := ⟨Tryz.prog, tys⟩) (sp := sp_vector_Norm_1) (an := an_vector_Norm_1) (s := s_vector_Norm_1) (fn := Tryz.f68) (c := Tryz.f68.body.getD .skip) Tryz.func68 (by kernel_rfl) (Nat.le_of_ble_eq_true (by kernel_rfl)) (by kernel_rfl) tys_ok hsp vc_vector_Norm_1_eq h
def vc_vector_Norm : dens s_vector_Norm.args → Prop := fun (x : List EE × Unit) => (List.length x.fst ≤ (20 : Nat) ∧ (List.map (fun (x : Int × (Bool × List Int) × List Int) => x.fst) x.fst).Nodup) ∧ ∀ (r : List EE × Unit), WfEs r.fst ∧ True → r.fst.Perm x.fst ∧ byIx r.fst → ∃ (ok : QQ × QQ × Unit → Prop), ∃ (φ : QQ × QQ × Unit → (Bool × List Int) × List Int), (∀ (y : QQ × QQ × Unit), ((Ty.bool.pair (Ty.int IntKind.u32).sl).pair (Ty.int IntKind.u32).sl).wf y.fst ∧ ((Ty.bool.pair (Ty.int IntKind.u32).sl).pair (Ty.int IntKind.u32).sl).wf y.snd.fst ∧ True → ok y → smallR y.fst ∧ ∀ (z : QQ × Unit), WfQ z.fst ∧ True → z.fst = rc (rv y.fst) → true = true ∧ z.fst = φ y) ∧ (nilL EE = [] ∧ List.length r.fst ≤ (100000 : Nat) ∧ ∀ (e : Int × (Bool × List Int) × List Int), e ∈ r.fst → (ok, φ).fst (e.snd, zr, ()) ∧ (ok, φ).snd (e.snd, zr, ()) = e.snd ∧ rsgn e.snd ≠ (0 : Int)) ∧ ∀ (r_1 : List EE × Unit), WfEs r_1.fst ∧ True → r_1.fst = r.fst → List.Perm r_1.fst x.fst ∧ byIx r_1.fst
theorem vc_vector_Norm_eq (x : dens s_vector_Norm.args) : semF ⟨Tryz.prog, tys⟩ sp_vector_Norm an_vector_Norm s_vector_Norm Tryz.f43.results.toList (Tryz.f43.body.getD .skip) x = vc_vector_Norm x := by kernel_rfl
theorem m_vector_Norm (hsp : SpOk Tryz.prog sp_vector_Norm) (h : ∀ x, awf s_vector_Norm.args x → s_vector_Norm.pre x → vc_vector_Norm x) : Meets Tryz.prog 43 s_vector_Norm := meets_vc (cx := ⟨Tryz.prog, tys⟩) (sp := sp_vector_Norm) (an := an_vector_Norm) (s := s_vector_Norm) (fn := Tryz.f43) (c := Tryz.f43.body.getD .skip) Tryz.func43 (by kernel_rfl) (Nat.le_of_ble_eq_true (by kernel_rfl)) (by kernel_rfl) tys_ok hsp vc_vector_Norm_eq h
end Go.Proofs.YtppgpdigopffbaaGreat
namespace Go.Proofs.YtppgpdigopffbaaGreat
open Go.Vc Go.Gw
theorem vc_vector_byIndex_ok (x : dens s_vector_byIndex.args) (hw : awf s_vector_byIndex.args x) (_ : s_vector_byIndex.pre x) : vc_vector_byIndex x := by
  simp only [vc_vector_byIndex]
  exact ⟨trivial, fun r _ h => h⟩
theorem vc_vector_ascending_ok (x : dens s_vector_ascending.args) (hw : awf s_vector_ascending.args x) (_ : s_vector_ascending.pre x) : vc_vector_ascending x := by
  obtain ⟨l, _⟩ := x
  have hl : l.length ≤ 9223372036854775807 := hw.1.1
  change List (Int × (Bool × List Int) × List Int) at l
  simp only [vc_vector_ascending]
  refine ⟨fun p => 1 ≤ p.1 ∧ ∀ s t : Nat, s < t → t < p.1.toNat → t < l.length → (l.getD s dEE).1 < (l.getD t dEE).1, fun p => ((l.length : Int) - p.1).toNat, ⟨Int.le_refl _, fun s t h1 h2 => by simp at h2; omega⟩, ?_⟩
  rintro ⟨k, _⟩ _ ⟨h0, h1⟩
  change Int at k
  simp only at h0 h1 ⊢
  refine ⟨fun h => ?_, fun h => ?_⟩
  · have h := of_decide_eq_true h
    rw [wr (a := k - 1) (by omega) (by omega)]
    refine ⟨⟨by omega, by omega⟩, ⟨by omega, h⟩, fun hb => ?_, fun hb => ?_⟩
    · have hb := of_decide_eq_true hb
      refine (decide_eq_false fun hp => ?_).symm
      unfold byIx at hp
      rw [List.pairwise_iff_getElem] at hp
      have := hp (k - 1).toNat k.toNat (by omega) (by omega) (by omega)
      have e1 := gx_get (d := dEE) (l := l) (i := k) (by omega) h
      have e2 := gx_get (d := dEE) (l := l) (i := k - 1) (by omega) (by omega)
      rw [List.getElem?_eq_getElem (by omega)] at e1 e2
      rw [Option.some.inj e1, Option.some.inj e2] at this
      omega
    · have hb := of_decide_eq_false hb
      rw [wr (a := k + 1) (by omega) (by omega)]
      rw [gx_getD (by omega) h, gx_getD (by omega) (by omega)] at hb
      refine ⟨⟨by omega, fun s t h2 h3 h4 => ?_⟩, by omega⟩
      by_cases ht : t = k.toNat
      · by_cases hs : s = (k - 1).toNat
        · rw [ht, hs]; omega
        · have := h1 s (k - 1).toNat (by omega) (by omega) (by omega)
          rw [ht]; omega
      · exact h1 s t h2 (by omega) h4
  · have h := of_decide_eq_false h
    refine (decide_eq_true ?_).symm
    unfold byIx
    rw [List.pairwise_iff_getElem]
    intro i j hi hj hij
    have := h1 i j hij (by omega) hj
    rw [List.getD_eq_getElem?_getD, List.getElem?_eq_getElem hi, List.getD_eq_getElem?_getD, List.getElem?_eq_getElem hj] at this
    exact this
theorem vc_slices_insertionSortCmpFunc_Entry_ok (x : dens s_slices_insertionSortCmpFunc_Entry.args) (hw : awf s_slices_insertionSortCmpFunc_Entry.args x) (hp : s_slices_insertionSortCmpFunc_Entry.pre x) : vc_slices_insertionSortCmpFunc_Entry x := by
  obtain ⟨l, a, b, ⟨ok, φ⟩, _⟩ := x
  change List (Int × (Bool × List Int) × List Int) at l
  change Int at a b
  obtain ⟨⟨hok, htr, has⟩, a0, ab, bl, hl⟩ : okCmp ok φ ∧ 0 ≤ a ∧ a ≤ b ∧ b ≤ (l.length : Int) ∧ l.length ≤ 100000 := hp
  simp only [vc_slices_insertionSortCmpFunc_Entry]
  have hq : ∀ x y z : Ent, ¬ φ (y, x, ()) < 0 → ¬ φ (z, y, ()) < 0 → ¬ φ (z, x, ()) < 0 := fun x y z h1 h2 => htr z y x h2 h1
  refine ⟨fun p => a + 1 ≤ p.1 ∧ (p.1 ≤ b ∨ p.1 = a + 1) ∧ p.2.1.Perm l ∧ p.2.1.take a.toNat = l.take a.toNat ∧ p.2.1.drop b.toNat = l.drop b.toNat ∧ (∀ s t, a.toNat ≤ s → s < t → t < p.1.toNat → t < b.toNat → ¬ φ (p.2.1.getD t dEE, p.2.1.getD s dEE, ()) < 0), fun p => (b - p.1).toNat, ?_, ?_⟩
  · rw [wr (by omega) (by omega)]
    refine ⟨Int.le_refl _, .inr rfl, List.Perm.refl _, rfl, rfl, fun s t h1 h2 h3 h4 => ?_⟩
    change t < (a + 1).toNat at h3
    omega
  rintro ⟨i, m, _⟩ _ ⟨h0, h1, h2, h3, h4, h5⟩
  change Int at i
  change List (Int × (Bool × List Int) × List Int) at m
  simp only at h0 h1 h2 h3 h4 h5 ⊢
  have hml := h2.length_eq
  refine ⟨fun h => ?_, fun h => ?_⟩
  · have h := of_decide_eq_true h
    refine ⟨fun p => a ≤ p.1 ∧ p.1 ≤ i ∧ p.2.1.Perm l ∧ p.2.1.take a.toNat = l.take a.toNat ∧ p.2.1.drop b.toNat = l.drop b.toNat ∧ insS (fun x y => ¬ φ (y, x, ()) < 0) dEE p.2.1 a.toNat i.toNat p.1.toNat, fun p => (p.1 - a).toNat, ⟨by show a ≤ i; omega, Int.le_refl _, h2, h3, h4, insS_start fun s t q1 q2 q3 => h5 s t q1 q2 q3 (by omega)⟩, ?_⟩
    rintro ⟨j, y, _⟩ _ ⟨g0, g1, g2, g3, g4, g5⟩
    change Int at j
    change List (Int × (Bool × List Int) × List Int) at y
    simp only at g0 g1 g2 g3 g4 g5 ⊢
    have hyl := g2.length_eq
    have ew : IntKind.i64.wrap (j - 1) = j - 1 := wr (by omega) (by omega)
    rw [ew]
    have et : (j - 1).toNat = j.toNat - 1 := by omega
    rw [et]
    refine ⟨fun hj => ⟨by omega, by omega⟩, fun hj => ?_, trivial, fun _ => hok _ _, fun _ => ⟨fun hs => ?_, fun hs => ?_⟩⟩
    · have hj := of_decide_eq_true hj; exact ⟨by omega, by omega⟩
    · rw [sel_and] at hs
      simp only [Bool.and_eq_true, decide_eq_true_eq] at hs
      obtain ⟨s1, s2⟩ := hs
      refine ⟨⟨by omega, by omega⟩, ⟨by omega, by omega⟩, ⟨by omega, by omega⟩, ⟨by omega, by rw [List.length_set]; omega⟩, ⟨by omega, by omega, ?_, ?_, ?_, ?_⟩, by omega⟩
      · exact (swapL_perm (d := dEE) (l := y) (j := j.toNat) (by omega)).trans g2
      · exact (swapL_take (d := dEE) (l := y) (by omega)).trans g3
      · exact (swapL_drop (d := dEE) (l := y) (by omega)).trans g4
      · exact insS_swap g5 (by omega) (by omega) (by omega) (has _ _ s2)
    · rw [sel_and] at hs
      simp only [Bool.and_eq_false_iff, decide_eq_false_iff_not] at hs
      rw [wr (by omega) (by omega)]
      refine ⟨⟨by omega, .inl (by omega), g2, g3, g4, fun s t q1 q2 q3 q4 => ?_⟩, by omega⟩
      refine insS_end g5 hq (by omega) (fun hh => ?_) s t q1 q2 (by change t < (i + 1).toNat at q3; omega)
      rcases hs with hs | hs
      · omega
      · exact hs
  · have h := of_decide_eq_false h
    refine ⟨trivial, h2, h3, h4, ?_⟩
    unfold srtd
    have := pairwise_range (q := fun x y => ¬ φ (y, x, ()) < 0) (d := dEE) (l := m) (a := a.toNat) (b := b.toNat) (by omega) fun s t q1 q2 q3 => h5 s t q1 q2 (by omega) q3
    exact this
theorem vc_slices_stableCmpFunc_Entry_ok (x : dens s_slices_stableCmpFunc_Entry.args) (hw : awf s_slices_stableCmpFunc_Entry.args x) (hp : s_slices_stableCmpFunc_Entry.pre x) : vc_slices_stableCmpFunc_Entry x := by
  obtain ⟨l, n, ⟨ok, φ⟩, _⟩ := x
  change List (Int × (Bool × List Int) × List Int) at l
  change Int at n
  obtain ⟨hok, hn, hl⟩ : okCmp ok φ ∧ n = (l.length : Int) ∧ l.length ≤ 20 := hp
  simp only [vc_slices_stableCmpFunc_Entry]
  refine ⟨fun p => (p.1 = 0 ∧ p.2.1 = 20 ∧ p.2.2.1 = l) ∨ (p.1 = 20 ∧ p.2.1 = 40 ∧ n = 20 ∧ p.2.2.1.Perm l ∧ srtd φ p.2.2.1), fun p => (40 - p.2.1).toNat, .inl ⟨rfl, rfl, rfl⟩, ?_⟩
  rintro ⟨a, b, m, _⟩ _ hI
  change Int at a b
  change List (Int × (Bool × List Int) × List Int) at m
  simp only at hI ⊢
  refine ⟨fun h => ?_, fun h => ?_⟩
  · have h := of_decide_eq_true h
    obtain ⟨rfl, rfl, rfl⟩ : a = 0 ∧ b = 20 ∧ m = l := by
      rcases hI with h1 | ⟨_, h1, _⟩
      · exact h1
      · omega
    refine ⟨trivial, trivial, ⟨hok, Int.le_refl _, by omega, by omega, by omega⟩, ?_⟩
    rintro r ⟨o, _⟩ _ _ _ ⟨o1, o2, o3, o4⟩
    simp only at o1 o2 o3 o4 ⊢
    rw [wr (by omega) (by omega)]
    refine ⟨.inr ⟨by trivial, by trivial, by omega, o1, ?_⟩, by simp⟩
    have hol := o1.length_eq
    change srtd φ ((o.drop 0).take (20 - 0)) at o4
    rw [List.drop_zero, List.take_of_length_le (by omega)] at o4
    exact o4
  · have h := of_decide_eq_false h
    have hm : 0 ≤ a ∧ a ≤ n ∧ m.Perm l ∧ (a = 0 ∨ a = n ∧ srtd φ m) := by
      rcases hI with ⟨rfl, rfl, rfl⟩ | ⟨rfl, rfl, h20, hp, hs⟩
      · exact ⟨Int.le_refl _, by omega, List.Perm.refl _, .inl rfl⟩
      · exact ⟨by decide, by omega, hp, .inr ⟨by omega, hs⟩⟩
    obtain ⟨m1, m2, m3, m4⟩ := hm
    have hml := m3.length_eq
    refine ⟨trivial, trivial, ⟨hok, m1, m2, by omega, by omega⟩, ?_⟩
    rintro r ⟨o, _⟩ _ _ _ ⟨o1, o2, o3, o4⟩
    simp only at o1 o2 o3 o4 ⊢
    have hol := o1.length_eq
    have hso : srtd φ o := by
      rcases m4 with m4 | ⟨m4, m5⟩
      · change srtd φ ((o.drop a.toNat).take (n.toNat - a.toNat)) at o4
        rw [m4] at o4
        change srtd φ ((o.drop 0).take (n.toNat - 0)) at o4
        rw [List.drop_zero, List.take_of_length_le (by omega)] at o4
        exact o4
      · rw [List.take_of_length_le (by omega), List.take_of_length_le (by omega)] at o2
        rw [o2]; exact m5
    refine ⟨fun p => p.1 = 20 ∧ p.2.1.Perm l ∧ srtd φ p.2.1, fun _ => 0, ⟨rfl, o1.trans m3, hso⟩, ?_⟩
    rintro ⟨k, z, _⟩ _ ⟨k1, k2, k3⟩
    simp only at k1 k2 k3 ⊢
    subst k1
    refine ⟨fun hk => ?_, fun _ => ⟨trivial, k2, k3⟩⟩
    have hk := of_decide_eq_true hk
    omega
theorem vc_slices_SortStableFunc_SEntry_Entry_ok (x : dens s_slices_SortStableFunc_SEntry_Entry.args) (hw : awf s_slices_SortStableFunc_SEntry_Entry.args x) (hp : s_slices_SortStableFunc_SEntry_Entry.pre x) : vc_slices_SortStableFunc_SEntry_Entry x := by
  obtain ⟨l, ⟨ok, φ⟩, _⟩ := x
  obtain ⟨hok, hl⟩ : okCmp ok φ ∧ l.length ≤ 20 := hp
  simp only [vc_slices_SortStableFunc_SEntry_Entry]
  refine ⟨trivial, trivial, ⟨hok, trivial, hl⟩, ?_⟩
  rintro r ⟨o, _⟩ _ _ _ h
  exact ⟨trivial, h⟩
theorem okCmp_index : okCmp (fun _ => True) (fun z => cmpI z.1.1 z.2.1.1) := by
  refine ⟨fun _ _ => trivial, fun a b c => ?_, fun a b => ?_⟩
  · simp only [cmpI]
    split <;> split <;> split <;> (try split) <;> (try split) <;> (try split) <;> omega
  · simp only [cmpI]
    split <;> split <;> (try split) <;> (try split) <;> omega
theorem cmpI_neg {a b : Int} : ¬ cmpI a b < 0 ↔ b ≤ a := by
  unfold cmpI; split
  · omega
  · split <;> omega
theorem srtd_byIx {l : List Ent} (h : srtd (fun z => cmpI z.1.1 z.2.1.1) l) (hn : (l.map (·.1)).Nodup) : byIx l := by
  unfold byIx srtd at *
  unfold List.Nodup at hn
  rw [List.pairwise_map] at hn
  refine (h.and hn).imp fun {a b} hh => ?_
  have h1 := cmpI_neg.1 hh.1
  have h2 := hh.2
  simp only at h1
  omega
theorem copyL_all {α : Type} {l : List α} {d : α} : copyL (List.replicate ((l.length : Nat) : Int).toNat d) l = l := by
  unfold copyL
  rw [List.length_replicate, Int.toNat_natCast, List.take_length, List.drop_of_length_le (by simp), List.append_nil]
theorem vc_vector_arrange_ok (x : dens s_vector_arrange.args) (hw : awf s_vector_arrange.args x) (hp : s_vector_arrange.pre x) : vc_vector_arrange x := by
  obtain ⟨l, _⟩ := x
  change List (Int × (Bool × List Int) × List Int) at l
  obtain ⟨hl, hn⟩ : l.length ≤ 20 ∧ (l.map fun e : Int × (Bool × List Int) × List Int => e.1).Nodup := hp
  simp only [vc_vector_arrange]
  refine ⟨trivial, ?_⟩
  rintro ⟨r, _⟩ _ hr
  simp only at hr ⊢
  subst hr
  refine ⟨fun h => ⟨List.Perm.refl _, of_decide_eq_true h⟩, fun h => ⟨⟨by omega, by omega, by omega, by omega⟩, fun _ => True, fun z => cmpI z.1.1 z.2.1.1, ?_, ⟨okCmp_index, ?_⟩, ?_⟩⟩
  · rintro ⟨a, b, _⟩ _ _
    refine ⟨trivial, ?_⟩
    rintro ⟨z, _⟩ _ hz
    exact ⟨(by trivial), hz⟩
  · rw [copyL_all]; exact hl
  rintro r ⟨o, _⟩ _ _ _ ⟨o1, o2⟩
  simp only [copyL_all] at o1 o2 ⊢
  have hol := o1.length_eq
  have hb := srtd_byIx o2 ((o1.map _).nodup_iff.2 hn)
  have hb2 := hb
  unfold byIx at hb2
  rw [List.pairwise_iff_getElem] at hb2
  refine ⟨fun p => p.1 = p.2.1 ∧ 0 ≤ p.1 ∧ p.1 ≤ (o.length : Int) ∧ p.2.2.1 = o, fun p => ((o.length : Int) - p.1).toNat, ⟨rfl, Int.le_refl _, Int.natCast_nonneg _, rfl⟩, ?_⟩
  rintro ⟨n, i, m, _⟩ _ ⟨h0, h1, h2, h3⟩
  change Int at n i
  simp only at h0 h1 h2 h3 ⊢
  subst h0 h3
  refine ⟨fun hi => ?_, fun hi => ?_⟩
  · have hi := of_decide_eq_true hi
    refine ⟨fun p => p.1 = n + 1 ∧ p.2.1 = m, ⟨⟨h1, hi⟩, fun hh => ?_, fun hh => ?_, fun hh => ?_⟩, ?_⟩
    · have hh := of_decide_eq_true hh
      rw [wr (by omega) (by omega)]
      exact ⟨by omega, by omega⟩
    · rw [sel_and] at hh
      simp only [Bool.and_eq_true, decide_eq_true_eq] at hh
      obtain ⟨g1, g2⟩ := hh
      rw [wr (by omega) (by omega)] at g2
      have := hb2 (n - 1).toNat n.toNat (by omega) (by omega) (by omega)
      rw [List.getD_eq_getElem?_getD, List.getElem?_eq_getElem (by omega), List.getD_eq_getElem?_getD, List.getElem?_eq_getElem (by omega)] at g2
      simp only [Option.getD_some] at g2
      omega
    · refine ⟨⟨h1, hi⟩, ?_, ?_⟩
      · exact wr (by omega) (by omega)
      · show m.set n.toNat (m.getD n.toNat _) = m
        rw [List.getD_eq_getElem?_getD, List.getElem?_eq_getElem (by omega)]
        exact List.set_getElem_self _
    · rintro ⟨k, z, _⟩ _ ⟨k1, k2⟩
      simp only at k1 k2 ⊢
      subst k1 k2
      rw [wr (by omega) (by omega)]
      exact ⟨⟨(by trivial), by omega, by omega, (by trivial)⟩, by omega⟩
  · have hi := of_decide_eq_false hi
    refine ⟨⟨Int.le_refl _, h1, h2⟩, ?_⟩
    rw [take_all (by omega)]
    exact ⟨o1, hb⟩
theorem vc_vector_merge_ok (x : dens s_vector_merge.args) (hw : awf s_vector_merge.args x) (hp : s_vector_merge.pre x) : vc_vector_merge x := by
  obtain ⟨l, b, ⟨ok, φ⟩, _⟩ := x
  change List (Int × (Bool × List Int) × List Int) at l
  obtain ⟨hb, hl, he⟩ : b = [] ∧ l.length ≤ 100000 ∧ ∀ e ∈ l, ok (e.2, zr, ()) ∧ φ (e.2, zr, ()) = e.2 ∧ rsgn e.2 ≠ 0 := hp
  subst hb
  simp only [vc_vector_merge]
  refine ⟨⟨Int.le_refl _, by omega, by simp; omega, by simp; omega⟩, fun p => p.2.1 = [] ∧ p.2.2.1 ++ p.1 = l, fun p => p.1.length, ⟨rfl, rfl⟩, ?_⟩
  rintro ⟨c, b, out, _⟩ _ ⟨h1, h2⟩
  change List (Int × (Bool × List Int) × List Int) at c b out
  simp only at h1 h2 ⊢
  subst h1
  cases c with
  | nil =>
    rw [List.append_nil] at h2
    exact ⟨fun h => by simp [sel] at h, fun _ => h2⟩
  | cons e c =>
    obtain ⟨i, ⟨neg, mag⟩, den⟩ := e
    have hel := he (i, (neg, mag), den) (by rw [← h2]; simp)
    refine ⟨fun _ => ⟨fun p => p.1 = c ∧ p.2.1 = [] ∧ p.2.2.1 = i ∧ p.2.2.2.1 = neg ∧ p.2.2.2.2.1 = mag ∧ p.2.2.2.2.2.1 = den ∧ p.2.2.2.2.2.2.1 = false ∧ p.2.2.2.2.2.2.2.1 = [] ∧ p.2.2.2.2.2.2.2.2.1 = [], ⟨fun h => ?_, fun h => ?_, fun h => ⟨⟨by decide, by simp⟩, ⟨by decide, by simp⟩, ⟨by decide, by simp; omega, Int.le_refl _⟩, fun h => ?_, fun h => ?_, fun _ => ⟨?_, rfl, rfl, rfl, rfl, rfl, rfl, rfl, rfl⟩⟩, fun h => ?_⟩, ?_⟩, fun h => by simp [sel] at h⟩
    · simp at h
    · simp at h
    · simp at h
    · simp [sel] at h
    · show ((((i, (neg, mag), den) :: c).take (((i, (neg, mag), den) :: c).length : Int).toNat)).drop 1 = c
      rw [Int.toNat_natCast, List.take_length]; rfl
    · simp [sel] at h
    · rintro ⟨c', b', i', neg', mag', den', n2, m2, d2, _⟩ _ ⟨k1, k2, k3, k4, k5, k6, k7, k8, k9⟩
      simp only at k1 k2 k3 k4 k5 k6 k7 k8 k9 ⊢
      subst k1 k2 k3 k4 k5 k6 k7 k8 k9
      refine ⟨trivial, hel.1, fun _ => ⟨trivial, ?_⟩⟩
      have hφ : φ (((neg', mag'), den'), ((false, []), []), ()) = ((neg', mag'), den') := hel.2.1
      rintro ⟨r, _⟩ _ hr
      simp only at hr ⊢
      have hr : r = rsgn (φ (((neg', mag'), den'), ((false, []), []), ())) := hr
      rw [hφ] at hr ⊢
      refine ⟨fun _ => ⟨⟨?_, ?_⟩, ⟨trivial, ?_⟩, by simp⟩, fun h => absurd (hr ▸ of_decide_eq_false h) ?_⟩
      · have := congrArg List.length h2
        simp at this ⊢; omega
      · have := congrArg List.length h2
        simp at this ⊢; omega
      · rw [← h2]; simp
      · have := hel.2.2
        simpa using this
theorem vc_vector_Norm_1_ok (x : dens s_vector_Norm_1.args) (hw : awf s_vector_Norm_1.args x) (hp : s_vector_Norm_1.pre x) : vc_vector_Norm_1 x := by
  simp only [vc_vector_Norm_1]
  exact ⟨hp, fun r _ h => h⟩
theorem ri_pm_small {x : RatV} (h : x = ri 1 ∨ x = ri (-1)) : smallR x ∧ rc (rv x) = x ∧ rsgn x ≠ 0 := by
  have key : ∀ k : Int, k.natAbs = 1 → smallR (ri k) ∧ rc (rv (ri k)) = ri k ∧ rsgn (ri k) ≠ 0 := fun k hk => by
    refine ⟨⟨?_, ?_⟩, ?_, ?_⟩
    · show nv (ic k).2 < _; rw [nv_ic, hk]; decide
    · rw [ri_one]; decide
    · rw [rv_ri, rc_int]
    · rw [rsgn_ri]; intro h; rw [Int.sign_eq_zero_iff_zero] at h; omega
  rcases h with rfl | rfl <;> exact key _ rfl
theorem vc_vector_Norm_ok (x : dens s_vector_Norm.args) (hw : awf s_vector_Norm.args x) (hp : s_vector_Norm.pre x) : vc_vector_Norm x := by
  obtain ⟨l, _⟩ := x
  change List (Int × (Bool × List Int) × List Int) at l
  obtain ⟨hl, hn, he⟩ : l.length ≤ 20 ∧ (l.map fun e : Int × (Bool × List Int) × List Int => e.1).Nodup ∧ ∀ e ∈ l, e.2 = ri 1 ∨ e.2 = ri (-1) := hp
  simp only [vc_vector_Norm]
  refine ⟨⟨hl, hn⟩, ?_⟩
  rintro ⟨r, _⟩ _ ⟨r1, r2⟩
  simp only at r1 r2 ⊢
  have hrl := r1.length_eq
  refine ⟨fun y => smallR y.1, fun y => rc (rv y.1), ?_, ⟨(by trivial), by omega, fun e h => ?_⟩, ?_⟩
  · rintro ⟨a, b, _⟩ _ ha
    refine ⟨ha, ?_⟩
    rintro ⟨z, _⟩ _ hz
    exact ⟨(by trivial), hz⟩
  · exact ri_pm_small (he e (r1.mem_iff.1 h))
  · rintro ⟨z, _⟩ _ hz
    simp only at hz ⊢
    subst hz
    exact ⟨r1, r2⟩
end Go.Proofs.YtppgpdigopffbaaGreat
namespace Go.Proofs.YtppgpdigopffbaaGreat
open Go.Vc Go.Gw
def an_r01_Trim : An := { loop := [(2, ⟨[0], [], [(3, false, [.val (.int .i64)])], [], []⟩)] }
def sp_r01_Trim : Specs := []
def an_r01_Equal : An := { loop := [(4, ⟨[0, 1], [], [(5, false, [.val (.int .i64)])], [], []⟩)], plan := [(6, [3, 7], [], true, (.p 0 (.p 1 (.p 2 (.q 3 (.p 4 (.p 5 (.p 6 (.q 7 (.p 8 .done))))))))))] }
def sp_r01_Equal : Specs := []
def an_r01_FromUint64 : An := {}
def sp_r01_FromUint64 : Specs := [(99, s_r01_Trim)]
def vc_r01_Trim : dens s_r01_Trim.args → Prop := fun (x : List Int × Unit) => ∃ (I : Int × Unit → Prop), ∃ (μ : Int × Unit → Nat), I ((↑(List.length x.fst) : Int), ()) ∧ ∀ (p : Int × Unit), In64 p.fst ∧ True → I p → (decide ((0 : Int) < p.fst) = true → (0 : Int) ≤ IntKind.i64.wrap (p.fst - (1 : Int)) ∧ IntKind.i64.wrap (p.fst - (1 : Int)) < (↑(List.length x.fst) : Int)) ∧ (sel (decide ((0 : Int) < p.fst)) (decide (gx (0 : Int) x.fst (IntKind.i64.wrap (p.fst - (1 : Int))) = (0 : Int))) false = true → I (IntKind.i64.wrap (p.fst - (1 : Int)), ()) ∧ μ (IntKind.i64.wrap (p.fst - (1 : Int)), ()) < μ p) ∧ (sel (decide ((0 : Int) < p.fst)) (decide (gx (0 : Int) x.fst (IntKind.i64.wrap (p.fst - (1 : Int))) = (0 : Int))) false = false → ((0 : Int) ≤ (0 : Int) ∧ (0 : Int) ≤ p.fst ∧ p.fst ≤ (↑(List.length x.fst) : Int)) ∧ (((0 : Nat) + (List.drop (Int.toNat (0 : Int)) (List.take (Int.toNat p.fst) x.fst)).length) * (4 : Nat) ≤ (140737488355328 : Nat) ∧ (0 : Nat) + (List.drop (Int.toNat (0 : Int)) (List.take (Int.toNat p.fst) x.fst)).length ≤ 9223372036854775807) ∧ List.drop (Int.toNat (0 : Int)) (List.take (Int.toNat p.fst) x.fst) = nc (nv x.fst))
theorem vc_r01_Trim_eq (x : dens s_r01_Trim.args) : semF ⟨Tryz.prog, tys⟩ sp_r01_Trim an_r01_Trim s_r01_Trim Tryz.f99.results.toList (Tryz.f99.body.getD .skip) x = vc_r01_Trim x := by kernel_rfl
theorem m_r01_Trim (hsp : SpOk Tryz.prog sp_r01_Trim) (h : ∀ x, awf s_r01_Trim.args x → s_r01_Trim.pre x → vc_r01_Trim x) : Meets Tryz.prog 99 s_r01_Trim := meets_vc (cx := ⟨Tryz.prog, tys⟩) (sp := sp_r01_Trim) (an := an_r01_Trim) (s := s_r01_Trim) (fn := Tryz.f99) (c := Tryz.f99.body.getD .skip) Tryz.func99 (by kernel_rfl) (Nat.le_of_ble_eq_true (by kernel_rfl)) (by kernel_rfl) tys_ok hsp vc_r01_Trim_eq h
def vc_r01_Equal : dens s_r01_Equal.args → Prop := fun (x : List Int × List Int × Unit) => (decide ((↑(List.length x.fst) : Int) ≠ (↑(List.length x.snd.fst) : Int)) = true → false = decide (x.fst = x.snd.fst)) ∧ (decide ((↑(List.length x.fst) : Int) ≠ (↑(List.length x.snd.fst) : Int)) = false → ∃ (I : Int × Unit → Prop), ∃ (μ : Int × Unit → Nat), I ((0 : Int), ()) ∧ ∀ (p : Int × Unit), In64 p.fst ∧ True → I p → (decide (p.fst < (↑(List.length x.fst) : Int)) = true → ((0 : Int) ≤ p.fst ∧ p.fst < (↑(List.length x.fst) : Int)) ∧ ((0 : Int) ≤ p.fst ∧ p.fst < (↑(List.length x.snd.fst) : Int)) ∧ (decide (gx (0 : Int) x.fst p.fst ≠ gx (0 : Int) x.snd.fst p.fst) = true → false = decide (x.fst = x.snd.fst)) ∧ (decide (gx (0 : Int) x.fst p.fst ≠ gx (0 : Int) x.snd.fst p.fst) = false → I (IntKind.i64.wrap (p.fst + (1 : Int)), ()) ∧ μ (IntKind.i64.wrap (p.fst + (1 : Int)), ()) < μ p)) ∧ (decide (p.fst < (↑(List.length x.fst) : Int)) = false → true = decide (x.fst = x.snd.fst)))
theorem vc_r01_Equal_eq (x : dens s_r01_Equal.args) : semF ⟨Tryz.prog, tys⟩ sp_r01_Equal an_r01_Equal s_r01_Equal Tryz.f45.results.toList (Tryz.f45.body.getD .skip) x = vc_r01_Equal x := by kernel_rfl
theorem m_r01_Equal (hsp : SpOk Tryz.prog sp_r01_Equal) (h : ∀ x, awf s_r01_Equal.args x → s_r01_Equal.pre x → vc_r01_Equal x) : Meets Tryz.prog 45 s_r01_Equal := meets_vc (cx := ⟨Tryz.prog, tys⟩) (sp := sp_r01_Equal) (an := an_r01_Equal) (s := s_r01_Equal) (fn := Tryz.f45) (c := Tryz.f45.body.getD .skip) Tryz.func45 (by kernel_rfl) (Nat.le_of_ble_eq_true (by kernel_rfl)) (by kernel_rfl) tys_ok hsp vc_r01_Equal_eq h
def vc_r01_FromUint64 : dens s_r01_FromUint64.args → Prop := fun (x : Int × Unit) => (0 : (Ty.int IntKind.u64).den) ≤ (32 : Int) ∧ [IntKind.u32.wrap x.fst, IntKind.u32.wrap (Int.fdiv x.fst ((2 : Int) ^ Min.min (Int.toNat (32 : Int)) IntKind.u64.bits))].length ≤ (4000000000 : Nat) ∧ ∀ (r : List Int × Unit), WfU r.fst ∧ True → r.fst = nc (nv [IntKind.u32.wrap x.fst, IntKind.u32.wrap (Int.fdiv x.fst ((2 : Int) ^ Min.min (Int.toNat (32 : Int)) IntKind.u64.bits))]) → r.fst = nc x.fst.toNat
theorem vc_r01_FromUint64_eq (x : dens s_r01_FromUint64.args) : semF ⟨Tryz.prog, tys⟩ sp_r01_FromUint64 an_r01_FromUint64 s_r01_FromUint64 Tryz.f75.results.toList (Tryz.f75.body.getD .skip) x = vc_r01_FromUint64 x := by kernel_rfl
theorem m_r01_FromUint64 (hsp : SpOk Tryz.prog sp_r01_FromUint64) (h : ∀ x, awf s_r01_FromUint64.args x → s_r01_FromUint64.pre x → vc_r01_FromUint64 x) : Meets Tryz.prog 75 s_r01_FromUint64 := meets_vc (cx := ⟨Tryz.prog, tys⟩) (sp := sp_r01_FromUint64) (an := an_r01_FromUint64) (s := s_r01_FromUint64) (fn := Tryz.f75) (c := Tryz.f75.body.getD .skip) Tryz.func75 (by kernel_rfl) (Nat.le_of_ble_eq_true (by kernel_rfl)) (by kernel_rfl) tys_ok hsp vc_r01_FromUint64_eq h
end Go.Proofs.YtppgpdigopffbaaGreat
namespace Go.Proofs.YtppgpdigopffbaaGreat
open Go.Vc Go.Gw
theorem vc_r01_Trim_ok (x : dens s_r01_Trim.args) (hw : awf s_r01_Trim.args x) (hp : s_r01_Trim.pre x) : vc_r01_Trim x := by
  obtain ⟨l, _⟩ := x
  have hl : l.length ≤ 4000000000 := hp
  have hb : limbs l := limbs_of hw.1.2
  change List Int at l
  simp only [vc_r01_Trim]
  refine ⟨fun p => 0 ≤ p.1 ∧ p.1 ≤ (l.length : Int) ∧ ∀ i x, p.1.toNat ≤ i → l[i]? = some x → x = 0, fun p => p.1.toNat, ⟨Int.natCast_nonneg _, Int.le_refl _, fun i x hi hx => ?_⟩, ?_⟩
  · rw [List.getElem?_eq_none (by simpa using hi)] at hx; cases hx
  rintro ⟨n, _⟩ _ ⟨h0, h1, h2⟩
  change Int at n
  simp only at h0 h1 h2 ⊢
  refine ⟨fun h => ?_, fun h => ?_, fun h => ?_⟩
  · have h := of_decide_eq_true h
    rw [wr (by omega) (by omega)]
    exact ⟨by omega, by omega⟩
  · rw [sel_and] at h
    simp only [Bool.and_eq_true, decide_eq_true_eq] at h
    obtain ⟨h3, h4⟩ := h
    rw [wr (by omega) (by omega)] at h4 ⊢
    refine ⟨⟨by omega, by omega, fun i x hi hx => ?_⟩, by omega⟩
    by_cases he : i = (n - 1).toNat
    · subst he
      rw [gx_get (d := (0 : Int)) (by omega) (by omega)] at hx
      cases hx; exact h4
    · exact h2 i x (by omega) hx
  · refine ⟨⟨Int.le_refl _, h0, h1⟩, ?_⟩
    have e : (l.take n.toNat).drop (Int.toNat 0) = l.take n.toNat := rfl
    rw [e]
    have hlen : (l.take n.toNat).length ≤ l.length := by rw [List.length_take]; omega
    refine ⟨⟨by omega, by omega⟩, nc_take hb (by omega) h2 ?_⟩
    rw [sel_and] at h
    simp only [Bool.and_eq_false_iff, decide_eq_false_iff_not] at h
    rcases h with h | h
    · exact .inl (by omega)
    · by_cases hn : n = 0
      · exact .inl (by omega)
      · rw [wr (by omega) (by omega)] at h
        refine .inr ⟨gx 0 l (n - 1), ?_, h⟩
        have := gx_get (d := (0 : Int)) (l := l) (i := n - 1) (by omega) (by omega)
        rw [← this]; congr 1; omega
theorem vc_r01_Equal_ok (x : dens s_r01_Equal.args) (hw : awf s_r01_Equal.args x) (_ : s_r01_Equal.pre x) : vc_r01_Equal x := by
  obtain ⟨a, b, _⟩ := x
  have hl : a.length ≤ 9223372036854775807 := hw.1.1
  change List Int at a b
  simp only [vc_r01_Equal]
  refine ⟨fun h => ?_, fun h => ?_⟩
  · have h := of_decide_eq_true h
    exact (decide_eq_false fun e => h (by rw [e])).symm
  · have hlen : a.length = b.length := by have := of_decide_eq_false h; omega
    refine ⟨fun p => 0 ≤ p.1 ∧ p.1 ≤ (a.length : Int) ∧ a.take p.1.toNat = b.take p.1.toNat, fun p => ((a.length : Int) - p.1).toNat, ⟨Int.le_refl _, Int.natCast_nonneg _, by simp⟩, ?_⟩
    rintro ⟨i, _⟩ _ ⟨h0, h1, h2⟩
    change Int at i
    simp only at h0 h1 h2 ⊢
    refine ⟨fun h => ?_, fun h => ?_⟩
    · have h := of_decide_eq_true h
      refine ⟨⟨h0, h⟩, ⟨h0, by omega⟩, fun he => ?_, fun he => ?_⟩
      · have he := of_decide_eq_true he
        exact (decide_eq_false fun e => he (by rw [e])).symm
      · have he : gx 0 a i = gx 0 b i := by simpa using he
        rw [wr (by omega) (by omega)]
        refine ⟨⟨by omega, by omega, ?_⟩, by omega⟩
        rw [show (i + 1).toNat = i.toNat + 1 from by omega, List.take_add_one, List.take_add_one, gx_get (d := (0 : Int)) h0 h, gx_get (d := (0 : Int)) h0 (by omega), h2, he]
    · have h := of_decide_eq_false h
      rw [take_all (by omega), take_all (by omega)] at h2
      exact (decide_eq_true h2).symm
theorem vc_r01_FromUint64_ok (x : dens s_r01_FromUint64.args) (hw : awf s_r01_FromUint64.args x) (_ : s_r01_FromUint64.pre x) : vc_r01_FromUint64 x := by
  obtain ⟨v, _⟩ := x
  change Int at v
  have hv : IntKind.u64.min ≤ v ∧ v ≤ IntKind.u64.max := hw.1
  rw [u64_min, u64_max] at hv
  simp only [vc_r01_FromUint64]
  refine ⟨by decide, by simp, ?_⟩
  rintro ⟨r, _⟩ _ hr
  simp only at hr ⊢
  rw [hr]
  congr 1
  rw [show Min.min (Int.toNat 32) IntKind.u64.bits = 32 from rfl]
  simp only [nv, w32_mod]
  rw [Int.fdiv_eq_ediv_of_nonneg _ (by decide), show (2 : Int) ^ 32 = 4294967296 from rfl]
  omega
end Go.Proofs.YtppgpdigopffbaaGreat
namespace Go.Proofs.YtppgpdigopffbaaGreat
open Go.Vc Go.Gw
def an_r02_Make : An := {}
def sp_r02_Make : Specs := [(99, s_r01_Trim)]
def an_r02_Norm : An := {}
def sp_r02_Norm : Specs := [(74, s_r02_Make)]
def an_r02_Equal : An := {}
def sp_r02_Equal : Specs := [(45, s_r01_Equal)]
def an_r02_FromInt : An := {}
def sp_r02_FromInt : Specs := [(74, s_r02_Make), (75, s_r01_FromUint64)]
def an_r02_Sign : An := {}
def sp_r02_Sign : Specs := [(70, s_r02_Norm)]
def an_r02_Neg : An := {}
def sp_r02_Neg : Specs := [(74, s_r02_Make)]
def vc_r02_Make : dens s_r02_Make.args → Prop := fun (x : Bool × List Int × Unit) => List.length x.snd.fst ≤ (4000000000 : Nat) ∧ ∀ (r : List Int × Unit), WfU r.fst ∧ True → r.fst = nc (nv x.snd.fst) → (sel x.fst (decide ((0 : Int) < (↑(List.length r.fst) : Int))) false, r.fst) = ic (iv (x.fst, x.snd.fst))
theorem vc_r02_Make_eq (x : dens s_r02_Make.args) : semF ⟨Tryz.prog, tys⟩ sp_r02_Make an_r02_Make s_r02_Make Tryz.f74.results.toList (Tryz.f74.body.getD .skip) x = vc_r02_Make x := by kernel_rfl
theorem m_r02_Make (hsp : SpOk Tryz.prog sp_r02_Make) (h : ∀ x, awf s_r02_Make.args x → s_r02_Make.pre x → vc_r02_Make x) : Meets Tryz.prog 74 s_r02_Make := meets_vc (cx := ⟨Tryz.prog, tys⟩) (sp := sp_r02_Make) (an := an_r02_Make) (s := s_r02_Make) (fn := Tryz.f74) (c := Tryz.f74.body.getD .skip) Tryz.func74 (by kernel_rfl) (Nat.le_of_ble_eq_true (by kernel_rfl)) (by kernel_rfl) tys_ok hsp vc_r02_Make_eq h
def vc_r02_Norm : dens s_r02_Norm.args → Prop := fun (x : (Bool × List Int) × Unit) => sh1 x.fst.snd ∧ ∀ (r : (Bool × List Int) × Unit), WfZ r.fst ∧ True → r.fst = ic (iv x.fst) → r.fst = ic (iv x.fst)
theorem vc_r02_Norm_eq (x : dens s_r02_Norm.args) : semF ⟨Tryz.prog, tys⟩ sp_r02_Norm an_r02_Norm s_r02_Norm Tryz.f70.results.toList (Tryz.f70.body.getD .skip) x = vc_r02_Norm x := by kernel_rfl
theorem m_r02_Norm (hsp : SpOk Tryz.prog sp_r02_Norm) (h : ∀ x, awf s_r02_Norm.args x → s_r02_Norm.pre x → vc_r02_Norm x) : Meets Tryz.prog 70 s_r02_Norm := meets_vc (cx := ⟨Tryz.prog, tys⟩) (sp := sp_r02_Norm) (an := an_r02_Norm) (s := s_r02_Norm) (fn := Tryz.f70) (c := Tryz.f70.body.getD .skip) Tryz.func70 (by kernel_rfl) (Nat.le_of_ble_eq_true (by kernel_rfl)) (by kernel_rfl) tys_ok hsp vc_r02_Norm_eq h
def vc_r02_Equal : dens s_r02_Equal.args → Prop := fun (x : (Bool × List Int) × (Bool × List Int) × Unit) => ((x.fst.fst == x.snd.fst.fst) = true → True) ∧ ∀ (r : Bool × Unit), ((x.fst.fst == x.snd.fst.fst) = true → (True ∧ True) ∧ r.fst = decide (x.fst.snd = x.snd.fst.snd)) → sel (x.fst.fst == x.snd.fst.fst) r.fst false = decide (x.fst = x.snd.fst)
theorem vc_r02_Equal_eq (x : dens s_r02_Equal.args) : semF ⟨Tryz.prog, tys⟩ sp_r02_Equal an_r02_Equal s_r02_Equal Tryz.f44.results.toList (Tryz.f44.body.getD .skip) x = vc_r02_Equal x := by kernel_rfl
theorem m_r02_Equal (hsp : SpOk Tryz.prog sp_r02_Equal) (h : ∀ x, awf s_r02_Equal.args x → s_r02_Equal.pre x → vc_r02_Equal x) : Meets Tryz.prog 44 s_r02_Equal := meets_vc (cx := ⟨Tryz.prog, tys⟩) (sp := sp_r02_Equal) (an := an_r02_Equal) (s := s_r02_Equal) (fn := Tryz.f44) (c := Tryz.f44.body.getD .skip) Tryz.func44 (by kernel_rfl) (Nat.le_of_ble_eq_true (by kernel_rfl)) (by kernel_rfl) tys_ok hsp vc_r02_Equal_eq h
def vc_r02_FromInt : dens s_r02_FromInt.args → Prop := fun (x : Int × Unit) => (decide (x.fst < (0 : Int)) = true → True ∧ ∀ (r : List Int × Unit), WfU r.fst ∧ True → r.fst = nc (IntKind.u64.wrap (IntKind.u64.wrap (IntKind.i64.wrap (-IntKind.i64.wrap (x.fst + (1 : Int)))) + (1 : Int))).toNat → sh1 r.fst ∧ ∀ (r_1 : (Bool × List Int) × Unit), WfZ r_1.fst ∧ True → r_1.fst = ic (iv (true, r.fst)) → r_1.fst = ic x.fst) ∧ (decide (x.fst < (0 : Int)) = false → True ∧ ∀ (r : List Int × Unit), WfU r.fst ∧ True → r.fst = nc (IntKind.u64.wrap x.fst).toNat → sh1 r.fst ∧ ∀ (r_1 : (Bool × List Int) × Unit), WfZ r_1.fst ∧ True → r_1.fst = ic (iv (false, r.fst)) → r_1.fst = ic x.fst)
theorem vc_r02_FromInt_eq (x : dens s_r02_FromInt.args) : semF ⟨Tryz.prog, tys⟩ sp_r02_FromInt an_r02_FromInt s_r02_FromInt Tryz.f47.results.toList (Tryz.f47.body.getD .skip) x = vc_r02_FromInt x := by kernel_rfl
theorem m_r02_FromInt (hsp : SpOk Tryz.prog sp_r02_FromInt) (h : ∀ x, awf s_r02_FromInt.args x → s_r02_FromInt.pre x → vc_r02_FromInt x) : Meets Tryz.prog 47 s_r02_FromInt := meets_vc (cx := ⟨Tryz.prog, tys⟩) (sp := sp_r02_FromInt) (an := an_r02_FromInt) (s := s_r02_FromInt) (fn := Tryz.f47) (c := Tryz.f47.body.getD .skip) Tryz.func47 (by kernel_rfl) (Nat.le_of_ble_eq_true (by kernel_rfl)) (by kernel_rfl) tys_ok hsp vc_r02_FromInt_eq h
def vc_r02_Sign : dens s_r02_Sign.args → Prop := fun (x : (Bool × List Int) × Unit) => sh1 x.fst.snd ∧ ∀ (r : (Bool × List Int) × Unit), WfZ r.fst ∧ True → r.fst = ic (iv x.fst) → (r.fst.fst = true → (-1 : Int) = (iv x.fst).sign) ∧ (r.fst.fst = false → (decide ((↑(List.length r.fst.snd) : Int) = (0 : Int)) = true → (0 : Int) = (iv x.fst).sign) ∧ (decide ((↑(List.length r.fst.snd) : Int) = (0 : Int)) = false → (1 : Int) = (iv x.fst).sign))
theorem vc_r02_Sign_eq (x : dens s_r02_Sign.args) : semF ⟨Tryz.prog, tys⟩ sp_r02_Sign an_r02_Sign s_r02_Sign Tryz.f53.results.toList (Tryz.f53.body.getD .skip) x = vc_r02_Sign x := by kernel_rfl
theorem m_r02_Sign (hsp : SpOk Tryz.prog sp_r02_Sign) (h : ∀ x, awf s_r02_Sign.args x → s_r02_Sign.pre x → vc_r02_Sign x) : Meets Tryz.prog 53 s_r02_Sign := meets_vc (cx := ⟨Tryz.prog, tys⟩) (sp := sp_r02_Sign) (an := an_r02_Sign) (s := s_r02_Sign) (fn := Tryz.f53) (c := Tryz.f53.body.getD .skip) Tryz.func53 (by kernel_rfl) (Nat.le_of_ble_eq_true (by kernel_rfl)) (by kernel_rfl) tys_ok hsp vc_r02_Sign_eq h
def vc_r02_Neg : dens s_r02_Neg.args → Prop := fun (x : (Bool × List Int) × Unit) => sh1 x.fst.snd ∧ ∀ (r : (Bool × List Int) × Unit), WfZ r.fst ∧ True → r.fst = ic (iv (!x.fst.fst, x.fst.snd)) → r.fst = ic (-iv x.fst)
theorem vc_r02_Neg_eq (x : dens s_r02_Neg.args) : semF ⟨Tryz.prog, tys⟩ sp_r02_Neg an_r02_Neg s_r02_Neg Tryz.f73.results.toList (Tryz.f73.body.getD .skip) x = vc_r02_Neg x := by kernel_rfl
theorem m_r02_Neg (hsp : SpOk Tryz.prog sp_r02_Neg) (h : ∀ x, awf s_r02_Neg.args x → s_r02_Neg.pre x → vc_r02_Neg x) : Meets Tryz.prog 73 s_r02_Neg := meets_vc (cx := ⟨Tryz.prog, tys⟩) (sp := sp_r02_Neg) (an := an_r02_Neg) (s := s_r02_Neg) (fn := Tryz.f73) (c := Tryz.f73.body.getD .skip) Tryz.func73 (by kernel_rfl) (Nat.le_of_ble_eq_true (by kernel_rfl)) (by kernel_rfl) tys_ok hsp vc_r02_Neg_eq h
end Go.Proofs.YtppgpdigopffbaaGreat
namespace Go.Proofs.YtppgpdigopffbaaGreat
open Go.Vc Go.Gw
theorem vc_r02_Make_ok (x : dens s_r02_Make.args) (hw : awf s_r02_Make.args x) (hp : s_r02_Make.pre x) : vc_r02_Make x := by
  obtain ⟨b, l, _⟩ := x
  change Bool at b
  change List Int at l
  have hl : l.length ≤ 1000000000 := hp
  simp only [vc_r02_Make]
  refine ⟨by omega, ?_⟩
  rintro ⟨r, _⟩ _ hr
  simp only at hr ⊢
  rw [ic_iv, hr, sel_and]
  have e : decide ((0 : Int) < ((nc (nv l)).length : Int)) = decide (nv l ≠ 0) := by
    rw [decide_eq_decide]
    constructor
    · intro h h0; rw [h0, nc_zero] at h; simp at h
    · intro h
      have : (nc (nv l)).length ≠ 0 := fun h1 => h (nc_nil.1 (List.eq_nil_of_length_eq_zero h1))
      omega
  rw [e]
theorem vc_r02_Norm_ok (x : dens s_r02_Norm.args) (hw : awf s_r02_Norm.args x) (hp : s_r02_Norm.pre x) : vc_r02_Norm x := by
  simp only [vc_r02_Norm]
  exact ⟨hp, fun r _ h => h⟩
theorem vc_r02_Equal_ok (x : dens s_r02_Equal.args) (hw : awf s_r02_Equal.args x) (hp : s_r02_Equal.pre x) : vc_r02_Equal x := by
  obtain ⟨⟨a, l⟩, ⟨b, m⟩, _⟩ := x
  change Bool at a b
  change List Int at l m
  simp only [vc_r02_Equal]
  refine ⟨fun _ => trivial, ?_⟩
  rintro ⟨r, _⟩ hr
  simp only at hr ⊢
  by_cases h : a = b
  · subst h
    have := (hr (by simp)).2
    rw [this]
    simp [sel]
  · have : (a == b) = false := by simpa using h
    rw [this]
    simp [sel, h]
theorem vc_r02_FromInt_ok (x : dens s_r02_FromInt.args) (hw : awf s_r02_FromInt.args x) (_ : s_r02_FromInt.pre x) : vc_r02_FromInt x := by
  obtain ⟨v, _⟩ := x
  change Int at v
  have hv : IntKind.i64.min ≤ v ∧ v ≤ IntKind.i64.max := hw.1
  rw [i64_min, i64_max] at hv
  have hs : ∀ n : Nat, n ≤ 9223372036854775808 → sh1 (nc n) := fun n hn => by
    have : (nc n).length ≤ 2 := nc_len (by omega)
    unfold sh1; omega
  simp only [vc_r02_FromInt]
  refine ⟨fun h => ⟨trivial, ?_⟩, fun h => ⟨trivial, ?_⟩⟩
  · have h := of_decide_eq_true h
    rintro ⟨r, _⟩ _ hr
    simp only at hr ⊢
    have e : (IntKind.u64.wrap (IntKind.u64.wrap (IntKind.i64.wrap (-IntKind.i64.wrap (v + 1))) + 1)).toNat = v.natAbs := by
      rw [wr (a := v + 1) (by omega) (by omega), wr (by omega) (by omega), w64 (a := -(v + 1)) (by omega) (by omega), w64 (by omega) (by omega)]; omega
    rw [e] at hr
    subst hr
    refine ⟨hs _ (by omega), ?_⟩
    rintro ⟨s, _⟩ _ hs
    simp only at hs ⊢
    rw [hs, iv_neg, nv_nc]
    congr 1; omega
  · have h := of_decide_eq_false h
    rintro ⟨r, _⟩ _ hr
    simp only at hr ⊢
    have e : (IntKind.u64.wrap v).toNat = v.natAbs := by rw [w64_mod]; omega
    rw [e] at hr
    subst hr
    refine ⟨hs _ (by omega), ?_⟩
    rintro ⟨s, _⟩ _ hs
    simp only at hs ⊢
    rw [hs, iv_pos, nv_nc]
    congr 1; omega
theorem vc_r02_Sign_ok (x : dens s_r02_Sign.args) (hw : awf s_r02_Sign.args x) (hp : s_r02_Sign.pre x) : vc_r02_Sign x := by
  obtain ⟨a, _⟩ := x
  simp only [vc_r02_Sign]
  refine ⟨hp, ?_⟩
  rintro ⟨r, _⟩ _ hr
  simp only at hr ⊢
  subst hr
  generalize iv a = v
  refine ⟨fun h => ?_, fun h => ⟨fun h2 => ?_, fun h2 => ?_⟩⟩
  · have h : v < 0 := of_decide_eq_true h
    exact (Int.sign_eq_neg_one_of_neg h).symm
  · have h2 := of_decide_eq_true h2
    have : nc v.natAbs = [] := List.eq_nil_of_length_eq_zero (by show (ic v).2.length = 0; omega)
    rw [nc_nil] at this
    rw [show v = 0 from by omega]; rfl
  · have h : ¬ v < 0 := of_decide_eq_false h
    have h2 := of_decide_eq_false h2
    have : v ≠ 0 := fun h0 => h2 (by rw [h0, ic_zero]; rfl)
    exact (Int.sign_eq_one_of_pos (by omega)).symm
theorem vc_r02_Neg_ok (x : dens s_r02_Neg.args) (hw : awf s_r02_Neg.args x) (hp : s_r02_Neg.pre x) : vc_r02_Neg x := by
  obtain ⟨⟨b, l⟩, _⟩ := x
  simp only [vc_r02_Neg]
  refine ⟨hp, ?_⟩
  rintro ⟨r, _⟩ _ hr
  simp only at hr ⊢
  rw [hr, iv_not]
end Go.Proofs.YtppgpdigopffbaaGreat
namespace Go.Proofs.YtppgpdigopffbaaGreat
open Go.Vc Go.Gw
def an_r03_Make : An := { join := [(11, ⟨[4, 7, 10], [2], [], [(5, 42, [.val .bool, .val (.sl (.int .u32))]), (7, 42, [.val .bool, .val (.sl (.int .u32))])], []⟩)], plan := [(5, [0, 3], [5], true, (.q 0 (.p 2 (.q 3 (.e 1 (.p 4 (.e 5 .done))))))), (10, [0, 2], [4, 5], true, (.q 0 (.q 2 (.e 1 (.e 3 (.e 4 (.e 5 .done)))))))] }
def sp_r03_Make : Specs := [(21, s_r03_Zero), (45, s_r01_Equal), (53, s_r02_Sign), (70, s_r02_Norm), (71, s_r02_GCD), (72, s_r02_DivMod), (73, s_r02_Neg)]
def an_r03_Zero : An := {}
def sp_r03_Zero : Specs := []
def an_r03_Norm : An := {}
def sp_r03_Norm : Specs := [(46, s_r03_Make)]
def an_r03_Equal : An := {}
def sp_r03_Equal : Specs := [(44, s_r02_Equal), (45, s_r01_Equal)]
def an_r03_Canonical : An := { plan := [(1, [0, 1], [], true, (.q 0 (.q 1 (.e 2 (.e 3 (.p 4 .done))))))] }
def sp_r03_Canonical : Specs := [(16, s_r03_Equal), (48, s_r03_Norm)]
def an_r03_FromInt : An := {}
def sp_r03_FromInt : Specs := [(46, s_r03_Make), (47, s_r02_FromInt)]
def vc_r03_Make : dens s_r03_Make.args → Prop := fun (x : (Bool × List Int) × (Bool × List Int) × Unit) => sh1 x.snd.fst.snd ∧ ∀ (r : Int × Unit), In64 r.fst ∧ True → r.fst = (iv x.snd.fst).sign → (decide (r.fst = (0 : Int)) = true → True ∧ ∀ (r : QQ × Unit), WfQ r.fst ∧ True → r.fst = rc (0 : Rat) → r.fst = rc (divI x.fst x.snd.fst)) ∧ (decide (r.fst = (0 : Int)) = false → sh1 x.snd.fst.snd ∧ ∀ (r : (Bool × List Int) × Unit), WfZ r.fst ∧ True → r.fst = ic (iv x.snd.fst) → ((!r.fst.fst) = true → True) ∧ ∀ (r_1 : Bool × Unit), ((!r.fst.fst) = true → (True ∧ True) ∧ r_1.fst = decide (r.fst.snd = [(1 : Int)])) → (sel (!r.fst.fst) r_1.fst false = true → sh1 x.fst.snd ∧ ∀ (r_2 : (Bool × List Int) × Unit), WfZ r_2.fst ∧ True → r_2.fst = ic (iv x.fst) → (r_2.fst, r.fst.snd) = rc (divI x.fst x.snd.fst)) ∧ (sel (!r.fst.fst) r_1.fst false = false → False ∧ ∀ (r : (Bool × List Int) × Unit), WfZ r.fst ∧ True → True → False ∧ ∀ (r : (Bool × List Int) × (Bool × List Int) × Bool × Unit), WfZ r.fst ∧ WfZ r.snd.fst ∧ True ∧ True → True → False ∧ ∀ (r_2 : (Bool × List Int) × (Bool × List Int) × Bool × Unit), WfZ r_2.fst ∧ WfZ r_2.snd.fst ∧ True ∧ True → True → ∃ (J : Bool × List Int × Bool × List Int × Unit → Prop), ((r_2.fst.fst = true → sh1 r.fst.snd ∧ ∀ (r_3 : (Bool × List Int) × Unit), WfZ r_3.fst ∧ True → r_3.fst = ic (-iv r.fst) → sh1 r_2.fst.snd ∧ ∀ (r : (Bool × List Int) × Unit), WfZ r.fst ∧ True → r.fst = ic (-iv r_2.fst) → J (r_3.fst.fst, r_3.fst.snd, r.fst.fst, r.fst.snd, ())) ∧ (r_2.fst.fst = false → J (r.fst.fst, r.fst.snd, r_2.fst.fst, r_2.fst.snd, ()))) ∧ ∀ (p : Bool × List Int × Bool × List Int × Unit), True ∧ WfU p.snd.fst ∧ True ∧ WfU p.snd.snd.snd.fst ∧ True → J p → ((p.fst, p.snd.fst), p.snd.snd.snd.fst) = rc (divI x.fst x.snd.fst)))
theorem vc_r03_Make_eq (x : dens s_r03_Make.args) : semF ⟨Tryz.prog, tys⟩ sp_r03_Make an_r03_Make s_r03_Make Tryz.f46.results.toList (Tryz.f46.body.getD .skip) x = vc_r03_Make x := by kernel_rfl
theorem m_r03_Make (hsp : SpOk Tryz.prog sp_r03_Make) (h : ∀ x, awf s_r03_Make.args x → s_r03_Make.pre x → vc_r03_Make x) : Meets Tryz.prog 46 s_r03_Make := meets_vc (cx := ⟨Tryz.prog, tys⟩) (sp := sp_r03_Make) (an := an_r03_Make) (s := s_r03_Make) (fn := Tryz.f46) (c := Tryz.f46.body.getD .skip) Tryz.func46 (by kernel_rfl) (Nat.le_of_ble_eq_true (by kernel_rfl)) (by kernel_rfl) tys_ok hsp vc_r03_Make_eq h
def vc_r03_Zero : dens s_r03_Zero.args → Prop := fun (x : Unit) => ((false, []), [(1 : Int)]) = rc (0 : Rat)
theorem vc_r03_Zero_eq (x : dens s_r03_Zero.args) : semF ⟨Tryz.prog, tys⟩ sp_r03_Zero an_r03_Zero s_r03_Zero Tryz.f21.results.toList (Tryz.f21.body.getD .skip) x = vc_r03_Zero x := by kernel_rfl
theorem m_r03_Zero (hsp : SpOk Tryz.prog sp_r03_Zero) (h : ∀ x, awf s_r03_Zero.args x → s_r03_Zero.pre x → vc_r03_Zero x) : Meets Tryz.prog 21 s_r03_Zero := meets_vc (cx := ⟨Tryz.prog, tys⟩) (sp := sp_r03_Zero) (an := an_r03_Zero) (s := s_r03_Zero) (fn := Tryz.f21) (c := Tryz.f21.body.getD .skip) Tryz.func21 (by kernel_rfl) (Nat.le_of_ble_eq_true (by kernel_rfl)) (by kernel_rfl) tys_ok hsp vc_r03_Zero_eq h
def vc_r03_Norm : dens s_r03_Norm.args → Prop := fun (x : QQ × Unit) => ((iv (false, x.fst.snd) = (0 : Int) ∨ iv (false, x.fst.snd) = (1 : Int)) ∧ sh2 x.fst.fst.snd ∧ sh2 x.fst.snd) ∧ ∀ (r : QQ × Unit), WfQ r.fst ∧ True → r.fst = rc (divI x.fst.fst (false, x.fst.snd)) → r.fst = rc (rv x.fst)
theorem vc_r03_Norm_eq (x : dens s_r03_Norm.args) : semF ⟨Tryz.prog, tys⟩ sp_r03_Norm an_r03_Norm s_r03_Norm Tryz.f48.results.toList (Tryz.f48.body.getD .skip) x = vc_r03_Norm x := by kernel_rfl
theorem m_r03_Norm (hsp : SpOk Tryz.prog sp_r03_Norm) (h : ∀ x, awf s_r03_Norm.args x → s_r03_Norm.pre x → vc_r03_Norm x) : Meets Tryz.prog 48 s_r03_Norm := meets_vc (cx := ⟨Tryz.prog, tys⟩) (sp := sp_r03_Norm) (an := an_r03_Norm) (s := s_r03_Norm) (fn := Tryz.f48) (c := Tryz.f48.body.getD .skip) Tryz.func48 (by kernel_rfl) (Nat.le_of_ble_eq_true (by kernel_rfl)) (by kernel_rfl) tys_ok hsp vc_r03_Norm_eq h
def vc_r03_Equal : dens s_r03_Equal.args → Prop := fun (x : QQ × QQ × Unit) => True ∧ ∀ (r : Bool × Unit), True ∧ True → r.fst = decide (x.fst.fst = x.snd.fst.fst) → (r.fst = true → True) ∧ ∀ (r_1 : Bool × Unit), (r.fst = true → (True ∧ True) ∧ r_1.fst = decide (x.fst.snd = x.snd.fst.snd)) → sel r.fst r_1.fst false = decide (x.fst = x.snd.fst)
theorem vc_r03_Equal_eq (x : dens s_r03_Equal.args) : semF ⟨Tryz.prog, tys⟩ sp_r03_Equal an_r03_Equal s_r03_Equal Tryz.f16.results.toList (Tryz.f16.body.getD .skip) x = vc_r03_Equal x := by kernel_rfl
theorem m_r03_Equal (hsp : SpOk Tryz.prog sp_r03_Equal) (h : ∀ x, awf s_r03_Equal.args x → s_r03_Equal.pre x → vc_r03_Equal x) : Meets Tryz.prog 16 s_r03_Equal := meets_vc (cx := ⟨Tryz.prog, tys⟩) (sp := sp_r03_Equal) (an := an_r03_Equal) (s := s_r03_Equal) (fn := Tryz.f16) (c := Tryz.f16.body.getD .skip) Tryz.func16 (by kernel_rfl) (Nat.le_of_ble_eq_true (by kernel_rfl)) (by kernel_rfl) tys_ok hsp vc_r03_Equal_eq h
def vc_r03_Canonical : dens s_r03_Canonical.args → Prop := fun (x : QQ × Unit) => whole x.fst ∧ ∀ (r : QQ × Unit), WfQ r.fst ∧ True → r.fst = rc (rv x.fst) → True ∧ ∀ (r_1 : Bool × Unit), True ∧ True → r_1.fst = decide (x.fst = r.fst) → r_1.fst = decide (x.fst = rc (rv x.fst))
theorem vc_r03_Canonical_eq (x : dens s_r03_Canonical.args) : semF ⟨Tryz.prog, tys⟩ sp_r03_Canonical an_r03_Canonical s_r03_Canonical Tryz.f61.results.toList (Tryz.f61.body.getD .skip) x = vc_r03_Canonical x := by kernel_rfl
theorem m_r03_Canonical (hsp : SpOk Tryz.prog sp_r03_Canonical) (h : ∀ x, awf s_r03_Canonical.args x → s_r03_Canonical.pre x → vc_r03_Canonical x) : Meets Tryz.prog 61 s_r03_Canonical := meets_vc (cx := ⟨Tryz.prog, tys⟩) (sp := sp_r03_Canonical) (an := an_r03_Canonical) (s := s_r03_Canonical) (fn := Tryz.f61) (c := Tryz.f61.body.getD .skip) Tryz.func61 (by kernel_rfl) (Nat.le_of_ble_eq_true (by kernel_rfl)) (by kernel_rfl) tys_ok hsp vc_r03_Canonical_eq h
def vc_r03_FromInt : dens s_r03_FromInt.args → Prop := fun (x : Int × Unit) => True ∧ ∀ (r : (Bool × List Int) × Unit), WfZ r.fst ∧ True → r.fst = ic x.fst → True ∧ ∀ (r_1 : (Bool × List Int) × Unit), WfZ r_1.fst ∧ True → r_1.fst = ic (1 : Int) → ((iv r_1.fst = (0 : Int) ∨ iv r_1.fst = (1 : Int)) ∧ sh2 r.fst.snd ∧ sh2 r_1.fst.snd) ∧ ∀ (r_2 : QQ × Unit), WfQ r_2.fst ∧ True → r_2.fst = rc (divI r.fst r_1.fst) → r_2.fst = ri x.fst
theorem vc_r03_FromInt_eq (x : dens s_r03_FromInt.args) : semF ⟨Tryz.prog, tys⟩ sp_r03_FromInt an_r03_FromInt s_r03_FromInt Tryz.f18.results.toList (Tryz.f18.body.getD .skip) x = vc_r03_FromInt x := by kernel_rfl
theorem m_r03_FromInt (hsp : SpOk Tryz.prog sp_r03_FromInt) (h : ∀ x, awf s_r03_FromInt.args x → s_r03_FromInt.pre x → vc_r03_FromInt x) : Meets Tryz.prog 18 s_r03_FromInt := meets_vc (cx := ⟨Tryz.prog, tys⟩) (sp := sp_r03_FromInt) (an := an_r03_FromInt) (s := s_r03_FromInt) (fn := Tryz.f18) (c := Tryz.f18.body.getD .skip) Tryz.func18 (by kernel_rfl) (Nat.le_of_ble_eq_true (by kernel_rfl)) (by kernel_rfl) tys_ok hsp vc_r03_FromInt_eq h
end Go.Proofs.YtppgpdigopffbaaGreat
namespace Go.Proofs.YtppgpdigopffbaaGreat
open Go.Vc Go.Gw
theorem vc_r03_Make_ok (x : dens s_r03_Make.args) (hw : awf s_r03_Make.args x) (hp : s_r03_Make.pre x) : vc_r03_Make x := by
  obtain ⟨a, b, _⟩ := x
  obtain ⟨h01, p1, p2⟩ : (iv b = 0 ∨ iv b = 1) ∧ a.2.length ≤ 100000000 ∧ b.2.length ≤ 100000000 := hp
  have q1 : sh1 a.2 := by unfold sh1; omega
  have q2 : sh1 b.2 := by unfold sh1; omega
  simp only [vc_r03_Make]
  refine ⟨q2, ?_⟩
  rintro ⟨r, _⟩ _ hr
  simp only at hr ⊢
  refine ⟨fun h => ⟨trivial, ?_⟩, fun h => ⟨q2, ?_⟩⟩
  · have h := of_decide_eq_true h
    rw [hr, Int.sign_eq_zero_iff_zero] at h
    rintro ⟨s, _⟩ _ hs
    simp only at hs ⊢
    rw [hs, divI_zero h]
  · have h := of_decide_eq_false h
    have h1 : iv b = 1 := by
      rcases h01 with h0 | h0
      · rw [h0] at hr; exact absurd hr h
      · exact h0
    rintro ⟨s, _⟩ _ hs
    simp only at hs ⊢
    rw [h1, ic_one] at hs
    subst hs
    refine ⟨fun _ => trivial, ?_⟩
    rintro ⟨t, _⟩ ht
    have ht := (ht rfl).2
    simp only at ht
    have ht : t = true := by rw [ht]; simp
    refine ⟨fun _ => ⟨q1, ?_⟩, fun h => ?_⟩
    · rintro ⟨u, _⟩ _ hu
      simp only at hu ⊢
      rw [hu, divI_one h1, rc_int]; rfl
    · simp only [ht, sel] at h
      cases h
theorem vc_r03_Zero_ok (x : dens s_r03_Zero.args) (hw : awf s_r03_Zero.args x) (_ : s_r03_Zero.pre x) : vc_r03_Zero x := by
  simp only [vc_r03_Zero]
  exact rc_zero.symm
theorem vc_r03_Norm_ok (x : dens s_r03_Norm.args) (hw : awf s_r03_Norm.args x) (hp : s_r03_Norm.pre x) : vc_r03_Norm x := by
  obtain ⟨a, _⟩ := x
  obtain ⟨⟨p1, p2⟩, p3⟩ : (a.1.2.length ≤ 1000000 ∧ a.2.length ≤ 1000000) ∧ nv a.2 ≤ 1 := hp
  simp only [vc_r03_Norm]
  refine ⟨⟨?_, by unfold sh2; omega, by unfold sh2; omega⟩, ?_⟩
  · rw [iv_pos]; omega
  · rintro ⟨r, _⟩ _ hr
    simp only at hr ⊢
    rw [hr, rv_divI]
theorem vc_r03_Equal_ok (x : dens s_r03_Equal.args) (hw : awf s_r03_Equal.args x) (hp : s_r03_Equal.pre x) : vc_r03_Equal x := by
  obtain ⟨⟨a, l⟩, ⟨b, m⟩, _⟩ := x
  simp only [vc_r03_Equal]
  refine ⟨trivial, ?_⟩
  rintro ⟨r, _⟩ _ hr
  refine ⟨fun _ => trivial, ?_⟩
  rintro ⟨s, _⟩ hs
  simp only at hr hs ⊢
  by_cases h : a = b
  · subst h
    have hr : r = true := by rw [hr]; simp
    have := (hs hr).2
    rw [this, hr]
    simp [sel]
  · have hr : r = false := by rw [hr]; simp [h]
    rw [hr]
    simp [sel, h]
theorem vc_r03_Canonical_ok (x : dens s_r03_Canonical.args) (hw : awf s_r03_Canonical.args x) (hp : s_r03_Canonical.pre x) : vc_r03_Canonical x := by
  obtain ⟨a, _⟩ := x
  simp only [vc_r03_Canonical]
  refine ⟨hp, ?_⟩
  rintro ⟨r, _⟩ _ hr
  refine ⟨trivial, ?_⟩
  rintro ⟨s, _⟩ _ hs
  simp only at hr hs ⊢
  rw [hs, hr]
theorem vc_r03_FromInt_ok (x : dens s_r03_FromInt.args) (hw : awf s_r03_FromInt.args x) (_ : s_r03_FromInt.pre x) : vc_r03_FromInt x := by
  obtain ⟨v, _⟩ := x
  change Int at v
  have hv : IntKind.i64.min ≤ v ∧ v ≤ IntKind.i64.max := hw.1
  rw [i64_min, i64_max] at hv
  simp only [vc_r03_FromInt]
  refine ⟨trivial, ?_⟩
  rintro ⟨r, _⟩ _ hr
  refine ⟨trivial, ?_⟩
  rintro ⟨s, _⟩ _ hs
  simp only at hr hs ⊢
  subst hr hs
  have h2 : (ic v).2.length ≤ 2 := by rw [ic_len]; exact nc_len (by omega)
  refine ⟨⟨.inr (iv_ic 1), by unfold sh2; omega, by rw [ic_one]; show 1 ≤ _; decide⟩, ?_⟩
  rintro ⟨t, _⟩ _ ht
  simp only at ht ⊢
  rw [ht, divI_one (iv_ic 1), iv_ic, rc_int]
end Go.Proofs.YtppgpdigopffbaaGreat
namespace Go.Proofs.YtppgpdigopffbaaGreat
open Go.Vc Go.Gw
def an_r06_Identical : An := { loop := [(4, ⟨[0, 1], [], [(5, false, [.val (.int .i64)])], [], []⟩)], plan := [(6, [4, 9, 16, 25, 30], [], false, (.p 0 (.p 1 (.p 2 (.p 3 (.q 4 (.p 5 (.p 6 (.p 7 (.p 8 (.q 9 (.p 10 (.p 11 (.p 12 (.p 13 (.p 14 (.p 15 (.q 16 (.e 17 (.p 18 (.p 19 (.p 20 (.p 21 (.p 22 (.p 23 (.p 24 (.q 25 (.p 26 (.p 27 (.p 28 (.p 29 (.q 30 (.e 31 (.p 32 (.p 33 .done)))))))))))))))))))))))))))))))))))] }
def sp_r06_Identical : Specs := [(16, s_r03_Equal), (61, s_r03_Canonical)]
def vc_r06_Identical : dens s_r06_Identical.args → Prop := fun (x : List EE × List EE × Unit) => (decide ((↑(List.length x.fst) : Int) ≠ (↑(List.length x.snd.fst) : Int)) = true → false = decide (x.fst = x.snd.fst ∧ ∀ (e : Int × (Bool × List Int) × List Int), e ∈ x.fst → e.snd = rc (rv e.snd))) ∧ (decide ((↑(List.length x.fst) : Int) ≠ (↑(List.length x.snd.fst) : Int)) = false → ∃ (I : Int × Unit → Prop), ∃ (μ : Int × Unit → Nat), I ((0 : Int), ()) ∧ ∀ (p : Int × Unit), In64 p.fst ∧ True → I p → (decide (p.fst < (↑(List.length x.fst) : Int)) = true → ((0 : Int) ≤ p.fst ∧ p.fst < (↑(List.length x.fst) : Int)) ∧ ((0 : Int) ≤ p.fst ∧ p.fst < (↑(List.length x.snd.fst) : Int)) ∧ (decide ((gx dEE x.fst p.fst).fst ≠ (gx dEE x.snd.fst p.fst).fst) = false → (0 : Int) ≤ p.fst ∧ p.fst < (↑(List.length x.fst) : Int)) ∧ (decide ((gx dEE x.fst p.fst).fst ≠ (gx dEE x.snd.fst p.fst).fst) = false → whole (gx dEE x.fst p.fst).snd) ∧ ∀ (r : Bool × Unit), (decide ((gx dEE x.fst p.fst).fst ≠ (gx dEE x.snd.fst p.fst).fst) = false → (True ∧ True) ∧ r.fst = decide ((gx dEE x.fst p.fst).snd = rc (rv (gx dEE x.fst p.fst).snd))) → ((sel (decide ((gx dEE x.fst p.fst).fst ≠ (gx dEE x.snd.fst p.fst).fst)) true !r.fst) = false → (0 : Int) ≤ p.fst ∧ p.fst < (↑(List.length x.fst) : Int)) ∧ ((sel (decide ((gx dEE x.fst p.fst).fst ≠ (gx dEE x.snd.fst p.fst).fst)) true !r.fst) = false → (0 : Int) ≤ p.fst ∧ p.fst < (↑(List.length x.snd.fst) : Int)) ∧ ((sel (decide ((gx dEE x.fst p.fst).fst ≠ (gx dEE x.snd.fst p.fst).fst)) true !r.fst) = false → True) ∧ ∀ (r_1 : Bool × Unit), ((sel (decide ((gx dEE x.fst p.fst).fst ≠ (gx dEE x.snd.fst p.fst).fst)) true !r.fst) = false → (True ∧ True) ∧ r_1.fst = decide ((gx dEE x.fst p.fst).snd = (gx dEE x.snd.fst p.fst).snd)) → ((sel (sel (decide ((gx dEE x.fst p.fst).fst ≠ (gx dEE x.snd.fst p.fst).fst)) true !r.fst) true !r_1.fst) = true → false = decide (x.fst = x.snd.fst ∧ ∀ (e : Int × (Bool × List Int) × List Int), e ∈ x.fst → e.snd = rc (rv e.snd))) ∧ ((sel (sel (decide ((gx dEE x.fst p.fst).fst ≠ (gx dEE x.snd.fst p.fst).fst)) true !r.fst) true !r_1.fst) = false → I (IntKind.i64.wrap (p.fst + (1 : Int)), ()) ∧ μ (IntKind.i64.wrap (p.fst + (1 : Int)), ()) < μ p)) ∧ (decide (p.fst < (↑(List.length x.fst) : Int)) = false → true = decide (x.fst = x.snd.fst ∧ ∀ (e : Int × (Bool × List Int) × List Int), e ∈ x.fst → e.snd = rc (rv e.snd))))
theorem vc_r06_Identical_eq (x : dens s_r06_Identical.args) : semF ⟨Tryz.prog, tys⟩ sp_r06_Identical an_r06_Identical s_r06_Identical Tryz.f35.results.toList (Tryz.f35.body.getD .skip) x = vc_r06_Identical x := by kernel_rfl
theorem m_r06_Identical (hsp : SpOk Tryz.prog sp_r06_Identical) (h : ∀ x, awf s_r06_Identical.args x → s_r06_Identical.pre x → vc_r06_Identical x) : Meets Tryz.prog 35 s_r06_Identical := meets_vc (cx := ⟨Tryz.prog, tys⟩) (sp := sp_r06_Identical) (an := an_r06_Identical) (s := s_r06_Identical) (fn := Tryz.f35) (c := Tryz.f35.body.getD .skip) Tryz.func35 (by kernel_rfl) (Nat.le_of_ble_eq_true (by kernel_rfl)) (by kernel_rfl) tys_ok hsp vc_r06_Identical_eq h
end Go.Proofs.YtppgpdigopffbaaGreat
namespace Go.Proofs.YtppgpdigopffbaaGreat
open Go.Vc Go.Gw
theorem vc_r06_Identical_ok (x : dens s_r06_Identical.args) (hw : awf s_r06_Identical.args x) (hp : s_r06_Identical.pre x) : vc_r06_Identical x := by
  obtain ⟨a, b, _⟩ := x
  have hl : a.length ≤ 9223372036854775807 := hw.1.1
  change List (Int × (Bool × List Int) × List Int) at a b
  have hwh : ∀ e ∈ a, whole e.2 := hp
  simp only [vc_r06_Identical]
  refine ⟨fun h => ?_, fun h => ?_⟩
  · have h := of_decide_eq_true h
    exact (decide_eq_false fun e => h (by rw [e.1])).symm
  · have hlen : a.length = b.length := by have := of_decide_eq_false h; omega
    refine ⟨fun p => 0 ≤ p.1 ∧ p.1 ≤ (a.length : Int) ∧ a.take p.1.toNat = b.take p.1.toNat ∧ ∀ e ∈ a.take p.1.toNat, e.2 = rc (rv e.2), fun p => ((a.length : Int) - p.1).toNat, ⟨Int.le_refl _, Int.natCast_nonneg _, by simp, by simp⟩, ?_⟩
    rintro ⟨i, _⟩ _ ⟨h0, h1, h2, h3⟩
    change Int at i
    simp only at h0 h1 h2 h3 ⊢
    refine ⟨fun h => ?_, fun h => ?_⟩
    · have h := of_decide_eq_true h
      have ma := gx_mem (d := dEE) h0 h
      have ga := gx_get (d := dEE) h0 h
      have gb := gx_get (d := dEE) (l := b) h0 (by omega)
      have hta : a.take (i + 1).toNat = a.take i.toNat ++ [gx dEE a i] := by
        rw [show (i + 1).toNat = i.toNat + 1 from by omega, List.take_add_one, ga]; rfl
      have htb : b.take (i + 1).toNat = b.take i.toNat ++ [gx dEE b i] := by
        rw [show (i + 1).toNat = i.toNat + 1 from by omega, List.take_add_one, gb]; rfl
      generalize gx dEE a i = e at *
      generalize gx dEE b i = f at *
      obtain ⟨ei, ev⟩ := e
      obtain ⟨fi, fv⟩ := f
      simp only at ma ga gb hta htb ⊢
      refine ⟨⟨h0, h⟩, ⟨h0, by omega⟩, fun _ => ⟨h0, h⟩, fun _ => hwh _ ma, ?_⟩
      rintro ⟨r, _⟩ hr
      refine ⟨fun _ => ⟨h0, h⟩, fun _ => ⟨h0, by omega⟩, fun _ => trivial, ?_⟩
      rintro ⟨s, _⟩ hs
      change Bool at r s
      simp only at hr hs ⊢
      rw [sel_or] at hs
      rw [sel_or, sel_or]
      have key : (decide (ei ≠ fi) || !r || !s) = false ↔ ei = fi ∧ ev = rc (rv ev) ∧ ev = fv := by
        by_cases hi : ei = fi
        · have hr := (hr (by simp [hi])).2
          by_cases hc : ev = rc (rv ev)
          · have hr : r = true := by rw [hr]; exact decide_eq_true hc
            have hs := (hs (by simp [hi, hr])).2
            rw [hs, hr]
            simp [hi, ← hc]
          · have hr : r = false := by rw [hr]; exact decide_eq_false hc
            rw [hr]; simp [hc]
        · simp [hi]
      refine ⟨fun hb => ?_, fun hb => ?_⟩
      · refine (decide_eq_false fun hall => ?_).symm
        obtain ⟨hab, hcan⟩ := hall
        subst hab
        rw [ga] at gb
        have gb := Option.some.inj gb
        rw [Prod.mk.injEq] at gb
        have := key.2 ⟨gb.1, hcan _ ma, gb.2⟩
        rw [this] at hb; cases hb
      · obtain ⟨k1, k2, k3⟩ := key.1 hb
        rw [wr (by omega) (by omega)]
        refine ⟨⟨by omega, by omega, ?_, ?_⟩, by omega⟩
        · rw [hta, htb, h2, k1, k3]
        · rw [hta]
          intro y hy
          rcases List.mem_append.1 hy with hy | hy
          · exact h3 y hy
          · rw [List.mem_singleton.1 hy]; exact k2
    · have h := of_decide_eq_false h
      rw [take_all (by omega), take_all (by omega)] at h2
      rw [take_all (by omega)] at h3
      exact (decide_eq_true ⟨h2, h3⟩).symm
end Go.Proofs.YtppgpdigopffbaaGreat
namespace Go.Proofs.YtppgpdigopffbaaGreat
open Go.Vc Go.Gw
noncomputable def sp_topology_Loop_102 : Specs := [(41, s_rational_FromInt)]
def an_topology_Loop_102 : An := { join := [(3, ⟨[0, 3], [0, 2, 4, 5], [(6, false, [.val (.int .i64)])], [], []⟩)], plan := [(3, [0], [6, 7], false, (.q 0 (.p 1 (.p 2 (.e 3 (.p 4 (.e 5 (.e 6 (.e 7 .done)))))))))] }
noncomputable def sp_topology_Loop_119 : Specs := [(41, s_rational_FromInt)]
def an_topology_Loop_119 : An := { join := [(3, ⟨[0, 3], [0, 2, 4, 5], [(6, false, [.val (.int .i64)])], [], []⟩)], plan := [(3, [0], [6, 7], false, (.q 0 (.p 1 (.p 2 (.e 3 (.p 4 (.e 5 (.e 6 (.e 7 .done)))))))))] }
def an_topology_Loop : An := { loop := [(13, ⟨[2, 4, 14, 15, 56, 57], [0], [(58, false, [.val (.int .i64)])], [], [(2, .row (.int .i64) 3)]⟩), (20, ⟨[14, 15, 18, 19], [0, 2], [(20, false, [.val (.int .i64)]), (21, false, [.val (.int .i64)])], [(4, 34, [.own (.pair (.int .i64) (.pair (.pair .bool (.sl (.int .u32))) (.sl (.int .u32)))) 49])], []⟩)], plan := [(19, [0, 4, 5, 9], [], true, (.q 0 (.p 1 (.p 2 (.p 3 (.q 4 (.q 5 (.p 6 (.p 7 (.p 8 (.q 9 (.p 10 (.p 11 .done))))))))))))), (21, [3, 7], [], true, (.p 0 (.p 1 (.p 2 (.q 3 (.p 4 (.p 5 (.p 6 (.q 7 (.p 8 .done)))))))))), (24, [5, 10], [11], false, (.p 0 (.p 1 (.p 2 (.p 3 (.p 4 (.q 5 (.p 6 (.p 7 (.p 8 (.p 9 (.q 10 (.e 11 .done)))))))))))))] }
noncomputable def sp_topology_Loop : Specs := [(30, s_topology_check), (31, s_topology_tree), (36, s_topology_roots), (38, s_slices_BinarySearch_Sint_int), (41, s_rational_FromInt), (43, s_vector_Norm), (42, inlSpec (mkInl ⟨Tryz.prog, tys⟩ [(102, sp_topology_Loop_102, an_topology_Loop_102), (119, sp_topology_Loop_119, an_topology_Loop_119)] Tryz.f42.results.toList (Tryz.f42.body.getD .skip) Tryz.f42.ntmps))]
def vc_topology_Loop : dens s_topology_Loop.args → Prop := fun (x : Int × List (Int × Int) × Int × Unit) => True ∧ ∀ (r : Int × Unit), In64 r.fst ∧ True → r.fst = netE x.fst x.snd.fst → (decide (r.fst ≠ (0 : Int)) = true → (netE x.fst x.snd.fst ≠ (0 : Int) → nilL EE = [] ∧ r.fst = netE x.fst x.snd.fst) ∧ (netE x.fst x.snd.fst = (0 : Int) → nilL EE = loopP x.fst x.snd.fst x.snd.snd.fst ∧ r.fst = loopE x.fst x.snd.fst x.snd.snd.fst)) ∧ (decide (r.fst ≠ (0 : Int)) = false → (sel (decide (x.snd.snd.fst < (0 : Int))) true (decide ((↑(List.length x.snd.fst) : Int) ≤ x.snd.snd.fst)) = true → (netE x.fst x.snd.fst ≠ (0 : Int) → nilL EE = [] ∧ (12 : Int) = netE x.fst x.snd.fst) ∧ (netE x.fst x.snd.fst = (0 : Int) → nilL EE = loopP x.fst x.snd.fst x.snd.snd.fst ∧ (12 : Int) = loopE x.fst x.snd.fst x.snd.snd.fst)) ∧ (sel (decide (x.snd.snd.fst < (0 : Int))) true (decide ((↑(List.length x.snd.fst) : Int) ≤ x.snd.snd.fst)) = false → netOk x.fst x.snd.fst ∧ ∀ (r_1 : List Int × List (List (Int × Int)) × Unit), WfI r_1.fst ∧ (List.length r_1.snd.fst ≤ 9223372036854775807 ∧ ∀ (x : List (Int × Int)), x ∈ r_1.snd.fst → x.length ≤ 9223372036854775807 ∧ ∀ (x_1 : Int × Int), x_1 ∈ x → In64 x_1.fst ∧ In64 x_1.snd) ∧ True → r_1.fst = forestF x.fst x.snd.fst ∧ r_1.snd.fst = nextT x.fst x.snd.fst → (List.Pairwise (fun (x1 x2 : Int) => x1 < x2) r_1.fst ∧ List.length r_1.fst ≤ (100000 : Nat)) ∧ ∀ (r_2 : Int × Bool × Unit), In64 r_2.fst ∧ True ∧ True → r_2.snd.fst = decide (x.snd.snd.fst ∈ r_1.fst) → (r_2.snd.fst = true → (netE x.fst x.snd.fst ≠ (0 : Int) → nilL EE = [] ∧ (20 : Int) = netE x.fst x.snd.fst) ∧ (netE x.fst x.snd.fst = (0 : Int) → nilL EE = loopP x.fst x.snd.fst x.snd.snd.fst ∧ (20 : Int) = loopE x.fst x.snd.fst x.snd.snd.fst)) ∧ (r_2.snd.fst = false → (∃ (n : Int), ∃ (ls : List Ln), netOk n ls ∧ r_1.snd.fst = nextT n ls) ∧ ∀ (r_3 : List Int × List (Int × Int) × Unit), WfI r_3.fst ∧ (List.length r_3.snd.fst ≤ 9223372036854775807 ∧ ∀ (x : Int × Int), x ∈ r_3.snd.fst → In64 x.fst ∧ In64 x.snd) ∧ True → (∀ (n : Int) (ls : List Ln), netOk n ls → r_1.snd.fst = nextT n ls → rootsP n ls r_3.fst r_3.snd.fst) → ((0 : Int) ≤ x.fst ∧ x.fst ≤ x.fst ∧ (↑(8 : Nat) : Int) * x.fst ≤ (281474976710656 : Int) ∧ x.fst ≤ (9223372036854775807 : Int)) ∧ ∃ (I : Int × List Int × Unit → Prop), ∃ (μ : Int × List Int × Unit → Nat), I ((0 : Int), List.replicate (Int.toNat x.fst) (0 : Int), ()) ∧ ∀ (p : Int × List Int × Unit), In64 p.fst ∧ WfI p.snd.fst ∧ True → I p → (decide (p.fst < (↑(List.length r_3.fst) : Int)) = true → ((0 : Int) ≤ p.fst ∧ p.fst < (↑(List.length r_3.fst) : Int)) ∧ ((0 : Int) ≤ gx (0 : Int) r_3.fst p.fst ∧ gx (0 : Int) r_3.fst p.fst < (↑(List.length p.snd.fst) : Int)) ∧ I (IntKind.i64.wrap (p.fst + (1 : Int)), List.set p.snd.fst (gx (0 : Int) r_3.fst p.fst).toNat p.fst, ()) ∧ μ (IntKind.i64.wrap (p.fst + (1 : Int)), List.set p.snd.fst (gx (0 : Int) r_3.fst p.fst).toNat p.fst, ()) < μ p) ∧ (decide (p.fst < (↑(List.length r_3.fst) : Int)) = false → True ∧ ∀ (r_4 : QQ × Unit), WfQ r_4.fst ∧ True → r_4.fst = ri (1 : Int) → ((0 : Int) ≤ x.snd.snd.fst ∧ x.snd.snd.fst < (↑(List.length x.snd.fst) : Int)) ∧ ((0 : Int) ≤ (1 : Int) ∧ (1 : Int) < (↑(2 : Nat) : Int)) ∧ ((0 : Int) ≤ x.snd.snd.fst ∧ x.snd.snd.fst < (↑(List.length x.snd.fst) : Int)) ∧ ((0 : Int) ≤ (0 : Int) ∧ (0 : Int) < (↑(2 : Nat) : Int)) ∧ ∃ (I : Int × Int × List EE × Unit → Prop), ∃ (μ : Int × Int × List EE × Unit → Nat), I ((gx ((0 : Int), (0 : Int)) x.snd.fst x.snd.snd.fst).snd, (gx ((0 : Int), (0 : Int)) x.snd.fst x.snd.snd.fst).fst, [(x.snd.snd.fst, r_4.fst)], ()) ∧ ∀ (p_1 : Int × Int × List EE × Unit), In64 p_1.fst ∧ In64 p_1.snd.fst ∧ WfEs p_1.snd.snd.fst ∧ True → I p_1 → (decide (p_1.fst ≠ p_1.snd.fst) = true → ((0 : Int) ≤ p_1.fst ∧ p_1.fst < (↑(List.length p.snd.fst) : Int)) ∧ ((0 : Int) ≤ p_1.snd.fst ∧ p_1.snd.fst < (↑(List.length p.snd.fst) : Int)) ∧ (decide (List.getD p.snd.fst (Int.toNat p_1.snd.fst) (0 : Int) < List.getD p.snd.fst (Int.toNat p_1.fst) (0 : Int)) = true → ((0 : Int) ≤ p_1.fst ∧ p_1.fst < (↑(List.length r_3.snd.fst) : Int)) ∧ ((0 : Int) ≤ (0 : Int) ∧ (0 : Int) < (↑(2 : Nat) : Int)) ∧ ∃ (J : Int × Unit → Prop), (((0 : Int) ≤ (gx ((0 : Int), (0 : Int)) r_3.snd.fst p_1.fst).fst ∧ (gx ((0 : Int), (0 : Int)) r_3.snd.fst p_1.fst).fst < (↑(List.length x.snd.fst) : Int)) ∧ ((0 : Int) ≤ (0 : Int) ∧ (0 : Int) < (↑(2 : Nat) : Int)) ∧ (decide ((gx ((0 : Int), (0 : Int)) x.snd.fst (gx ((0 : Int), (0 : Int)) r_3.snd.fst p_1.fst).fst).fst = p_1.fst) = true → J ((1 : Int), ())) ∧ (decide ((gx ((0 : Int), (0 : Int)) x.snd.fst (gx ((0 : Int), (0 : Int)) r_3.snd.fst p_1.fst).fst).fst = p_1.fst) = false → J ((-1 : Int), ()))) ∧ ∀ (p : Int × Unit), In64 p.fst ∧ True → J p → True ∧ ∀ (r : QQ × Unit), WfQ r.fst ∧ True → r.fst = ri p.fst → ((List.length p_1.snd.snd.fst + [((gx ((0 : Int), (0 : Int)) r_3.snd.fst p_1.fst).fst, r.fst)].length) * (64 : Nat) ≤ (140737488355328 : Nat) ∧ List.length p_1.snd.snd.fst + [((gx ((0 : Int), (0 : Int)) r_3.snd.fst p_1.fst).fst, r.fst)].length ≤ 9223372036854775807) ∧ ((0 : Int) ≤ p_1.fst ∧ p_1.fst < (↑(List.length r_3.snd.fst) : Int)) ∧ ((0 : Int) ≤ (1 : Int) ∧ (1 : Int) < (↑(2 : Nat) : Int)) ∧ I ((gx ((0 : Int), (0 : Int)) r_3.snd.fst p_1.fst).snd, p_1.snd.fst, p_1.snd.snd.fst ++ [((gx ((0 : Int), (0 : Int)) r_3.snd.fst p_1.fst).fst, r.fst)], ()) ∧ μ ((gx ((0 : Int), (0 : Int)) r_3.snd.fst p_1.fst).snd, p_1.snd.fst, p_1.snd.snd.fst ++ [((gx ((0 : Int), (0 : Int)) r_3.snd.fst p_1.fst).fst, r.fst)], ()) < μ p_1) ∧ (decide (List.getD p.snd.fst (Int.toNat p_1.snd.fst) (0 : Int) < List.getD p.snd.fst (Int.toNat p_1.fst) (0 : Int)) = false → ((0 : Int) ≤ p_1.snd.fst ∧ p_1.snd.fst < (↑(List.length r_3.snd.fst) : Int)) ∧ ((0 : Int) ≤ (0 : Int) ∧ (0 : Int) < (↑(2 : Nat) : Int)) ∧ ((0 : Int) ≤ p_1.snd.fst ∧ p_1.snd.fst < (↑(List.length r_3.snd.fst) : Int)) ∧ ((0 : Int) ≤ (1 : Int) ∧ (1 : Int) < (↑(2 : Nat) : Int)) ∧ ∃ (J : Int × Unit → Prop), (((0 : Int) ≤ (gx ((0 : Int), (0 : Int)) r_3.snd.fst p_1.snd.fst).fst ∧ (gx ((0 : Int), (0 : Int)) r_3.snd.fst p_1.snd.fst).fst < (↑(List.length x.snd.fst) : Int)) ∧ ((0 : Int) ≤ (0 : Int) ∧ (0 : Int) < (↑(2 : Nat) : Int)) ∧ (decide ((gx ((0 : Int), (0 : Int)) x.snd.fst (gx ((0 : Int), (0 : Int)) r_3.snd.fst p_1.snd.fst).fst).fst = (gx ((0 : Int), (0 : Int)) r_3.snd.fst p_1.snd.fst).snd) = true → J ((1 : Int), ())) ∧ (decide ((gx ((0 : Int), (0 : Int)) x.snd.fst (gx ((0 : Int), (0 : Int)) r_3.snd.fst p_1.snd.fst).fst).fst = (gx ((0 : Int), (0 : Int)) r_3.snd.fst p_1.snd.fst).snd) = false → J ((-1 : Int), ()))) ∧ ∀ (p : Int × Unit), In64 p.fst ∧ True → J p → True ∧ ∀ (r : QQ × Unit), WfQ r.fst ∧ True → r.fst = ri p.fst → ((List.length p_1.snd.snd.fst + [((gx ((0 : Int), (0 : Int)) r_3.snd.fst p_1.snd.fst).fst, r.fst)].length) * (64 : Nat) ≤ (140737488355328 : Nat) ∧ List.length p_1.snd.snd.fst + [((gx ((0 : Int), (0 : Int)) r_3.snd.fst p_1.snd.fst).fst, r.fst)].length ≤ 9223372036854775807) ∧ ((0 : Int) ≤ p_1.snd.fst ∧ p_1.snd.fst < (↑(List.length r_3.snd.fst) : Int)) ∧ ((0 : Int) ≤ (1 : Int) ∧ (1 : Int) < (↑(2 : Nat) : Int)) ∧ I (p_1.fst, (gx ((0 : Int), (0 : Int)) r_3.snd.fst p_1.snd.fst).snd, p_1.snd.snd.fst ++ [((gx ((0 : Int), (0 : Int)) r_3.snd.fst p_1.snd.fst).fst, r.fst)], ()) ∧ μ (p_1.fst, (gx ((0 : Int), (0 : Int)) r_3.snd.fst p_1.snd.fst).snd, p_1.snd.snd.fst ++ [((gx ((0 : Int), (0 : Int)) r_3.snd.fst p_1.snd.fst).fst, r.fst)], ()) < μ p_1)) ∧ (decide (p_1.fst ≠ p_1.snd.fst) = false → (List.length p_1.snd.snd.fst ≤ (20 : Nat) ∧ (List.map (fun (x : Int × (Bool × List Int) × List Int) => x.fst) p_1.snd.snd.fst).Nodup ∧ ∀ (e : Int × (Bool × List Int) × List Int), e ∈ p_1.snd.snd.fst → e.snd = ri (1 : Int) ∨ e.snd = ri (-1 : Int)) ∧ ∀ (r : List EE × Unit), WfEs r.fst ∧ True → r.fst.Perm p_1.snd.snd.fst ∧ byIx r.fst → (netE x.fst x.snd.fst ≠ (0 : Int) → r.fst = [] ∧ (0 : Int) = netE x.fst x.snd.fst) ∧ (netE x.fst x.snd.fst = (0 : Int) → r.fst = loopP x.fst x.snd.fst x.snd.snd.fst ∧ (0 : Int) = loopE x.fst x.snd.fst x.snd.snd.fst))))))
theorem vc_topology_Loop_eq (x : dens s_topology_Loop.args) : semF ⟨Tryz.prog, tys⟩ sp_topology_Loop an_topology_Loop s_topology_Loop Tryz.f13.results.toList (Tryz.f13.body.getD .skip) x = vc_topology_Loop x := by kernel_rfl
theorem m_topology_Loop (hsp : SpOk Tryz.prog sp_topology_Loop) (h : ∀ x, awf s_topology_Loop.args x → s_topology_Loop.pre x → vc_topology_Loop x) : Meets Tryz.prog 13 s_topology_Loop := meets_vc (cx := ⟨Tryz.prog, tys⟩) (sp := sp_topology_Loop) (an := an_topology_Loop) (s := s_topology_Loop) (fn := Tryz.f13) (c := Tryz.f13.body.getD .skip) Tryz.func13 (by kernel_rfl) (Nat.le_of_ble_eq_true (by kernel_rfl)) (by kernel_rfl) tys_ok hsp vc_topology_Loop_eq h
end Go.Proofs.YtppgpdigopffbaaGreat
namespace Go.Proofs.YtppgpdigopffbaaGreat
open Go.Vc Go.Gw
theorem loopP_out {n : Int} {ls : List Ln} {line : Int} (h : line < 0 ∨ (ls.length : Int) ≤ line) : loopP n ls line = [] ∧ loopE n ls line = 12 := by
  unfold loopP loopE
  rw [if_neg (by omega), if_neg (by omega)]; exact ⟨rfl, rfl⟩
theorem loopP_forest {n : Int} {ls : List Ln} {line : Int} (h0 : 0 ≤ line) (h1 : line < (ls.length : Int)) (h : line ∈ forestF n ls) : loopP n ls line = [] ∧ loopE n ls line = 20 := by
  unfold loopP loopE
  rw [if_pos ⟨h0, h1⟩, if_pos h, if_pos ⟨h0, h1⟩, if_pos h]; exact ⟨rfl, rfl⟩
theorem loopP_loop {n : Int} {ls : List Ln} {line : Int} (h0 : 0 ≤ line) (h1 : line < (ls.length : Int)) (h : line ∉ forestF n ls) : loopP n ls line = loopF n ls line ∧ loopE n ls line = 0 := by
  unfold loopP loopE
  rw [if_pos ⟨h0, h1⟩, if_neg h, if_pos ⟨h0, h1⟩, if_neg h]; exact ⟨rfl, rfl⟩
theorem vc_topology_Loop_ok (x : dens s_topology_Loop.args) (hw : awf s_topology_Loop.args x) (hp : s_topology_Loop.pre x) : vc_topology_Loop x := by
  obtain ⟨n, ls, line, _⟩ := x
  change Int at n line
  change List (Int × Int) at ls
  have hl : ls.length ≤ 20 := hp
  simp only [vc_topology_Loop]
  refine ⟨trivial, ?_⟩
  rintro ⟨e, _⟩ _ he
  simp only at he ⊢
  subst he
  refine ⟨fun h => ?_, fun h => ?_⟩
  · have h := of_decide_eq_true h
    exact ⟨fun _ => ⟨by trivial, by trivial⟩, fun h' => absurd h' h⟩
  have h : netE n ls = 0 := by simpa using h
  have hok := netE_ok.1 h
  obtain ⟨n0, n1, nb⟩ := id hok
  refine ⟨fun hr => ?_, fun hr => ?_⟩
  · rw [sel_or] at hr
    simp only [Bool.or_eq_true, decide_eq_true_eq] at hr
    obtain ⟨e1, e2⟩ := loopP_out (n := n) hr
    exact ⟨fun h' => absurd h h', fun _ => ⟨e1.symm, e2.symm⟩⟩
  rw [sel_or] at hr
  simp only [Bool.or_eq_false_iff, decide_eq_false_iff_not] at hr
  have l0 : 0 ≤ line := by omega
  have l1 : line < (ls.length : Int) := by omega
  refine ⟨hok, ?_⟩
  rintro ⟨F, N, _⟩ _ ⟨hF, hN⟩
  simp only at hF hN ⊢
  subst hF hN
  have hfl : (forestF n ls).length ≤ 16384 := forest_le hok (k := ls.length) (Nat.le_refl _)
  refine ⟨⟨forest_sorted n ls, by omega⟩, ?_⟩
  rintro ⟨at', inn, _⟩ _ hin
  simp only at hin ⊢
  subst hin
  refine ⟨fun hin => ?_, fun hin => ?_⟩
  · obtain ⟨e1, e2⟩ := loopP_forest l0 l1 (of_decide_eq_true hin)
    exact ⟨fun h' => absurd h h', fun _ => ⟨e1.symm, e2.symm⟩⟩
  have hnf := of_decide_eq_false hin
  refine ⟨⟨n, ls, hok, rfl⟩, ?_⟩
  rintro ⟨ord, up, _⟩ _ hR
  simp only at hR ⊢
  have hR := hR n ls hok rfl
  have hol := hR.len
  have hul := hR.ulen
  change List Int at ord
  change List (Int × Int) at up
  refine ⟨⟨n0, Int.le_refl _, by omega, by omega⟩, fun p => 0 ≤ p.1 ∧ p.1 ≤ (ord.length : Int) ∧ p.2.1.length = n.toNat ∧ ∀ (j : Nat) (b : Int), (j : Int) < p.1 → ord[j]? = some b → lat p.2.1 b = (j : Int), fun p => ((ord.length : Int) - p.1).toNat, ⟨Int.le_refl _, Int.natCast_nonneg _, by simp, fun j b hj => (by have hj : (j : Int) < 0 := hj; omega)⟩, ?_⟩
  rintro ⟨i, pl, _⟩ _ ⟨h0, h1, h2, h3⟩
  change Int at i
  change List Int at pl
  simp only at h0 h1 h2 h3 ⊢
  refine ⟨fun hi => ?_, fun hi => ?_⟩
  · have hi := of_decide_eq_true hi
    have hg := gx_get (d := (0 : Int)) (l := ord) h0 hi
    have b0 := (hR.at' _ _ hg).1
    have b1 := (hR.at' _ _ hg).2.1
    have hnd := hR.nod
    generalize gx 0 ord i = b at *
    rw [wr (by omega) (by omega)]
    refine ⟨⟨h0, hi⟩, ⟨b0, by omega⟩, ⟨by omega, by omega, by rw [List.length_set]; exact h2, fun j c hj hc => ?_⟩, by omega⟩
    have c0 := (hR.at' _ _ hc).1
    have c1 := (hR.at' _ _ hc).2.1
    rw [lat_set (by omega)]
    by_cases hcb : c.toNat = b.toNat
    · rw [if_pos hcb]
      have hcb : c = b := by omega
      subst hcb
      have hj2 : j < ord.length := by omega
      have : j = i.toNat := (List.getElem?_inj hj2 hnd).1 (hc.trans hg.symm)
      omega
    · rw [if_neg hcb]
      refine h3 j c ?_ hc
      have : j ≠ i.toNat := fun hji => hcb (by rw [hji] at hc; rw [hg] at hc; rw [Option.some.inj hc])
      omega
  have hi := of_decide_eq_false hi
  have hplc : Plc n ls up pl := plc_of hok hR fun j b hj => by
    have hjl : j < ord.length := by
      rcases Nat.lt_or_ge j ord.length with h | h
      · exact h
      · rw [List.getElem?_eq_none h] at hj; cases hj
    exact h3 j b (by omega) hj
  refine ⟨trivial, ?_⟩
  rintro ⟨one, _⟩ _ hone
  simp only at hone ⊢
  subst hone
  have hln : gx (0, 0) ls line = lnA ls line := gx_getD l0 l1
  have hst := Clb.start (up := up) (pl := pl) hok l0 l1
  refine ⟨⟨l0, l1⟩, ⟨by decide, by decide⟩, ⟨l0, l1⟩, ⟨by decide, by decide⟩, fun p => Clb n ls up pl line p.1 p.2.1 p.2.2.1, fun p => (lat pl p.1 + lat pl p.2.1).toNat, by rw [hln]; exact hst, ?_⟩
  rintro ⟨a, b, out, _⟩ _ hC
  change Int at a b
  simp only at hC ⊢
  have hlen := hC.len hok l0 l1 hnf
  obtain ⟨a0, a1, b0, b1, hlab, _⟩ := id hC
  have hua : ∀ v : Int, 0 ≤ v → v < n → gx (0, 0) up v = upA up v := fun v v0 v1 => gx_getD v0 (by omega)
  have hla : ∀ v : Int, pl.getD v.toNat 0 = lat pl v := fun v => rfl
  refine ⟨fun hab => ?_, fun hab => ?_⟩
  · have hab := of_decide_eq_true hab
    refine ⟨⟨a0, by omega⟩, ⟨b0, by omega⟩, fun hlt => ?_, fun hlt => ?_⟩
    · have hlt : lat pl b < lat pl a := of_decide_eq_true hlt
      have hnew := hC.left hok hplc hlt
      obtain ⟨c1, c2, c3, c4, c5, c6⟩ := hplc.climb hok a0 a1 b0 b1 hlab hlt
      have hm := forest_mem c1
      have hp1 := (hplc.at' a a0 a1).1
      have hp2 := (hplc.at' _ c4 c5).1
      have hp3 := (hplc.at' b b0 b1).1
      rw [hua a a0 a1]
      have hle : gx (0, 0) ls (upA up a).1 = lnA ls (upA up a).1 := gx_getD hm.1 hm.2
      rw [hle]
      refine ⟨⟨a0, by omega⟩, ⟨by decide, by decide⟩, fun p => p.1 = sgnU ls (upA up a).1 a, ⟨hm, ⟨by decide, by decide⟩, fun hs => ?_, fun hs => ?_⟩, ?_⟩
      · show (1 : Int) = _
        unfold sgnU; rw [if_pos (of_decide_eq_true hs)]
      · show (-1 : Int) = _
        unfold sgnU; rw [if_neg (of_decide_eq_false hs)]
      rintro ⟨s, _⟩ _ hs
      simp only at hs ⊢
      refine ⟨trivial, ?_⟩
      rintro ⟨r, _⟩ _ hr
      simp only at hr ⊢
      subst hr
      rw [hs]
      exact ⟨⟨by simp only [List.length_singleton]; omega, by simp only [List.length_singleton]; omega⟩, ⟨a0, by omega⟩, ⟨by decide, by decide⟩, hnew, by omega⟩
    · have hlt : ¬ lat pl b < lat pl a := of_decide_eq_false hlt
      have hlt : lat pl a < lat pl b := by
        have : lat pl a ≠ lat pl b := fun h => hab (hplc.inj a b a0 a1 b0 b1 h)
        omega
      have hnew := hC.right hok hplc hlt
      obtain ⟨c1, c2, c3, c4, c5, c6⟩ := hplc.climb hok b0 b1 a0 a1 hlab.symm hlt
      have hm := forest_mem c1
      have hp1 := (hplc.at' b b0 b1).1
      have hp2 := (hplc.at' _ c4 c5).1
      have hp3 := (hplc.at' a a0 a1).1
      rw [hua b b0 b1]
      have hle : gx (0, 0) ls (upA up b).1 = lnA ls (upA up b).1 := gx_getD hm.1 hm.2
      rw [hle]
      refine ⟨⟨b0, by omega⟩, ⟨by decide, by decide⟩, ⟨b0, by omega⟩, ⟨by decide, by decide⟩, fun p => p.1 = sgnU ls (upA up b).1 (upA up b).2, ⟨hm, ⟨by decide, by decide⟩, fun hs => ?_, fun hs => ?_⟩, ?_⟩
      · show (1 : Int) = _
        unfold sgnU; rw [if_pos (of_decide_eq_true hs)]
      · show (-1 : Int) = _
        unfold sgnU; rw [if_neg (of_decide_eq_false hs)]
      rintro ⟨s, _⟩ _ hs
      simp only at hs ⊢
      refine ⟨trivial, ?_⟩
      rintro ⟨r, _⟩ _ hr
      simp only at hr ⊢
      subst hr
      rw [hs]
      exact ⟨⟨by simp only [List.length_singleton]; omega, by simp only [List.length_singleton]; omega⟩, ⟨b0, by omega⟩, ⟨by decide, by decide⟩, hnew, by omega⟩
  · have hab : a = b := by simpa using hab
    subst hab
    obtain ⟨d1, d2, d3⟩ := hC.done hok l0 l1 hnf
    refine ⟨⟨by omega, d2, d3⟩, ?_⟩
    rintro ⟨r, _⟩ _ ⟨r1, r2⟩
    simp only at r1 r2 ⊢
    obtain ⟨e1, e2⟩ := loopP_loop (n := n) l0 l1 hnf
    exact ⟨fun h' => absurd h h', fun _ => ⟨by rw [e1]; exact byIx_eq r2 (loopF_byIx n ls line) (r1.trans d1), e2.symm⟩⟩
end Go.Proofs.YtppgpdigopffbaaGreat
namespace Go.Proofs.YtppgpdigopffbaaGreat
open Go.Vc Go.Gw
def an_law19_awake : An := {}
def sp_law19_awake : Specs := [(8, s_topology_Forest), (9, s_topology_Islands), (11, s_topology_Bridges), (12, s_help_Equal_int), (13, s_topology_Loop), (18, s_r03_FromInt), (35, s_r06_Identical)]
def an_law19_TopologyForest : An := { join := [(9, ⟨[3, 4, 5, 7, 10], [], [(9, false, [.val (.int .i64)])], [], []⟩)], loop := [(8, ⟨[3, 4, 5, 7], [], [(9, false, [.val (.int .i64)]), (10, false, [.val (.int .i64)])], [], []⟩), (14, ⟨[3, 4, 5, 7, 9, 64, 65], [], [(11, false, [.own (.pair (.int .i64) (.int .i64)) 30]), (66, false, [.val (.int .i64)])], [], []⟩)] }
def sp_law19_TopologyForest : Specs := [(7, s_law19_network), (8, s_topology_Forest), (9, s_topology_Islands), (10, s_law19_awake), (11, s_topology_Bridges), (12, s_help_Equal_int)]
def vc_law19_awake : dens s_law19_awake.args → Prop := fun (x : Unit) => True ∧ ∀ (r : List Int × Int × Unit), WfI r.fst ∧ In64 r.snd.fst ∧ True → (r.fst = if netE (3 : Int) [((0 : Int), (1 : Int)), ((1 : Int), (2 : Int)), ((0 : Int), (2 : Int))] = (0 : Int) then labs (3 : Int) [((0 : Int), (1 : Int)), ((1 : Int), (2 : Int)), ((0 : Int), (2 : Int))] else []) ∧ r.snd.fst = netE (3 : Int) [((0 : Int), (1 : Int)), ((1 : Int), (2 : Int)), ((0 : Int), (2 : Int))] → True ∧ ∀ (r_1 : List Int × Int × Unit), WfI r_1.fst ∧ In64 r_1.snd.fst ∧ True → (r_1.fst = if netE (3 : Int) [((0 : Int), (1 : Int)), ((1 : Int), (2 : Int)), ((0 : Int), (2 : Int))] = (0 : Int) then forestF (3 : Int) [((0 : Int), (1 : Int)), ((1 : Int), (2 : Int)), ((0 : Int), (2 : Int))] else []) ∧ r_1.snd.fst = netE (3 : Int) [((0 : Int), (1 : Int)), ((1 : Int), (2 : Int)), ((0 : Int), (2 : Int))] → ((0 : Int) ≤ (0 : Int) ∧ (0 : Int) ≤ (2 : Int) ∧ (2 : Int) ≤ (↑[((0 : Int), (1 : Int)), ((1 : Int), (2 : Int)), ((0 : Int), (2 : Int))].length : Int)) ∧ (List.drop (Int.toNat (0 : Int)) (List.take (Int.toNat (2 : Int)) [((0 : Int), (1 : Int)), ((1 : Int), (2 : Int)), ((0 : Int), (2 : Int))])).length ≤ (100000 : Nat) ∧ ∀ (r_2 : List Int × Int × Unit), WfI r_2.fst ∧ In64 r_2.snd.fst ∧ True → (netE (3 : Int) (List.drop (Int.toNat (0 : Int)) (List.take (Int.toNat (2 : Int)) [((0 : Int), (1 : Int)), ((1 : Int), (2 : Int)), ((0 : Int), (2 : Int))])) ≠ (0 : Int) → r_2.fst = [] ∧ r_2.snd.fst = netE (3 : Int) (List.drop (Int.toNat (0 : Int)) (List.take (Int.toNat (2 : Int)) [((0 : Int), (1 : Int)), ((1 : Int), (2 : Int)), ((0 : Int), (2 : Int))]))) ∧ (netE (3 : Int) (List.drop (Int.toNat (0 : Int)) (List.take (Int.toNat (2 : Int)) [((0 : Int), (1 : Int)), ((1 : Int), (2 : Int)), ((0 : Int), (2 : Int))])) = (0 : Int) → r_2.fst = bridgesF (3 : Int) (List.drop (Int.toNat (0 : Int)) (List.take (Int.toNat (2 : Int)) [((0 : Int), (1 : Int)), ((1 : Int), (2 : Int)), ((0 : Int), (2 : Int))])) ∧ r_2.snd.fst = (0 : Int)) → [((0 : Int), (1 : Int)), ((1 : Int), (2 : Int)), ((0 : Int), (2 : Int))].length ≤ (20 : Nat) ∧ ∀ (r_3 : List EE × Int × Unit), WfEs r_3.fst ∧ In64 r_3.snd.fst ∧ True → (netE (3 : Int) [((0 : Int), (1 : Int)), ((1 : Int), (2 : Int)), ((0 : Int), (2 : Int))] ≠ (0 : Int) → r_3.fst = [] ∧ r_3.snd.fst = netE (3 : Int) [((0 : Int), (1 : Int)), ((1 : Int), (2 : Int)), ((0 : Int), (2 : Int))]) ∧ (netE (3 : Int) [((0 : Int), (1 : Int)), ((1 : Int), (2 : Int)), ((0 : Int), (2 : Int))] = (0 : Int) → r_3.fst = loopP (3 : Int) [((0 : Int), (1 : Int)), ((1 : Int), (2 : Int)), ((0 : Int), (2 : Int))] (2 : Int) ∧ r_3.snd.fst = loopE (3 : Int) [((0 : Int), (1 : Int)), ((1 : Int), (2 : Int)), ((0 : Int), (2 : Int))] (2 : Int)) → (sel (sel (sel (decide (r.snd.fst = (0 : Int))) (decide (r_1.snd.fst = (0 : Int))) false) (decide (r_2.snd.fst = (0 : Int))) false) (decide (r_3.snd.fst = (0 : Int))) false = true → True) ∧ ∀ (r_4 : Bool × Unit), (sel (sel (sel (decide (r.snd.fst = (0 : Int))) (decide (r_1.snd.fst = (0 : Int))) false) (decide (r_2.snd.fst = (0 : Int))) false) (decide (r_3.snd.fst = (0 : Int))) false = true → (True ∧ True) ∧ r_4.fst = decide (r.fst = [(0 : Int), (0 : Int), (0 : Int)])) → (sel (sel (sel (sel (decide (r.snd.fst = (0 : Int))) (decide (r_1.snd.fst = (0 : Int))) false) (decide (r_2.snd.fst = (0 : Int))) false) (decide (r_3.snd.fst = (0 : Int))) false) r_4.fst false = true → True) ∧ ∀ (r_5 : Bool × Unit), (sel (sel (sel (sel (decide (r.snd.fst = (0 : Int))) (decide (r_1.snd.fst = (0 : Int))) false) (decide (r_2.snd.fst = (0 : Int))) false) (decide (r_3.snd.fst = (0 : Int))) false) r_4.fst false = true → (True ∧ True) ∧ r_5.fst = decide (r_1.fst = [(0 : Int), (1 : Int)])) → (sel (sel (sel (sel (sel (decide (r.snd.fst = (0 : Int))) (decide (r_1.snd.fst = (0 : Int))) false) (decide (r_2.snd.fst = (0 : Int))) false) (decide (r_3.snd.fst = (0 : Int))) false) r_4.fst false) r_5.fst false = true → True) ∧ ∀ (r_6 : Bool × Unit), (sel (sel (sel (sel (sel (decide (r.snd.fst = (0 : Int))) (decide (r_1.snd.fst = (0 : Int))) false) (decide (r_2.snd.fst = (0 : Int))) false) (decide (r_3.snd.fst = (0 : Int))) false) r_4.fst false) r_5.fst false = true → (True ∧ True) ∧ r_6.fst = decide (r_2.fst = [(0 : Int), (1 : Int)])) → (sel (sel (sel (sel (sel (sel (decide (r.snd.fst = (0 : Int))) (decide (r_1.snd.fst = (0 : Int))) false) (decide (r_2.snd.fst = (0 : Int))) false) (decide (r_3.snd.fst = (0 : Int))) false) r_4.fst false) r_5.fst false) r_6.fst false = true → True) ∧ ∀ (r_7 : QQ × Unit), (sel (sel (sel (sel (sel (sel (decide (r.snd.fst = (0 : Int))) (decide (r_1.snd.fst = (0 : Int))) false) (decide (r_2.snd.fst = (0 : Int))) false) (decide (r_3.snd.fst = (0 : Int))) false) r_4.fst false) r_5.fst false) r_6.fst false = true → (WfQ r_7.fst ∧ True) ∧ r_7.fst = ri (-1 : Int)) → (sel (sel (sel (sel (sel (sel (decide (r.snd.fst = (0 : Int))) (decide (r_1.snd.fst = (0 : Int))) false) (decide (r_2.snd.fst = (0 : Int))) false) (decide (r_3.snd.fst = (0 : Int))) false) r_4.fst false) r_5.fst false) r_6.fst false = true → True) ∧ ∀ (r_8 : QQ × Unit), (sel (sel (sel (sel (sel (sel (decide (r.snd.fst = (0 : Int))) (decide (r_1.snd.fst = (0 : Int))) false) (decide (r_2.snd.fst = (0 : Int))) false) (decide (r_3.snd.fst = (0 : Int))) false) r_4.fst false) r_5.fst false) r_6.fst false = true → (WfQ r_8.fst ∧ True) ∧ r_8.fst = ri (-1 : Int)) → (sel (sel (sel (sel (sel (sel (decide (r.snd.fst = (0 : Int))) (decide (r_1.snd.fst = (0 : Int))) false) (decide (r_2.snd.fst = (0 : Int))) false) (decide (r_3.snd.fst = (0 : Int))) false) r_4.fst false) r_5.fst false) r_6.fst false = true → True) ∧ ∀ (r_9 : QQ × Unit), (sel (sel (sel (sel (sel (sel (decide (r.snd.fst = (0 : Int))) (decide (r_1.snd.fst = (0 : Int))) false) (decide (r_2.snd.fst = (0 : Int))) false) (decide (r_3.snd.fst = (0 : Int))) false) r_4.fst false) r_5.fst false) r_6.fst false = true → (WfQ r_9.fst ∧ True) ∧ r_9.fst = ri (1 : Int)) → (sel (sel (sel (sel (sel (sel (decide (r.snd.fst = (0 : Int))) (decide (r_1.snd.fst = (0 : Int))) false) (decide (r_2.snd.fst = (0 : Int))) false) (decide (r_3.snd.fst = (0 : Int))) false) r_4.fst false) r_5.fst false) r_6.fst false = true → ∀ (e : Int × (Bool × List Int) × List Int), e ∈ r_3.fst → whole e.snd) ∧ ∀ (r_10 : Bool × Unit), (sel (sel (sel (sel (sel (sel (decide (r.snd.fst = (0 : Int))) (decide (r_1.snd.fst = (0 : Int))) false) (decide (r_2.snd.fst = (0 : Int))) false) (decide (r_3.snd.fst = (0 : Int))) false) r_4.fst false) r_5.fst false) r_6.fst false = true → (True ∧ True) ∧ r_10.fst = decide (r_3.fst = [((0 : Int), r_7.fst), ((1 : Int), r_8.fst), ((2 : Int), r_9.fst)] ∧ ∀ (e : Int × (Bool × List Int) × List Int), e ∈ r_3.fst → e.snd = rc (rv e.snd))) → sel (sel (sel (sel (sel (sel (sel (decide (r.snd.fst = (0 : Int))) (decide (r_1.snd.fst = (0 : Int))) false) (decide (r_2.snd.fst = (0 : Int))) false) (decide (r_3.snd.fst = (0 : Int))) false) r_4.fst false) r_5.fst false) r_6.fst false) r_10.fst false = true
theorem vc_law19_awake_eq (x : dens s_law19_awake.args) : semF ⟨Tryz.prog, tys⟩ sp_law19_awake an_law19_awake s_law19_awake Tryz.f10.results.toList (Tryz.f10.body.getD .skip) x = vc_law19_awake x := by kernel_rfl
theorem m_law19_awake (hsp : SpOk Tryz.prog sp_law19_awake) (h : ∀ x, awf s_law19_awake.args x → s_law19_awake.pre x → vc_law19_awake x) : Meets Tryz.prog 10 s_law19_awake := meets_vc (cx := ⟨Tryz.prog, tys⟩) (sp := sp_law19_awake) (an := an_law19_awake) (s := s_law19_awake) (fn := Tryz.f10) (c := Tryz.f10.body.getD .skip) Tryz.func10 (by kernel_rfl) (Nat.le_of_ble_eq_true (by kernel_rfl)) (by kernel_rfl) tys_ok hsp vc_law19_awake_eq h
def vc_law19_TopologyForest : dens s_law19_TopologyForest.args → Prop := fun (x : List Int × Unit) => True ∧ ∀ (r : Int × List (Int × Int) × Unit), In64 r.fst ∧ (List.length r.snd.fst ≤ 9223372036854775807 ∧ ∀ (x : Int × Int), x ∈ r.snd.fst → In64 x.fst ∧ In64 x.snd) ∧ True → netOk r.fst r.snd.fst ∧ r.fst ≤ (7 : Int) ∧ r.snd.fst.length ≤ (12 : Nat) → True ∧ ∀ (r_1 : List Int × Int × Unit), WfI r_1.fst ∧ In64 r_1.snd.fst ∧ True → (r_1.fst = if netE r.fst r.snd.fst = (0 : Int) then forestF r.fst r.snd.fst else []) ∧ r_1.snd.fst = netE r.fst r.snd.fst → True ∧ ∀ (r_2 : List Int × Int × Unit), WfI r_2.fst ∧ In64 r_2.snd.fst ∧ True → (r_2.fst = if netE r.fst r.snd.fst = (0 : Int) then labs r.fst r.snd.fst else []) ∧ r_2.snd.fst = netE r.fst r.snd.fst → True ∧ ∀ (r_3 : Bool × Unit), True ∧ True → r_3.fst = true → (sel (sel (sel (!r_3.fst) true (decide (r_1.snd.fst ≠ (0 : Int)))) true (decide (r_2.snd.fst ≠ (0 : Int)))) true (decide ((↑(List.length r_2.fst) : Int) ≠ r.fst)) = true → false = true) ∧ (sel (sel (sel (!r_3.fst) true (decide (r_1.snd.fst ≠ (0 : Int)))) true (decide (r_2.snd.fst ≠ (0 : Int)))) true (decide ((↑(List.length r_2.fst) : Int) ≠ r.fst)) = false → ∃ (I : Int × Int × Unit → Prop), ∃ (μ : Int × Int × Unit → Nat), I ((0 : Int), (0 : Int), ()) ∧ ∀ (p : Int × Int × Unit), In64 p.fst ∧ In64 p.snd.fst ∧ True → I p → (decide (p.snd.fst < r.fst) = true → ∃ (J : Int × Unit → Prop), (((0 : Int) ≤ p.snd.fst ∧ p.snd.fst < (↑(List.length r_2.fst) : Int)) ∧ (decide (gx (0 : Int) r_2.fst p.snd.fst = p.snd.fst) = true → J (IntKind.i64.wrap (p.fst + (1 : Int)), ())) ∧ (decide (gx (0 : Int) r_2.fst p.snd.fst = p.snd.fst) = false → J (p.fst, ()))) ∧ ∀ (p_1 : Int × Unit), In64 p_1.fst ∧ True → J p_1 → I (p_1.fst, IntKind.i64.wrap (p.snd.fst + (1 : Int)), ()) ∧ μ (p_1.fst, IntKind.i64.wrap (p.snd.fst + (1 : Int)), ()) < μ p) ∧ (decide (p.snd.fst < r.fst) = false → ∃ (I : List (Int × Int) × Int × Unit → Prop), ∃ (μ : List (Int × Int) × Int × Unit → Nat), I ([], (0 : Int), ()) ∧ ∀ (p_1 : List (Int × Int) × Int × Unit), (List.length p_1.fst ≤ 9223372036854775807 ∧ ∀ (x : Int × Int), x ∈ p_1.fst → In64 x.fst ∧ In64 x.snd) ∧ In64 p_1.snd.fst ∧ True → I p_1 → (decide (p_1.snd.fst < (↑(List.length r_1.fst) : Int)) = true → ((0 : Int) ≤ p_1.snd.fst ∧ p_1.snd.fst < (↑(List.length r_1.fst) : Int)) ∧ (sel (decide (gx (0 : Int) r_1.fst p_1.snd.fst < (0 : Int))) true (decide ((↑(List.length r.snd.fst) : Int) ≤ gx (0 : Int) r_1.fst p_1.snd.fst)) = true → false = true) ∧ (sel (decide (gx (0 : Int) r_1.fst p_1.snd.fst < (0 : Int))) true (decide ((↑(List.length r.snd.fst) : Int) ≤ gx (0 : Int) r_1.fst p_1.snd.fst)) = false → ((0 : Int) ≤ gx (0 : Int) r_1.fst p_1.snd.fst ∧ gx (0 : Int) r_1.fst p_1.snd.fst < (↑(List.length r.snd.fst) : Int)) ∧ ((List.length p_1.fst + [gx ((0 : Int), (0 : Int)) r.snd.fst (gx (0 : Int) r_1.fst p_1.snd.fst)].length) * (16 : Nat) ≤ (140737488355328 : Nat) ∧ List.length p_1.fst + [gx ((0 : Int), (0 : Int)) r.snd.fst (gx (0 : Int) r_1.fst p_1.snd.fst)].length ≤ 9223372036854775807) ∧ I (p_1.fst ++ [gx ((0 : Int), (0 : Int)) r.snd.fst (gx (0 : Int) r_1.fst p_1.snd.fst)], IntKind.i64.wrap (p_1.snd.fst + (1 : Int)), ()) ∧ μ (p_1.fst ++ [gx ((0 : Int), (0 : Int)) r.snd.fst (gx (0 : Int) r_1.fst p_1.snd.fst)], IntKind.i64.wrap (p_1.snd.fst + (1 : Int)), ()) < μ p_1)) ∧ (decide (p_1.snd.fst < (↑(List.length r_1.fst) : Int)) = false → True ∧ ∀ (r_4 : List Int × Int × Unit), WfI r_4.fst ∧ In64 r_4.snd.fst ∧ True → (r_4.fst = if netE r.fst p_1.fst = (0 : Int) then labs r.fst p_1.fst else []) ∧ r_4.snd.fst = netE r.fst p_1.fst → List.length p_1.fst ≤ (100000 : Nat) ∧ ∀ (r_5 : List Int × Int × Unit), WfI r_5.fst ∧ In64 r_5.snd.fst ∧ True → (netE r.fst p_1.fst ≠ (0 : Int) → r_5.fst = [] ∧ r_5.snd.fst = netE r.fst p_1.fst) ∧ (netE r.fst p_1.fst = (0 : Int) → r_5.fst = bridgesF r.fst p_1.fst ∧ r_5.snd.fst = (0 : Int)) → (sel (decide ((↑(List.length r_1.fst) : Int) = IntKind.i64.wrap (r.fst - p.fst))) (decide (r_4.snd.fst = (0 : Int))) false = true → True) ∧ ∀ (r_6 : Bool × Unit), (sel (decide ((↑(List.length r_1.fst) : Int) = IntKind.i64.wrap (r.fst - p.fst))) (decide (r_4.snd.fst = (0 : Int))) false = true → (True ∧ True) ∧ r_6.fst = decide (r_2.fst = r_4.fst)) → sel (sel (sel (sel (decide ((↑(List.length r_1.fst) : Int) = IntKind.i64.wrap (r.fst - p.fst))) (decide (r_4.snd.fst = (0 : Int))) false) r_6.fst false) (decide (r_5.snd.fst = (0 : Int))) false) (decide ((↑(List.length r_5.fst) : Int) = (↑(List.length p_1.fst) : Int))) false = true)))
theorem vc_law19_TopologyForest_eq (x : dens s_law19_TopologyForest.args) : semF ⟨Tryz.prog, tys⟩ sp_law19_TopologyForest an_law19_TopologyForest s_law19_TopologyForest Tryz.f3.results.toList (Tryz.f3.body.getD .skip) x = vc_law19_TopologyForest x := by kernel_rfl
theorem m_law19_TopologyForest (hsp : SpOk Tryz.prog sp_law19_TopologyForest) (h : ∀ x, awf s_law19_TopologyForest.args x → s_law19_TopologyForest.pre x → vc_law19_TopologyForest x) : Meets Tryz.prog 3 s_law19_TopologyForest := meets_vc (cx := ⟨Tryz.prog, tys⟩) (sp := sp_law19_TopologyForest) (an := an_law19_TopologyForest) (s := s_law19_TopologyForest) (fn := Tryz.f3) (c := Tryz.f3.body.getD .skip) Tryz.func3 (by kernel_rfl) (Nat.le_of_ble_eq_true (by kernel_rfl)) (by kernel_rfl) tys_ok hsp vc_law19_TopologyForest_eq h
end Go.Proofs.YtppgpdigopffbaaGreat
namespace Go.Proofs.YtppgpdigopffbaaGreat
open Go.Vc Go.Gw
abbrev tri : List Ln := [(0, 1), (1, 2), (0, 2)]
theorem tri_loop : loopP 3 tri 2 = [(0, ri (-1)), (1, ri (-1)), (2, ri 1)] := by
  have e1 : loopP 3 tri 2 = loopF 3 tri 2 := by
    unfold loopP
    rw [if_pos (by decide), if_neg (by decide)]
  have c0 : loopC 3 tri 2 0 = -1 := by decide
  have c1 : loopC 3 tri 2 1 = -1 := by decide
  have c2 : loopC 3 tri 2 2 = 1 := by decide
  rw [e1]
  unfold loopF
  have er : List.range tri.length = [0, 1, 2] := by decide
  rw [er]
  simp [c0, c1, c2]
theorem vc_law19_awake_ok (x : dens s_law19_awake.args) (hw : awf s_law19_awake.args x) (_ : s_law19_awake.pre x) : vc_law19_awake x := by
  have n1 : netE 3 tri = 0 := by decide
  have e2 : (tri.take (Int.toNat 2)).drop (Int.toNat 0) = [(0, 1), (1, 2)] := rfl
  have n2 : netE 3 [(0, 1), (1, 2)] = 0 := by decide
  have l1 : labs 3 tri = [0, 0, 0] := by decide
  have f1 : forestF 3 tri = [0, 1] := by decide
  have b1 : bridgesF 3 [(0, 1), (1, 2)] = [0, 1] := by decide
  have p1 : loopE 3 tri 2 = 0 := by decide
  simp only [vc_law19_awake, e2, n1, n2, l1, f1, b1, p1, tri_loop, if_true]
  refine ⟨trivial, ?_⟩
  rintro ⟨a, e, _⟩ _ ⟨ha, he⟩
  refine ⟨trivial, ?_⟩
  rintro ⟨b, f, _⟩ _ ⟨hb, hf⟩
  refine ⟨⟨by decide, by decide, by decide⟩, by decide, ?_⟩
  rintro ⟨c, g, _⟩ _ ⟨_, hc⟩
  obtain ⟨hc, hg⟩ := hc trivial
  refine ⟨by decide, ?_⟩
  rintro ⟨v, h, _⟩ _ ⟨_, hv⟩
  obtain ⟨hv, hh⟩ := hv trivial
  simp only at ha he hb hf hc hg hv hh ⊢
  subst ha he hb hf hc hg hv hh
  refine ⟨fun _ => trivial, ?_⟩
  rintro ⟨r4, _⟩ h4
  have h4 := (h4 rfl).2
  simp only at h4
  have h4 : r4 = true := by rw [h4]; rfl
  subst h4
  refine ⟨fun _ => trivial, ?_⟩
  rintro ⟨r5, _⟩ h5
  have h5 := (h5 rfl).2
  simp only at h5
  have h5 : r5 = true := by rw [h5]; rfl
  subst h5
  refine ⟨fun _ => trivial, ?_⟩
  rintro ⟨r6, _⟩ h6
  have h6 := (h6 rfl).2
  simp only at h6
  have h6 : r6 = true := by rw [h6]; rfl
  subst h6
  refine ⟨fun _ => trivial, ?_⟩
  rintro ⟨r7, _⟩ h7
  have h7 := (h7 rfl).2
  simp only at h7
  subst h7
  refine ⟨fun _ => trivial, ?_⟩
  rintro ⟨r8, _⟩ h8
  have h8 := (h8 rfl).2
  simp only at h8
  subst h8
  refine ⟨fun _ => trivial, ?_⟩
  rintro ⟨r9, _⟩ h9
  have h9 := (h9 rfl).2
  simp only at h9
  subst h9
  have hwh : ∀ e ∈ [((0 : Int), ri (-1)), (1, ri (-1)), (2, ri 1)], whole e.2 ∧ e.2 = rc (rv e.2) := fun e he => by
    rcases List.mem_cons.1 he with rfl | he
    · exact ⟨whole_ri (by decide), by rw [rv_ri, rc_int]⟩
    · rcases List.mem_cons.1 he with rfl | he
      · exact ⟨whole_ri (by decide), by rw [rv_ri, rc_int]⟩
      · rw [List.mem_singleton.1 he]
        exact ⟨whole_ri (by decide), by rw [rv_ri, rc_int]⟩
  refine ⟨fun _ e he => (hwh e he).1, ?_⟩
  rintro ⟨r10, _⟩ h10
  have h10 := (h10 rfl).2
  simp only at h10
  have h10 : r10 = true := by
    rw [h10]
    exact decide_eq_true ⟨by trivial, fun e he => (hwh e he).2⟩
  subst h10
  rfl
theorem vc_law19_TopologyForest_ok (x : dens s_law19_TopologyForest.args) (hw : awf s_law19_TopologyForest.args x) (hp : s_law19_TopologyForest.pre x) : vc_law19_TopologyForest x := by
  simp only [vc_law19_TopologyForest]
  refine ⟨trivial, ?_⟩
  rintro ⟨n, ls, _⟩ _ ⟨hok, hn7, hl⟩
  change Int at n
  change List (Int × Int) at ls
  have hok : netOk n ls := hok
  obtain ⟨n0, _, nb⟩ := id hok
  have h0 : netE n ls = 0 := netE_ok.2 hok
  refine ⟨trivial, ?_⟩
  rintro ⟨F, e, _⟩ _ ⟨hF, he⟩
  refine ⟨trivial, ?_⟩
  rintro ⟨A, g, _⟩ _ ⟨hA, hg⟩
  refine ⟨trivial, ?_⟩
  rintro ⟨aw, _⟩ _ haw
  simp only at hn7 hl hF he hA hg haw ⊢
  rw [h0] at hF he hA hg
  rw [if_pos rfl] at hF hA
  subst hF he hA hg haw
  have hlab := labs_len n ls
  refine ⟨fun h => ?_, fun _ => ?_⟩
  · rw [hlab, show ((n.toNat : Nat) : Int) = n from by omega] at h
    simp [sel] at h
  refine ⟨fun p => 0 ≤ p.2.1 ∧ p.2.1 ≤ n ∧ p.1 = (((List.range p.2.1.toNat).filter fun (b : Nat) => decide (lat (labs n ls) (b : Int) = (b : Int))).length : Int), fun p => (n - p.2.1).toNat, ⟨Int.le_refl _, n0, rfl⟩, ?_⟩
  rintro ⟨c, b, _⟩ _ ⟨b0, b1, b2⟩
  change Int at c b
  simp only at b0 b1 b2 ⊢
  have hcl : ((List.range b.toNat).filter fun (b : Nat) => decide (lat (labs n ls) (b : Int) = (b : Int))).length ≤ b.toNat := by
    have := List.length_filter_le (fun (b : Nat) => decide (lat (labs n ls) (b : Int) = (b : Int))) (List.range b.toNat)
    rw [List.length_range] at this; exact this
  refine ⟨fun hb => ?_, fun hb => ?_⟩
  · have hb := of_decide_eq_true hb
    have hgl : gx 0 (labs n ls) b = lat (labs n ls) b := gx_getD b0 (by omega)
    refine ⟨fun p => p.1 = (((List.range (b.toNat + 1)).filter fun (b : Nat) => decide (lat (labs n ls) (b : Int) = (b : Int))).length : Int), ⟨⟨b0, by omega⟩, fun hh => ?_, fun hh => ?_⟩, ?_⟩
    · have hh := of_decide_eq_true hh
      rw [hgl] at hh
      show IntKind.i64.wrap (c + 1) = _
      rw [wr (by omega) (by omega), List.range_succ, List.filter_append, List.length_append]
      have : (List.filter (fun (b : Nat) => decide (lat (labs n ls) (b : Int) = (b : Int))) [b.toNat]).length = 1 := by
        rw [List.filter_cons_of_pos (by rw [show ((b.toNat : Nat) : Int) = b from by omega]; exact decide_eq_true hh)]; rfl
      omega
    · have hh := of_decide_eq_false hh
      rw [hgl] at hh
      show c = _
      rw [List.range_succ, List.filter_append, List.length_append]
      have : (List.filter (fun (b : Nat) => decide (lat (labs n ls) (b : Int) = (b : Int))) [b.toNat]).length = 0 := by
        rw [List.filter_cons_of_neg (by rw [show ((b.toNat : Nat) : Int) = b from by omega]; simpa using hh)]; rfl
      omega
    · rintro ⟨d, _⟩ _ hd
      simp only at hd ⊢
      rw [wr (by omega) (by omega), show (b + 1).toNat = b.toNat + 1 from by omega]
      exact ⟨⟨by omega, by omega, hd⟩, by omega⟩
  have hb := of_decide_eq_false hb
  have hcnt : c = (cnt (labs n ls) : Int) := by rw [b2, cnt_eq, hlab, show b.toNat = n.toNat from by omega]
  have hfl : (forestF n ls).length ≤ 16384 := forest_le hok (k := ls.length) (Nat.le_refl _)
  have hflen : (forestF n ls).length + cnt (labs n ls) = n.toNat := forest_len hok
  refine ⟨fun p => 0 ≤ p.2.1 ∧ p.2.1 ≤ ((forestF n ls).length : Int) ∧ p.1 = pick ls ((forestF n ls).take p.2.1.toNat), fun p => (((forestF n ls).length : Int) - p.2.1).toNat, ⟨Int.le_refl _, Int.natCast_nonneg _, rfl⟩, ?_⟩
  rintro ⟨tree, j, _⟩ _ ⟨j0, j1, j2⟩
  change Int at j
  change List (Int × Int) at tree
  simp only at j0 j1 j2 ⊢
  refine ⟨fun hj => ?_, fun hj => ?_⟩
  · have hj := of_decide_eq_true hj
    have hm := forest_mem (gx_mem (d := (0 : Int)) j0 hj)
    have hts : (forestF n ls).take (j + 1).toNat = (forestF n ls).take j.toNat ++ [gx 0 (forestF n ls) j] := by
      rw [show (j + 1).toNat = j.toNat + 1 from by omega, List.take_add_one, gx_get (d := (0 : Int)) j0 hj]; rfl
    generalize gx 0 (forestF n ls) j = i at *
    have hle : gx (0, 0) ls i = lnA ls i := gx_getD hm.1 hm.2
    have htl : tree.length = j.toNat := by rw [j2]; unfold pick; rw [List.length_map, List.length_take]; omega
    refine ⟨⟨j0, hj⟩, fun hr => ?_, fun _ => ⟨hm, ⟨by simp only [List.length_singleton]; omega, by simp only [List.length_singleton]; omega⟩, ?_⟩⟩
    · rw [sel_or] at hr
      simp only [Bool.or_eq_true, decide_eq_true_eq] at hr
      omega
    · rw [wr (by omega) (by omega)]
      refine ⟨⟨by omega, by omega, ?_⟩, by omega⟩
      rw [hts, j2, hle]
      unfold pick
      rw [List.map_append]; rfl
  have hj := of_decide_eq_false hj
  rw [take_all (by omega)] at j2
  subst j2
  have hpi : netOk n (pick ls (forestF n ls)) := ⟨n0, by omega, fun l hl => nb l (pick_mem l hl)⟩
  have hp0 : netE n (pick ls (forestF n ls)) = 0 := netE_ok.2 hpi
  have hpl : (pick ls (forestF n ls)).length = (forestF n ls).length := List.length_map ..
  refine ⟨trivial, ?_⟩
  rintro ⟨B, h, _⟩ _ ⟨hB, hh⟩
  refine ⟨by omega, ?_⟩
  rintro ⟨R, k, _⟩ _ ⟨_, hR⟩
  obtain ⟨hR, hk⟩ := hR hp0
  simp only at hB hh hR hk ⊢
  rw [hp0] at hB hh
  rw [if_pos rfl, forest_labs hok] at hB
  subst hB hh hR hk
  have e1 : decide (((forestF n ls).length : Int) = IntKind.i64.wrap (n - c)) = true := by
    rw [wr (by omega) (by omega)]
    exact decide_eq_true (by omega)
  rw [e1]
  refine ⟨fun _ => trivial, ?_⟩
  rintro ⟨q, _⟩ hq
  have hq := (hq rfl).2
  simp only at hq ⊢
  have hq : q = true := by rw [hq]; exact decide_eq_true (by trivial)
  rw [hq, forest_bridges hok]
  simp [sel]
end Go.Proofs.YtppgpdigopffbaaGreat
namespace Go.Proofs.YtppgpdigopffbaaGreat
open Go.Vc Go.Gw
theorem ok_make_New : Meets Tryz.prog 23 s_make_New := m_make_New (spOk_nil) vc_make_New_ok
theorem ok_make_Mod : Meets Tryz.prog 28 s_make_Mod := m_make_Mod (spOk_nil) vc_make_Mod_ok
theorem ok_make_Tape_Next : Meets Tryz.prog 25 s_make_Tape_Next := m_make_Tape_Next (spOk_cons ok_make_Mod (spOk_nil)) vc_make_Tape_Next_ok
theorem ok_law19_network : Meets Tryz.prog 7 s_law19_network := m_law19_network (spOk_cons ok_make_New (spOk_cons ok_make_Tape_Next (spOk_nil))) vc_law19_network_ok
theorem ok_topology_check : Meets Tryz.prog 30 s_topology_check := m_topology_check (spOk_nil) vc_topology_check_ok
theorem ok_topology_separate : Meets Tryz.prog 32 s_topology_separate := m_topology_separate (spOk_nil) vc_topology_separate_ok
theorem ok_topology_sets_least : Meets Tryz.prog 34 s_topology_sets_least := m_topology_sets_least (spOk_nil) vc_topology_sets_least_ok
theorem ok_topology_sets_join : Meets Tryz.prog 33 s_topology_sets_join := m_topology_sets_join (spOk_cons ok_topology_sets_least (spOk_nil)) vc_topology_sets_join_ok
theorem ok_topology_tree : Meets Tryz.prog 31 s_topology_tree := m_topology_tree (spOk_cons ok_topology_separate (spOk_cons ok_topology_sets_join (spOk_nil))) vc_topology_tree_ok
theorem ok_topology_Forest : Meets Tryz.prog 8 s_topology_Forest := m_topology_Forest (spOk_cons ok_topology_check (spOk_cons ok_topology_tree (spOk_nil))) vc_topology_Forest_ok
theorem ok_topology_Islands : Meets Tryz.prog 9 s_topology_Islands := m_topology_Islands (spOk_cons ok_topology_check (spOk_cons ok_topology_separate (spOk_cons ok_topology_sets_join (spOk_cons ok_topology_sets_least (spOk_nil))))) vc_topology_Islands_ok
theorem ok_topology_roots : Meets Tryz.prog 36 s_topology_roots := m_topology_roots (spOk_nil) vc_topology_roots_ok
theorem ok_cmp_isNaN_int : Meets Tryz.prog 83 s_cmp_isNaN_int := m_cmp_isNaN_int (spOk_nil) vc_cmp_isNaN_int_ok
theorem ok_cmp_Less_int : Meets Tryz.prog 62 s_cmp_Less_int := m_cmp_Less_int (spOk_cons ok_cmp_isNaN_int (spOk_nil)) vc_cmp_Less_int_ok
theorem ok_slices_isNaN_int : Meets Tryz.prog 63 s_slices_isNaN_int := m_slices_isNaN_int (spOk_nil) vc_slices_isNaN_int_ok
theorem ok_slices_BinarySearch_Sint_int : Meets Tryz.prog 38 s_slices_BinarySearch_Sint_int := m_slices_BinarySearch_Sint_int (spOk_cons ok_cmp_Less_int (spOk_cons ok_slices_isNaN_int (spOk_nil))) vc_slices_BinarySearch_Sint_int_ok
theorem ok_topology_Bridges_2 : Meets Tryz.prog 40 s_topology_Bridges_2 := m_topology_Bridges_2 (spOk_nil) vc_topology_Bridges_2_ok
theorem ok_slices_IndexFunc_Sint_int : Meets Tryz.prog 64 s_slices_IndexFunc_Sint_int := m_slices_IndexFunc_Sint_int (spOk_nil) vc_slices_IndexFunc_Sint_int_ok
theorem ok_topology_Bridges : Meets Tryz.prog 11 s_topology_Bridges := m_topology_Bridges (spOk_cons ok_topology_check (spOk_cons ok_topology_tree (spOk_cons ok_topology_roots (spOk_cons ok_slices_BinarySearch_Sint_int (spOk_inl (inl_ok (cx := ⟨Tryz.prog, tys⟩) (fn := Tryz.f37) (c := Tryz.f37.body.getD .skip) Tryz.func37 (by kernel_rfl) (by kernel_rfl) tys_ok (ansOk_cons (spOk_nil) (ansOk_cons (spOk_nil) (ansOk_cons (spOk_nil) (ansOk_nil))))) (spOk_inl (inl_ok (cx := ⟨Tryz.prog, tys⟩) (fn := Tryz.f39) (c := Tryz.f39.body.getD .skip) Tryz.func39 (by kernel_rfl) (by kernel_rfl) tys_ok (ansOk_cons (spOk_cons ok_topology_Bridges_2 (spOk_cons ok_slices_IndexFunc_Sint_int (spOk_nil))) (ansOk_nil))) (spOk_nil))))))) vc_topology_Bridges_ok
theorem ok_help_Equal_int : Meets Tryz.prog 12 s_help_Equal_int := m_help_Equal_int (spOk_nil) vc_help_Equal_int_ok
theorem ok_integer_signed : Meets Tryz.prog 84 s_integer_signed := m_integer_signed (spOk_nil) vc_integer_signed_ok
theorem ok_natural_cut : Meets Tryz.prog 102 s_natural_cut := m_natural_cut (spOk_nil) vc_natural_cut_ok
theorem ok_natural_FromUint64 : Meets Tryz.prog 85 s_natural_FromUint64 := m_natural_FromUint64 (spOk_cons ok_natural_cut (spOk_nil)) vc_natural_FromUint64_ok
theorem ok_integer_FromInt : Meets Tryz.prog 65 s_integer_FromInt := m_integer_FromInt (spOk_cons ok_integer_signed (spOk_cons ok_natural_FromUint64 (spOk_nil))) vc_integer_FromInt_ok
theorem ok_rational_FromInt : Meets Tryz.prog 41 s_rational_FromInt := m_rational_FromInt (spOk_cons ok_integer_FromInt (spOk_nil)) vc_rational_FromInt_ok
theorem ok_natural_Compare : Meets Tryz.prog 106 s_natural_Compare := m_natural_Compare (spOk_cons ok_natural_cut (spOk_nil)) vc_natural_Compare_ok
theorem ok_rational_parts : Meets Tryz.prog 94 s_rational_parts := m_rational_parts (spOk_cons ok_natural_Compare (spOk_nil)) vc_rational_parts_ok
theorem ok_integer_Sign : Meets Tryz.prog 103 s_integer_Sign := m_integer_Sign (spOk_cons ok_natural_Compare (spOk_nil)) vc_integer_Sign_ok
theorem ok_rational_Sign : Meets Tryz.prog 86 s_rational_Sign := m_rational_Sign (spOk_cons ok_rational_parts (spOk_cons ok_integer_Sign (spOk_nil))) vc_rational_Sign_ok
theorem ok_vector_merge : Meets Tryz.prog 66 s_vector_merge := m_vector_merge (spOk_cons ok_rational_Sign (spOk_nil)) vc_vector_merge_ok
theorem ok_vector_ascending : Meets Tryz.prog 87 s_vector_ascending := m_vector_ascending (spOk_nil) vc_vector_ascending_ok
theorem ok_slices_insertionSortCmpFunc_Entry : Meets Tryz.prog 118 s_slices_insertionSortCmpFunc_Entry := m_slices_insertionSortCmpFunc_Entry (spOk_nil) vc_slices_insertionSortCmpFunc_Entry_ok
theorem ok_slices_symMergeCmpFunc_Entry : Meets Tryz.prog 119 s_slices_symMergeCmpFunc_Entry := meets_false fun _ h => h
theorem ok_slices_stableCmpFunc_Entry : Meets Tryz.prog 104 s_slices_stableCmpFunc_Entry := m_slices_stableCmpFunc_Entry (spOk_cons ok_slices_insertionSortCmpFunc_Entry (spOk_cons ok_slices_symMergeCmpFunc_Entry (spOk_nil))) vc_slices_stableCmpFunc_Entry_ok
theorem ok_slices_SortStableFunc_SEntry_Entry : Meets Tryz.prog 88 s_slices_SortStableFunc_SEntry_Entry := m_slices_SortStableFunc_SEntry_Entry (spOk_cons ok_slices_stableCmpFunc_Entry (spOk_nil)) vc_slices_SortStableFunc_SEntry_Entry_ok
theorem ok_cmp_Compare_int : Meets Tryz.prog 105 s_cmp_Compare_int := m_cmp_Compare_int (spOk_cons ok_cmp_isNaN_int (spOk_nil)) vc_cmp_Compare_int_ok
theorem ok_vector_byIndex : Meets Tryz.prog 89 s_vector_byIndex := m_vector_byIndex (spOk_cons ok_cmp_Compare_int (spOk_nil)) vc_vector_byIndex_ok
theorem ok_rational_Add : Meets Tryz.prog 90 s_rational_Add := meets_false fun _ h => h
theorem ok_vector_arrange : Meets Tryz.prog 67 s_vector_arrange := m_vector_arrange (spOk_cons ok_vector_ascending (spOk_cons ok_slices_SortStableFunc_SEntry_Entry (spOk_cons ok_vector_byIndex (spOk_cons ok_rational_Add (spOk_nil))))) vc_vector_arrange_ok
theorem ok_natural_word : Meets Tryz.prog 122 s_natural_word := m_natural_word (spOk_nil) vc_natural_word_ok
theorem ok_natural_Uint64 : Meets Tryz.prog 110 s_natural_Uint64 := m_natural_Uint64 (spOk_cons ok_natural_cut (spOk_cons ok_natural_word (spOk_nil))) vc_natural_Uint64_ok
theorem ok_rational_small : Meets Tryz.prog 91 s_rational_small := m_rational_small (spOk_cons ok_natural_Uint64 (spOk_nil)) vc_rational_small_ok
theorem ok_rational_quotient : Meets Tryz.prog 92 s_rational_quotient := m_rational_quotient (spOk_cons ok_natural_FromUint64 (spOk_nil)) vc_rational_quotient_ok
theorem ok_rational_lowest : Meets Tryz.prog 93 s_rational_lowest := meets_false fun _ h => h
theorem ok_rational_Norm : Meets Tryz.prog 69 s_rational_Norm := m_rational_Norm (spOk_cons ok_rational_small (spOk_cons ok_rational_quotient (spOk_cons ok_rational_lowest (spOk_cons ok_rational_parts (spOk_nil))))) vc_rational_Norm_ok
theorem ok_vector_Norm_1 : Meets Tryz.prog 68 s_vector_Norm_1 := m_vector_Norm_1 (spOk_cons ok_rational_Norm (spOk_nil)) vc_vector_Norm_1_ok
theorem ok_vector_Norm : Meets Tryz.prog 43 s_vector_Norm := m_vector_Norm (spOk_cons ok_vector_merge (spOk_cons ok_vector_arrange (spOk_cons ok_vector_Norm_1 (spOk_nil)))) vc_vector_Norm_ok
theorem ok_topology_Loop : Meets Tryz.prog 13 s_topology_Loop := m_topology_Loop (spOk_cons ok_topology_check (spOk_cons ok_topology_tree (spOk_cons ok_topology_roots (spOk_cons ok_slices_BinarySearch_Sint_int (spOk_cons ok_rational_FromInt (spOk_cons ok_vector_Norm (spOk_inl (inl_ok (cx := ⟨Tryz.prog, tys⟩) (fn := Tryz.f42) (c := Tryz.f42.body.getD .skip) Tryz.func42 (by kernel_rfl) (by kernel_rfl) tys_ok (ansOk_cons (spOk_cons ok_rational_FromInt (spOk_nil)) (ansOk_cons (spOk_cons ok_rational_FromInt (spOk_nil)) (ansOk_nil)))) (spOk_nil)))))))) vc_topology_Loop_ok
theorem ok_r03_Zero : Meets Tryz.prog 21 s_r03_Zero := m_r03_Zero (spOk_nil) vc_r03_Zero_ok
theorem ok_r01_Equal : Meets Tryz.prog 45 s_r01_Equal := m_r01_Equal (spOk_nil) vc_r01_Equal_ok
theorem ok_r01_Trim : Meets Tryz.prog 99 s_r01_Trim := m_r01_Trim (spOk_nil) vc_r01_Trim_ok
theorem ok_r02_Make : Meets Tryz.prog 74 s_r02_Make := m_r02_Make (spOk_cons ok_r01_Trim (spOk_nil)) vc_r02_Make_ok
theorem ok_r02_Norm : Meets Tryz.prog 70 s_r02_Norm := m_r02_Norm (spOk_cons ok_r02_Make (spOk_nil)) vc_r02_Norm_ok
theorem ok_r02_Sign : Meets Tryz.prog 53 s_r02_Sign := m_r02_Sign (spOk_cons ok_r02_Norm (spOk_nil)) vc_r02_Sign_ok
theorem ok_r02_GCD : Meets Tryz.prog 71 s_r02_GCD := meets_false fun _ h => h
theorem ok_r02_DivMod : Meets Tryz.prog 72 s_r02_DivMod := meets_false fun _ h => h
theorem ok_r02_Neg : Meets Tryz.prog 73 s_r02_Neg := m_r02_Neg (spOk_cons ok_r02_Make (spOk_nil)) vc_r02_Neg_ok
theorem ok_r03_Make : Meets Tryz.prog 46 s_r03_Make := m_r03_Make (spOk_cons ok_r03_Zero (spOk_cons ok_r01_Equal (spOk_cons ok_r02_Sign (spOk_cons ok_r02_Norm (spOk_cons ok_r02_GCD (spOk_cons ok_r02_DivMod (spOk_cons ok_r02_Neg (spOk_nil)))))))) vc_r03_Make_ok
theorem ok_r01_FromUint64 : Meets Tryz.prog 75 s_r01_FromUint64 := m_r01_FromUint64 (spOk_cons ok_r01_Trim (spOk_nil)) vc_r01_FromUint64_ok
theorem ok_r02_FromInt : Meets Tryz.prog 47 s_r02_FromInt := m_r02_FromInt (spOk_cons ok_r02_Make (spOk_cons ok_r01_FromUint64 (spOk_nil))) vc_r02_FromInt_ok
theorem ok_r03_FromInt : Meets Tryz.prog 18 s_r03_FromInt := m_r03_FromInt (spOk_cons ok_r03_Make (spOk_cons ok_r02_FromInt (spOk_nil))) vc_r03_FromInt_ok
theorem ok_r02_Equal : Meets Tryz.prog 44 s_r02_Equal := m_r02_Equal (spOk_cons ok_r01_Equal (spOk_nil)) vc_r02_Equal_ok
theorem ok_r03_Equal : Meets Tryz.prog 16 s_r03_Equal := m_r03_Equal (spOk_cons ok_r02_Equal (spOk_cons ok_r01_Equal (spOk_nil))) vc_r03_Equal_ok
theorem ok_r03_Norm : Meets Tryz.prog 48 s_r03_Norm := m_r03_Norm (spOk_cons ok_r03_Make (spOk_nil)) vc_r03_Norm_ok
theorem ok_r03_Canonical : Meets Tryz.prog 61 s_r03_Canonical := m_r03_Canonical (spOk_cons ok_r03_Equal (spOk_cons ok_r03_Norm (spOk_nil))) vc_r03_Canonical_ok
theorem ok_r06_Identical : Meets Tryz.prog 35 s_r06_Identical := m_r06_Identical (spOk_cons ok_r03_Equal (spOk_cons ok_r03_Canonical (spOk_nil))) vc_r06_Identical_ok
theorem ok_law19_awake : Meets Tryz.prog 10 s_law19_awake := m_law19_awake (spOk_cons ok_topology_Forest (spOk_cons ok_topology_Islands (spOk_cons ok_topology_Bridges (spOk_cons ok_help_Equal_int (spOk_cons ok_topology_Loop (spOk_cons ok_r03_FromInt (spOk_cons ok_r06_Identical (spOk_nil)))))))) vc_law19_awake_ok
end Go.Proofs.YtppgpdigopffbaaGreat
namespace Go.Proofs.YtppgpdigopffbaaGreat
open Go.Vc Go.Gw
theorem ok_law19_TopologyForest : Meets Tryz.prog 3 s_law19_TopologyForest := m_law19_TopologyForest (spOk_cons ok_law19_network (spOk_cons ok_topology_Forest (spOk_cons ok_topology_Islands (spOk_cons ok_law19_awake (spOk_cons ok_topology_Bridges (spOk_cons ok_help_Equal_int (spOk_nil))))))) vc_law19_TopologyForest_ok
end Go.Proofs.YtppgpdigopffbaaGreat
