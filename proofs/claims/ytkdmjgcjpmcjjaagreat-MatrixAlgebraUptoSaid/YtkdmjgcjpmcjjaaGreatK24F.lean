/- Part. -/
import Derived.Test.YtkdmjgcjpmcjjaaGreatK24E
namespace Go.Proofs.YtkdmjgcjpmcjjaaGreat
open Go.Vc Go.Gw
theorem B3w (x : A7 D9.args) (hw : awf D9.args x) (_ : D9.pre x) : A1r x := by
  obtain ⟨b, l, _⟩ := x
  change Bool at b
  change List Int at l
  simp only [A1r, U2]
  cases l <;> simp
theorem B0w (x : A7 I0.args) (hw : awf I0.args x) (_ : I0.pre x) : A1b x := by
  obtain ⟨v, _⟩ := x
  change Int at v
  have hv : IntKind.i64.min <= v /\ v <= IntKind.i64.max := hw.1
  rw [B5r, C4a] at hv
  simp only [A1b]
  refine ⟨fun h => ⟨trivial, ?_⟩, fun h => ⟨trivial, ?_⟩⟩
  . rintro ⟨r, _⟩ _ hr
    refine ⟨trivial, ?_⟩
    rintro ⟨s, _⟩ _ hs
    simp only at hr hs ⊢
    have h := of_decide_eq_true h
    have e : (IntKind.u64.wrap (-IntKind.u64.wrap v)).toNat = v.natAbs := by rw [A0z, A0z]; omega
    rw [e] at hr
    subst hs hr
    unfold ic
    rw [decide_eq_true h, Bool.true_and, decide_eq_true (by rw [ne_eq, C4s]; omega)]
  . rintro ⟨r, _⟩ _ hr
    refine ⟨trivial, ?_⟩
    rintro ⟨s, _⟩ _ hs
    simp only at hr hs ⊢
    have h := of_decide_eq_false h
    have e : (IntKind.u64.wrap v).toNat = v.natAbs := by rw [A0z]; omega
    rw [e] at hr
    subst hs hr
    unfold ic
    rw [decide_eq_false h, Bool.false_and]
theorem C1d (x : A7 O1.args) (hw : awf O1.args x) (_ : O1.pre x) : A4p x := by
  obtain ⟨⟨b, l⟩, _⟩ := x
  change Bool at b
  change List Int at l
  simp only [A4p]
  refine ⟨trivial, ?_⟩
  rintro ⟨r, _⟩ _ hr
  simp only at hr ⊢
  rw [E5o] at hr
  refine ⟨fun h => ?_, fun h => ⟨fun hb => ?_, fun hb => ?_⟩⟩
  . have h := of_decide_eq_true h
    have h0 : nv l = 0 := D8g.1 (hr ▸ h)
    unfold iv; simp only [h0]; split <;> rfl
  . have h := of_decide_eq_false h
    have h0 : nv l ≠ 0 := fun e => h (by rw [hr, e]; rfl)
    unfold iv; simp only [hb, if_true]
    rw [Int.sign_neg, Int.sign_eq_one_of_pos (by omega)]
  . have h := of_decide_eq_false h
    have h0 : nv l ≠ 0 := fun e => h (by rw [hr, e]; rfl)
    unfold iv; simp only [hb]
    exact (Int.sign_eq_one_of_pos (by simp; omega)).symm
theorem E1q {neg : Bool} {m : Nat} {v : Int} (h : v = if neg = true then -(m : Int) else (m : Int)) : (neg && decide (nc m ≠ []), nc m) = ic v := by
  have e : ic (iv (neg, nc m)) = (neg && decide (m ≠ 0), nc m) := F7g
  have e2 : iv (neg, nc m) = v := by rw [h]; unfold iv; simp only [H2]
  rw [e2] at e
  rw [e]
  have : decide (nc m ≠ []) = decide (m ≠ 0) := decide_eq_decide.2 (not_congr C4s)
  rw [this]
theorem B9b (x : A7 O2.args) (hw : awf O2.args x) (hp : O2.pre x) : A4c x := by
  obtain ⟨⟨b, l⟩, _⟩ := x
  change Bool at b
  change List Int at l
  simp only [A4c]
  refine ⟨hp, ?_⟩
  rintro ⟨r, _⟩ _ hr
  refine ⟨trivial, ?_⟩
  rintro ⟨z, _⟩ _ hz
  simp only at hr hz ⊢
  subst hr
  rw [hz]; exact E1q rfl
theorem C4d (x : A7 P8.args) (hw : awf P8.args x) (hp : P8.pre x) : A6i x := by
  obtain ⟨⟨b, l⟩, ⟨c, k⟩, _⟩ := x
  change Bool at b c
  change List Int at l k
  obtain ⟨hl, hk⟩ : sh1 l /\ sh1 k := hp
  simp only [A6i]
  refine ⟨fun h => ?_, fun h => ?_⟩
  . refine ⟨⟨hl, hk⟩, ?_⟩
    rintro ⟨r, _⟩ _ hr
    refine ⟨trivial, ?_⟩
    rintro ⟨z, _⟩ _ hz
    simp only at hr hz ⊢
    have h : b = c := by simpa using h
    subst hr h
    rw [hz]; refine E1q ?_
    unfold iv
    cases b <;> simp <;> omega
  . have h : c = !b := by cases b <;> cases c <;> simp_all
    subst h
    refine ⟨⟨hl, hk⟩, ?_⟩
    rintro ⟨r, ok, _⟩ _ hr
    simp only at hr ⊢
    refine ⟨fun h1 => ⟨trivial, ?_⟩, fun h1 => ⟨⟨hk, hl⟩, ?_⟩⟩
    . rintro ⟨z, _⟩ _ hz
      simp only at hz ⊢
      rcases Nat.lt_or_ge (nv l) (nv k) with h2 | h2
      . rw [(hr.1 h2).2] at h1; exact absurd h1 (by decide)
      . rw [(hr.2 h2).1] at hz
        rw [hz]; refine E1q ?_
        unfold iv
        cases b <;> simp <;> omega
    . rintro ⟨s, ok2, _⟩ _ hs
      refine ⟨trivial, ?_⟩
      rintro ⟨z, _⟩ _ hz
      simp only at hs hz ⊢
      rcases Nat.lt_or_ge (nv l) (nv k) with h2 | h2
      . rw [(hs.2 (by omega)).1] at hz
        rw [hz]; refine E1q ?_
        unfold iv
        cases b <;> simp <;> omega
      . rw [(hr.2 h2).2] at h1; exact absurd h1 (by decide)
theorem C1i (x : A7 N4.args) (hw : awf N4.args x) (hp : N4.pre x) : A6o x := by
  obtain ⟨⟨b, l⟩, ⟨c, k⟩, _⟩ := x
  change Bool at b c
  change List Int at l k
  obtain ⟨hl, hk⟩ : sh1 l /\ sh1 k := hp
  simp only [A6o]
  refine ⟨⟨hl, hk⟩, ?_⟩
  rintro ⟨r, _⟩ _ hr
  refine ⟨trivial, ?_⟩
  rintro ⟨z, _⟩ _ hz
  simp only at hr hz ⊢
  subst hr
  rw [hz]
  refine E1q ?_
  unfold iv
  cases b <;> cases c <;> simp <;> grind
def B5q : An := {}
def A4m : B6 := [(136, I0)]
def C2x : An := { plan := [(3, [1], [4], false, (.p 0 (.q 1 (.p 2 (.or 3 (.e 4 (.p 5 .done)) (.e 4 (.e 3 (.p 5 .done))))))))] }
def A6s : B6 := [(172, C8)]
def C5s : An := {}
def A9r : B6 := [(139, E5), (198, O1)]
def C4l : An := {}
def A7y : B6 := [(181, J8)]
def B4j : An := { join := [(4, ⟨[0, 1, 4], [0], [(5, false, [.val (.int .u64)])], [], []⟩)], loop := [(5, ⟨[0, 1, 4, 5], [0], [(6, false, [.val (.int .u64)]), (7, false, [.val (.int .u64)])], [], []⟩)], plan := [(6, [], [], true, (.p 0 (.p 1 (.p 2 (.p 3 (.p 4 (.p 5 .done))))))), (7, [], [13], true, (.p 0 (.p 1 (.p 2 (.p 3 (.p 4 (.p 7 (.p 8 (.p 9 (.p 10 (.e 5 (.p 6 (.e 11 (.p 12 (.e 13 .done)))))))))))))))] }
def A3m : B6 := [(180, C4)]
def B8b : An := { join := [(8, ⟨[2, 4], [1], [(1, false, [.val (.sl (.int .u32))])], [(0, 29, [.val .bool, .val (.sl (.int .u32))])], []⟩)] }
def A5w : B6 := [(182, O2), (183, F6), (184, O8), (185, H6)]
def C5q : An := {}
def A9j : B6 := [(137, F8), (138, D6), (139, E5), (140, E7)]
def Y8 : A7 G5.args -> Prop := fun (x : Int × Unit) => True /\ ∀ (r : (Bool × List Int) × Unit), WfZ r.1 /\ True -> r.1 = ic x.1 -> (r.1, [(1 : Int)]) = ri x.1
theorem B0d (x : A7 G5.args) : K8 Tryz.prog tys A4m B5q G5 Tryz.f70 x = Y8 x := by kernel_rfl
def A1t : A7 E5.args -> Prop := fun (x : QQ × Unit) => True /\ ∀ (r : Int × Unit), G2 r.1 /\ True -> r.1 = B7b (nv x.1.2) (nv []) -> (decide (r.1 = 0) = true -> (nv x.1.2 = 0 -> (false, []) = zi /\ [(1 : Int)] = [(1 : Int)]) /\ (nv x.1.2 ≠ 0 -> (false, []) = x.1.1 /\ [(1 : Int)] = x.1.2)) /\ (decide (r.1 = 0) = false -> ((nv x.1.2 = 0 -> x.1.1 = zi /\ x.1.2 = [(1 : Int)]) /\ (nv x.1.2 ≠ 0 -> x.1.1 = x.1.1 /\ x.1.2 = x.1.2)) /\ (nv x.1.2 = 0 -> x.1.1 = zi /\ x.1.2 = [(1 : Int)]) /\ (nv x.1.2 ≠ 0 -> x.1.1 = x.1.1 /\ x.1.2 = x.1.2))
theorem B3p (x : A7 E5.args) : K8 Tryz.prog tys A6s C2x E5 Tryz.f139 x = A1t x := by kernel_rfl
def A3j : A7 E2.args -> Prop := fun (x : QQ × Unit) => True /\ ∀ (r : (Bool × List Int) × List Int × Unit), WfZ r.1 /\ WfU r.2.1 /\ True -> (nv x.1.2 = 0 -> r.1 = zi /\ r.2.1 = [(1 : Int)]) /\ (nv x.1.2 ≠ 0 -> r.1 = x.1.1 /\ r.2.1 = x.1.2) -> True /\ ∀ (a : Int × Unit), G2 a.1 /\ True -> a.1 = (iv r.1).sign -> a.1 = (rv x.1).num.sign
theorem B5p (x : A7 E2.args) : K8 Tryz.prog tys A9r C5s E2 Tryz.f160 x = A3j x := by kernel_rfl
def A1o : A7 F8.args -> Prop := fun (x : QQ × Unit) => True /\ ∀ (r : Int × Bool × Unit), K9 r.1 /\ True /\ True -> (nv x.1.1.2 < 18446744073709551616 -> r.1 = (↑(nv x.1.1.2) : Int) /\ r.2.1 = true) /\ ((18446744073709551616 : Nat) <= nv x.1.1.2 -> r.2.1 = false) -> True /\ ∀ (a : Int × Bool × Unit), K9 a.1 /\ True /\ True -> (nv x.1.2 < 18446744073709551616 -> a.1 = (↑(nv x.1.2) : Int) /\ a.2.1 = true) /\ ((18446744073709551616 : Nat) <= nv x.1.2 -> a.2.1 = false) -> (sel (sel (sel (!r.2.1) true !a.2.1) true (decide (2147483648 <= r.1))) true (decide (2147483648 <= a.1)) = true -> (O4 x.1 -> (0 : Int) = D8p x.1 /\ (0 : Int) = D3y x.1 /\ false = true) /\ (¬O4 x.1 -> false = false)) /\ (sel (sel (sel (!r.2.1) true !a.2.1) true (decide (2147483648 <= r.1))) true (decide (2147483648 <= a.1)) = false -> (decide (a.1 = 0) = true -> (O4 x.1 -> (0 : Int) = D8p x.1 /\ (1 : Int) = D3y x.1 /\ true = true) /\ (¬O4 x.1 -> true = false)) /\ (decide (a.1 = 0) = false -> (x.1.1.1 = true -> (O4 x.1 -> IntKind.i64.wrap (-IntKind.i64.wrap r.1) = D8p x.1 /\ IntKind.i64.wrap a.1 = D3y x.1 /\ true = true) /\ (¬O4 x.1 -> true = false)) /\ (x.1.1.1 = false -> (O4 x.1 -> IntKind.i64.wrap r.1 = D8p x.1 /\ IntKind.i64.wrap a.1 = D3y x.1 /\ true = true) /\ (¬O4 x.1 -> true = false))))
theorem B3l (x : A7 F8.args) : K8 Tryz.prog tys A7y C4l F8 Tryz.f137 x = A1o x := by kernel_rfl
def X3 : A7 D6.args -> Prop := fun (x : Int × Int × Unit) => ∃ (J : Int × Unit -> Prop), ((decide (x.1 < 0) = true -> J (IntKind.u64.wrap (-IntKind.u64.wrap x.1), ())) /\ (decide (x.1 < 0) = false -> J (IntKind.u64.wrap x.1, ()))) /\ ∀ (p : Int × Unit), K9 p.1 /\ True -> J p -> ∃ (I : Int × Int × Unit -> Prop), ∃ (μ : Int × Int × Unit -> Nat), I (IntKind.u64.wrap x.2.1, p) /\ ∀ (a : Int × Int × Unit), K9 a.1 /\ K9 a.2.1 /\ True -> I a -> (decide (a.2.1 ≠ 0) = true -> a.2.1 ≠ 0 /\ I (a.2.1, Int.tmod a.1 a.2.1, ()) /\ μ (a.2.1, Int.tmod a.1 a.2.1, ()) < μ a) /\ (decide (a.2.1 ≠ 0) = false -> a.1 ≠ 0 /\ a.1 ≠ 0 /\ True /\ ∀ (r : List Int × Unit), WfU r.1 /\ True -> r.1 = nc (IntKind.u64.wrap (Int.tdiv p.1 a.1)).toNat -> True /\ ∀ (b : List Int × Unit), WfU b.1 /\ True -> b.1 = nc (IntKind.u64.wrap ((IntKind.u64.wrap x.2.1).tdiv a.1)).toNat -> ((decide (x.1 < 0), r.1), b.1) = rc (mkRat x.1 x.2.1.toNat))
theorem A8f (x : A7 D6.args) : K8 Tryz.prog tys A3m B4j D6 Tryz.f138 x = X3 x := by kernel_rfl
def A0p : A7 E7.args -> Prop := fun (x : (Bool × List Int) × List Int × Unit) => sh0 x.1.2 /\ ∀ (r : (Bool × List Int) × Unit), WfZ r.1 /\ True -> r.1 = ic (iv x.1) -> sh0 x.2.1 /\ ∀ (d : List Int × Unit), WfU d.1 /\ True -> d.1 = nc (nv x.2.1) -> (decide ((r.1.2.length : Int) = (0 : Int)) = true -> ((false, []), [(1 : Int)]) = rc (mkRat (iv x.1) (nv x.2.1))) /\ (decide ((r.1.2.length : Int) = (0 : Int)) = false -> (sh2 r.1.2 /\ sh2 d.1) /\ ∀ (a : List Int × Unit), WfU a.1 /\ True -> a.1 = nc ((nv r.1.2).gcd (nv d.1)) -> ∃ (J : List Int × Bool × List Int × Unit -> Prop), ((decide ((a.1.length : Int) ≠ (1 : Int)) = false -> (0 : Int) <= (0 : Int) /\ (0 : Int) < (a.1.length : Int)) /\ (sel (decide ((a.1.length : Int) ≠ (1 : Int))) true (decide (gx (0 : Int) a.1 (0 : Int) ≠ (1 : Int))) = true -> sh1 r.1.2 /\ ∀ (b : List Int × List Int × Bool × Unit), WfU b.1 /\ WfU b.2.1 /\ True /\ True -> (nv a.1 = 0 -> b.1 = [] /\ b.2.1 = [] /\ b.2.2.1 = false) /\ (nv a.1 ≠ 0 -> b.1 = nc (nv r.1.2 / nv a.1) /\ b.2.1 = nc (nv r.1.2 % nv a.1) /\ b.2.2.1 = true) -> sh1 d.1 /\ ∀ (c : List Int × List Int × Bool × Unit), WfU c.1 /\ WfU c.2.1 /\ True /\ True -> (nv a.1 = 0 -> c.1 = [] /\ c.2.1 = [] /\ c.2.2.1 = false) /\ (nv a.1 ≠ 0 -> c.1 = nc (nv d.1 / nv a.1) /\ c.2.1 = nc (nv d.1 % nv a.1) /\ c.2.2.1 = true) -> J (c.1, r.1.1, b.1, ())) /\ (sel (decide ((a.1.length : Int) ≠ (1 : Int))) true (decide (gx (0 : Int) a.1 (0 : Int) ≠ (1 : Int))) = false -> J (d.1, r.1.1, r.1.2, ()))) /\ ∀ (p : List Int × Bool × List Int × Unit), WfU p.1 /\ True /\ WfU p.2.2.1 /\ True -> J p -> ((p.2.1, p.2.2.1), p.1) = rc (mkRat (iv x.1) (nv x.2.1)))
theorem B2g (x : A7 E7.args) : K8 Tryz.prog tys A5w B8b E7 Tryz.f140 x = A0p x := by kernel_rfl
def A3d : A7 E1.args -> Prop := fun (x : QQ × Unit) => True /\ ∀ (r : Int × Int × Bool × Unit), G2 r.1 /\ G2 r.2.1 /\ True /\ True -> (O4 x.1 -> r.1 = D8p x.1 /\ r.2.1 = D3y x.1 /\ r.2.2.1 = true) /\ (¬O4 x.1 -> r.2.2.1 = false) -> (r.2.2.1 = true -> 0 < r.2.1 /\ ∀ (a : QQ × Unit), WfQ a.1 /\ True -> a.1 = rc (mkRat r.1 (Int.toNat r.2.1)) -> a.1 = rc (rv x.1)) /\ (r.2.2.1 = false -> True /\ ∀ (r : (Bool × List Int) × List Int × Unit), WfZ r.1 /\ WfU r.2.1 /\ True -> (nv x.1.2 = 0 -> r.1 = zi /\ r.2.1 = [(1 : Int)]) /\ (nv x.1.2 ≠ 0 -> r.1 = x.1.1 /\ r.2.1 = x.1.2) -> (nv r.2.1 ≠ 0 /\ sh2 r.1.2 /\ sh2 r.2.1) /\ ∀ (a : QQ × Unit), WfQ a.1 /\ True -> a.1 = rc (mkRat (iv r.1) (nv r.2.1)) -> a.1 = rc (rv x.1))
theorem B5y (x : A7 E1.args) : K8 Tryz.prog tys A9j C5q E1 Tryz.f111 x = A3d x := by kernel_rfl
theorem B0j (x : A7 G5.args) (hw : awf G5.args x) (_ : G5.pre x) : Y8 x := by
  obtain ⟨v, _⟩ := x
  simp only [Y8]
  refine ⟨trivial, ?_⟩
  rintro ⟨r, _⟩ _ hr
  simp only at hr ⊢
  rw [hr]; rfl
theorem B3y (x : A7 E5.args) (hw : awf E5.args x) (_ : E5.pre x) : A1t x := by
  obtain ⟨⟨a, l⟩, _⟩ := x
  change List Int at l
  simp only [A1t]
  refine ⟨trivial, ?_⟩
  rintro ⟨r, _⟩ _ hr
  simp only at hr ⊢
  rw [E5o] at hr
  refine ⟨fun h => ?_, fun h => ?_⟩
  . have h0 : nv l = 0 := D8g.1 (hr ▸ of_decide_eq_true h)
    exact ⟨fun _ => ⟨rfl, by trivial⟩, fun h => absurd h0 h⟩
  . have h0 : nv l ≠ 0 := fun e => (of_decide_eq_false h) (by rw [hr, e]; rfl)
    exact ⟨⟨fun h => absurd h h0, fun _ => ⟨by trivial, by trivial⟩⟩, fun h => absurd h h0, fun _ => ⟨by trivial, by trivial⟩⟩
theorem B6o (x : A7 E2.args) (hw : awf E2.args x) (_ : E2.pre x) : A3j x := by
  obtain ⟨⟨a, l⟩, _⟩ := x
  change List Int at l
  simp only [A3j]
  refine ⟨trivial, ?_⟩
  rintro ⟨r, d, _⟩ _ ⟨hr, hr2⟩
  refine ⟨trivial, ?_⟩
  rintro ⟨s, _⟩ _ hs
  simp only at hr hr2 hs ⊢
  rw [hs, <- F8s]
  unfold G3b
  split
  . rename_i h; rw [(hr h).1]; rfl
  . rename_i h; rw [(hr2 h).1]
theorem B3z (x : A7 F8.args) (hw : awf F8.args x) (_ : F8.pre x) : A1o x := by
  obtain ⟨⟨⟨b, a⟩, l⟩, _⟩ := x
  change Bool at b
  change List Int at a l
  simp only [A1o]
  refine ⟨trivial, ?_⟩
  rintro ⟨u, ok, _⟩ _ ⟨h1, h2⟩
  refine ⟨trivial, ?_⟩
  rintro ⟨v, fits, _⟩ _ ⟨h3, h4⟩
  change Int at u v
  change Bool at ok fits
  simp only at h1 h2 h3 h4 ⊢
  have hs : sel (sel (sel (!ok) true !fits) true (decide (2147483648 <= u))) true (decide (2147483648 <= v)) = (!ok || !fits || decide (2147483648 <= u) || decide (2147483648 <= v)) := by simp only [Z6]
  rw [hs]
  have key : (!ok || !fits || decide (2147483648 <= u) || decide (2147483648 <= v)) = false -> O4 ((b, a), l) /\ u = (nv a : Int) /\ v = (nv l : Int) := fun h => by
    simp only [Bool.or_eq_false_iff, Bool.not_eq_false', decide_eq_false_iff_not] at h
    obtain ⟨⟨⟨e1, e2⟩, e3⟩, e4⟩ := h
    have ha : nv a < 18446744073709551616 := by
      rcases Nat.lt_or_ge (nv a) 18446744073709551616 with h | h
      . exact h
      . rw [h2 h] at e1; cases e1
    have hl : nv l < 18446744073709551616 := by
      rcases Nat.lt_or_ge (nv l) 18446744073709551616 with h | h
      . exact h
      . rw [h4 h] at e2; cases e2
    have q1 := (h1 ha).1
    have q3 := (h3 hl).1
    exact ⟨⟨by show nv a < _; omega, by show nv l < _; omega⟩, q1, q3⟩
  have key2 : O4 ((b, a), l) -> (!ok || !fits || decide (2147483648 <= u) || decide (2147483648 <= v)) = false := fun h => by
    obtain ⟨g1, g2⟩ := h
    change nv a < _ at g1
    change nv l < _ at g2
    obtain ⟨q1, q2⟩ := h1 (by omega)
    obtain ⟨q3, q4⟩ := h3 (by omega)
    simp only [Bool.or_eq_false_iff, Bool.not_eq_false', decide_eq_false_iff_not]
    exact ⟨⟨⟨q2, q4⟩, by omega⟩, by omega⟩
  refine ⟨fun h => ⟨fun hs => ?_, fun _ => trivial⟩, fun h => ?_⟩
  . rw [key2 hs] at h; cases h
  . obtain ⟨hsm, hu, hv⟩ := key h
    have hsm' := hsm
    obtain ⟨g1, g2⟩ := hsm
    change nv a < _ at g1
    change nv l < _ at g2
    refine ⟨fun hz => ?_, fun hz => ⟨fun hb => ?_, fun hb => ?_⟩⟩
    . have hz := of_decide_eq_true hz
      have h0 : nv l = 0 := by omega
      exact ⟨fun _ => ⟨by unfold D8p; rw [if_pos h0], by unfold D3y; rw [if_pos h0], trivial⟩, fun h => absurd hsm' h⟩
    . have hz := of_decide_eq_false hz
      have h0 : nv l ≠ 0 := by omega
      refine ⟨fun _ => ⟨?_, ?_, trivial⟩, fun h => absurd hsm' h⟩
      . unfold D8p; rw [if_neg h0, wr (a := u) (by omega) (by omega), wr (by omega) (by omega)]
        unfold iv; simp only [hb, if_true]; omega
      . unfold D3y; rw [if_neg h0, wr (by omega) (by omega)]; exact hv
    . have hz := of_decide_eq_false hz
      have h0 : nv l ≠ 0 := by omega
      refine ⟨fun _ => ⟨?_, ?_, trivial⟩, fun h => absurd hsm' h⟩
      . unfold D8p; rw [if_neg h0, wr (a := u) (by omega) (by omega)]
        unfold iv; simp only [hb]; simpa using hu
      . unfold D3y; rw [if_neg h0, wr (by omega) (by omega)]; exact hv
theorem A8b (x : A7 D6.args) (hw : awf D6.args x) (hp : D6.pre x) : X3 x := by
  obtain ⟨n, d, _⟩ := x
  change Int at n d
  have d0 : 0 < d := hp
  have hn := (show IntKind.i64.min <= n /\ n <= IntKind.i64.max from hw.1)
  have hd1 := (show IntKind.i64.min <= d /\ d <= IntKind.i64.max from hw.2.1)
  rw [B5r, C4a] at hn hd1
  obtain ⟨n0, n1⟩ := hn
  have d1 := hd1.2
  have i1 : IntKind.i64.min = -9223372036854775808 := B5r
  simp only [X3]
  refine ⟨fun p => p.1 = (n.natAbs : Int), ⟨fun h => ?_, fun h => ?_⟩, ?_⟩
  . have h := of_decide_eq_true h
    show IntKind.u64.wrap (-IntKind.u64.wrap n) = _
    rw [A0z, A0z]; omega
  . have h := of_decide_eq_false h
    show IntKind.u64.wrap n = _
    rw [A0z]; omega
  rintro ⟨s, _⟩ _ hs
  simp only at hs ⊢
  subst hs
  have hd : IntKind.u64.wrap d = d := w64 (by omega) (by omega)
  refine ⟨fun p => 0 <= p.1 /\ 0 <= p.2.1 /\ (p.1 ≠ 0 \/ p.2.1 ≠ 0) /\ p.1.toNat.gcd p.2.1.toNat = d.toNat.gcd n.natAbs, fun p => p.2.1.toNat, ?_, ?_⟩
  . refine ⟨by omega, by show (0 : Int) <= (n.natAbs : Int); omega, .inl (by omega), ?_⟩
    rw [hd]; rfl
  rintro ⟨g, t, _⟩ _ ⟨h0, h1, h2, h3⟩
  change Int at g t
  simp only at h0 h1 h2 h3 ⊢
  refine ⟨fun h => ?_, fun h => ?_⟩
  . have h := of_decide_eq_true h
    have e : Int.tmod g t = g % t := Int.tmod_eq_emod_of_nonneg h0
    have e2 := Int.emod_nonneg g h
    have e3 := Int.emod_lt_of_pos g (b := t) (by omega)
    rw [e]
    refine ⟨h, ⟨h1, e2, .inl h, ?_⟩, by omega⟩
    rw [<- h3, Int.toNat_emod h0 h1, Nat.gcd_comm t.toNat, <- Nat.gcd_rec, Nat.gcd_comm]
  . have h : t = 0 := by simpa using h
    subst h
    have hg : g ≠ 0 := by omega
    refine ⟨hg, hg, trivial, ?_⟩
    rintro ⟨r, _⟩ _ hr
    refine ⟨trivial, ?_⟩
    rintro ⟨q, _⟩ _ hq
    simp only at hr hq ⊢
    have hG : g.toNat = d.toNat.gcd n.natAbs := by rw [<- h3]; simp
    have hgp : 0 < g := by omega
    have hge : g = ((d.toNat.gcd n.natAbs : Nat) : Int) := by omega
    obtain ⟨hn, hdn⟩ := A8j (x := n) (d := d.toNat) (by omega)
    have e1 : (IntKind.u64.wrap (Int.tdiv (n.natAbs : Int) g)).toNat = n.natAbs / d.toNat.gcd n.natAbs := by
      rw [IntWalk.u64_quo _ _ ⟨by omega, by omega, by omega⟩, hge, <- Int.natCast_ediv, Int.toNat_natCast]
    have e2 : (IntKind.u64.wrap (Int.tdiv d g)).toNat = d.toNat / d.toNat.gcd n.natAbs := by
      rw [IntWalk.u64_quo _ _ ⟨by omega, by omega, by omega⟩, hge]
      conv => lhs; rw [show d = ((d.toNat : Nat) : Int) from by omega]
      rw [<- Int.natCast_ediv, Int.toNat_natCast]; simp only [Int.toNat_natCast]
    rw [hr, hq, hd, e1, e2]
    unfold rc
    rw [hn, hdn]
    unfold ic
    have hdvd : ((d.toNat.gcd n.natAbs : Nat) : Int) ∣ n := Int.ofNat_dvd_left.2 (Nat.gcd_dvd_right ..)
    have hgN : 0 < d.toNat.gcd n.natAbs := by omega
    generalize d.toNat.gcd n.natAbs = G at hdvd hgN
    obtain ⟨c, rfl⟩ := hdvd
    rw [Int.mul_ediv_cancel_left _ (by omega)]
    have hsgn : (G : Int) * c < 0 ↔ c < 0 := by
      constructor
      . intro h
        rcases Int.lt_or_le c 0 with h1 | h1
        . exact h1
        . have := Int.mul_nonneg (Int.le_of_lt (Int.ofNat_lt.2 hgN)) h1; omega
      . intro h
        exact Int.mul_neg_of_pos_of_neg (by omega) h
    rw [Int.natAbs_mul, Int.natAbs_natCast, Nat.mul_div_cancel_left _ hgN]
    simp only [hsgn]
theorem D0z (x : X5) : mkRat (D8p x) (D3y x).toNat = rv x := by
  unfold D8p D3y rv
  split
  . rename_i h; rw [h, Rat.mkRat_zero]; rfl
  . rename_i h; rw [Int.toNat_natCast]
theorem F3b (x : X5) : 0 < D3y x := by
  unfold D3y; split
  . decide
  . omega
theorem B1a (x : A7 E7.args) (hw : awf E7.args x) (hp : E7.pre x) : A0p x := by
  obtain ⟨⟨b, l⟩, k, _⟩ := x
  have hl : A9 l := A5 hw.1.2.2
  have hk : A9 k := A5 hw.2.1.2
  change Bool at b
  change List Int at l k
  obtain ⟨hD, ll, lk⟩ : nv k ≠ 0 /\ l.length <= 8796093022208 /\ k.length <= 8796093022208 := hp
  simp only [A0p]
  have nl := C5 hl
  have nk := C5 hk
  refine ⟨by show l.length <= 35184372088832; omega, ?_⟩
  rintro ⟨⟨s, r⟩, _⟩ _ hr
  refine ⟨by show k.length <= 35184372088832; omega, ?_⟩
  rintro ⟨d, _⟩ _ hd
  simp only at hr hd ⊢
  have hrs : s = decide (iv (b, l) < 0) := congrArg (·.1) hr
  have hr2 : r = nc (iv (b, l)).natAbs := congrArg (·.2) hr
  have ea : (iv (b, l)).natAbs = nv l := L7 _
  have hrv : nv r = (iv (b, l)).natAbs := by rw [hr2, H2]
  have hdv : nv d = nv k := by rw [hd, H2]
  have hrl : r.length <= l.length := by rw [hr2, ea]; exact nl
  have hdl : d.length <= k.length := by rw [hd]; exact nk
  refine ⟨fun h => ?_, fun h => ?_⟩
  . have h := of_decide_eq_true h
    have h0 : r = [] := List.eq_nil_of_length_eq_zero (by omega)
    rw [h0, E5o] at hrv
    have : iv (b, l) = 0 := Int.natAbs_eq_zero.1 hrv.symm
    rw [this, Rat.zero_mkRat, F0m]
  have h := of_decide_eq_false h
  refine ⟨⟨by omega, by omega⟩, ?_⟩
  rintro ⟨g, _⟩ _ hg
  simp only at hg ⊢
  rw [hrv, hdv] at hg
  have hg0 : Nat.gcd (iv (b, l)).natAbs (nv k) ≠ 0 := Nat.ne_of_gt (Nat.gcd_pos_of_pos_right _ (Nat.pos_of_ne_zero hD))
  have hgv : nv g = Nat.gcd (iv (b, l)).natAbs (nv k) := by rw [hg, H2]
  refine ⟨fun p => ((p.2.1, p.2.2.1), p.1) = rc (mkRat (iv (b, l)) (nv k)), ⟨fun h1 => ?_, fun h1 => ?_, fun h1 => ?_⟩, ?_⟩
  . have h1 := of_decide_eq_false h1
    exact ⟨Int.le_refl _, by omega⟩
  . refine ⟨by show r.length <= _; omega, ?_⟩
    rintro ⟨q, m, ok, _⟩ _ hq
    refine ⟨by show d.length <= _; omega, ?_⟩
    rintro ⟨q', m', ok', _⟩ _ hq'
    simp only at hq hq' ⊢
    rw [E5c hD, (hq.2 (by omega)).1, (hq'.2 (by omega)).1, hrv, hdv, hgv, hrs]
  . have h1 : g.length = 1 /\ gx 0 g 0 = 1 := by
      rw [Z6] at h1
      simp only [Bool.or_eq_false_iff, decide_eq_false_iff_not] at h1
      omega
    obtain ⟨z, rfl⟩ : ∃ z, g = [z] := List.length_eq_one_iff.1 h1.1
    have hz : z = 1 := h1.2
    subst hz
    have h2 : Nat.gcd (iv (b, l)).natAbs (nv k) = 1 := by rw [<- hgv]; rfl
    rw [F7z hD h2]
    show ((s, r), d) = _
    rw [hd, <- hr]
  . rintro ⟨a, s', c, _⟩ _ hJ
    exact hJ
theorem B5k (x : A7 E1.args) (hw : awf E1.args x) (hp : E1.pre x) : A3d x := by
  obtain ⟨q, _⟩ := x
  change X5 at q
  obtain ⟨h1, h2⟩ : q.1.2.length <= 2199023255552 /\ q.2.length <= 2199023255552 := hp
  simp only [A3d]
  refine ⟨trivial, ?_⟩
  rintro ⟨n, d, ok, _⟩ _ ⟨s1, s2⟩
  change Int at n d
  simp only at s1 s2 ⊢
  refine ⟨fun h => ?_, fun h => ⟨trivial, ?_⟩⟩
  . have hs : O4 q := Decidable.byContradiction fun hn => by rw [s2 hn] at h; cases h
    obtain ⟨rfl, rfl, _⟩ := s1 hs
    refine ⟨F3b q, ?_⟩
    rintro ⟨r, _⟩ _ hr
    simp only at hr ⊢
    rw [hr, D0z]
  . rintro ⟨n', d', _⟩ _ hpq
    simp only at hpq ⊢
    obtain ⟨hd0, hv⟩ := C0e hpq
    obtain ⟨l1, l2⟩ := B1v (k := 2199023255552) hpq h1 h2 (by decide)
    refine ⟨⟨hd0, by show n'.2.length <= _; omega, by show d'.length <= _; omega⟩, ?_⟩
    rintro ⟨r, _⟩ _ hr
    simp only at hr ⊢
    rw [hr, hv]
def C9y : An := { plan := [(13, [0, 4], [10], true, (.q 0 (.p 1 (.p 2 (.q 4 (.p 5 (.p 6 (.or 3 (.or 7 (.or 8 (.e 9 (.e 10 .done)) (.e 9 (.e 8 (.e 10 .done)))) (.e 9 (.e 7 (.e 8 (.e 10 .done))))) (.e 9 (.e 3 (.e 7 (.e 8 (.e 10 .done))))))))))))), (14, [0], [5], true, (.q 0 (.p 1 (.p 2 (.e 3 (.e 4 (.e 5 .done)))))))] }
def B0o : B6 := [(111, E1), (137, F8), (138, D6), (139, E5), (140, E7), (141, N4), (142, J3), (160, E2), (172, C8), (173, P8)]
def C9g : An := {}
def B2c : B6 := [(137, F8), (138, D6), (139, E5), (140, E7), (141, N4), (142, J3)]
def C8x : An := {}
def B0t : B6 := [(111, E1), (143, P7)]
def C7v : An := {}
def B2t : B6 := [(111, E1), (160, E2)]
def A4t : A7 H4.args -> Prop := fun (x : QQ × QQ × Unit) => True /\ ∀ (r : Int × Unit), G2 r.1 /\ True -> r.1 = (rv x.1).num.sign -> (decide (r.1 = 0) = true -> sh3 x.2.1 /\ ∀ (r : QQ × Unit), WfQ r.1 /\ True -> r.1 = rc (rv x.2.1) -> r.1 = rc (rv x.1 + rv x.2.1)) /\ (decide (r.1 = 0) = false -> True /\ ∀ (r : Int × Unit), G2 r.1 /\ True -> r.1 = (rv x.2.1).num.sign -> (decide (r.1 = 0) = true -> sh3 x.1 /\ ∀ (r : QQ × Unit), WfQ r.1 /\ True -> r.1 = rc (rv x.1) -> r.1 = rc (rv x.1 + rv x.2.1)) /\ (decide (r.1 = 0) = false -> True /\ ∀ (r : Int × Int × Bool × Unit), G2 r.1 /\ G2 r.2.1 /\ True /\ True -> (O4 x.1 -> r.1 = D8p x.1 /\ r.2.1 = D3y x.1 /\ r.2.2.1 = true) /\ (¬O4 x.1 -> r.2.2.1 = false) -> True /\ ∀ (f : Int × Int × Bool × Unit), G2 f.1 /\ G2 f.2.1 /\ True /\ True -> (O4 x.2.1 -> f.1 = D8p x.2.1 /\ f.2.1 = D3y x.2.1 /\ f.2.2.1 = true) /\ (¬O4 x.2.1 -> f.2.2.1 = false) -> (sel r.2.2.1 f.2.2.1 false = true -> (0 : Int) < IntKind.i64.wrap (r.2.1 * f.2.1) /\ ∀ (a : QQ × Unit), WfQ a.1 /\ True -> a.1 = rc (mkRat (IntKind.i64.wrap (IntKind.i64.wrap (r.1 * f.2.1) + IntKind.i64.wrap (f.1 * r.2.1))) (IntKind.i64.wrap (r.2.1 * f.2.1)).toNat) -> a.1 = rc (rv x.1 + rv x.2.1)) /\ (sel r.2.2.1 f.2.2.1 false = false -> True /\ ∀ (r : (Bool × List Int) × List Int × Unit), WfZ r.1 /\ WfU r.2.1 /\ True -> (nv x.1.2 = 0 -> r.1 = zi /\ r.2.1 = [(1 : Int)]) /\ (nv x.1.2 ≠ 0 -> r.1 = x.1.1 /\ r.2.1 = x.1.2) -> True /\ ∀ (a : (Bool × List Int) × List Int × Unit), WfZ a.1 /\ WfU a.2.1 /\ True -> (nv x.2.1.2 = 0 -> a.1 = zi /\ a.2.1 = [(1 : Int)]) /\ (nv x.2.1.2 ≠ 0 -> a.1 = x.2.1.1 /\ a.2.1 = x.2.1.2) -> True /\ ∀ (g : Int × Unit), G2 g.1 /\ True -> g.1 = B7b (nv r.2.1) (nv a.2.1) -> (decide (g.1 = 0) = true -> (sh1 r.1.2 /\ sh1 a.1.2) /\ ∀ (e : (Bool × List Int) × Unit), WfZ e.1 /\ True -> e.1 = ic (iv r.1 + iv a.1) -> (nv r.2.1 ≠ 0 /\ sh2 e.1.2 /\ sh2 r.2.1) /\ ∀ (c : QQ × Unit), WfQ c.1 /\ True -> c.1 = rc (mkRat (iv e.1) (nv r.2.1)) -> c.1 = rc (rv x.1 + rv x.2.1)) /\ (decide (g.1 = 0) = false -> ((sh1 r.1.2 /\ sh1 a.2.1) /\ ∀ (e : (Bool × List Int) × Unit), WfZ e.1 /\ True -> e.1 = ic (iv r.1 * iv (false, a.2.1)) -> ((sh1 a.1.2 /\ sh1 r.2.1) /\ ∀ (c : (Bool × List Int) × Unit), WfZ c.1 /\ True -> c.1 = ic (iv a.1 * iv (false, r.2.1)) -> ((sh1 e.1.2 /\ sh1 c.1.2) /\ ∀ (d : (Bool × List Int) × Unit), WfZ d.1 /\ True -> d.1 = ic (iv e.1 + iv c.1) -> (sh1 r.2.1 /\ sh1 a.2.1) /\ ∀ (b : List Int × Unit), WfU b.1 /\ True -> b.1 = nc (nv r.2.1 * nv a.2.1) -> (nv b.1 ≠ 0 /\ sh2 d.1.2 /\ sh2 b.1) /\ ∀ (r : QQ × Unit), WfQ r.1 /\ True -> r.1 = rc (mkRat (iv d.1) (nv b.1)) -> r.1 = rc (rv x.1 + rv x.2.1)) /\ (sh1 e.1.2 /\ sh1 c.1.2) /\ ∀ (d : (Bool × List Int) × Unit), WfZ d.1 /\ True -> d.1 = ic (iv e.1 + iv c.1) -> (sh1 r.2.1 /\ sh1 a.2.1) /\ ∀ (b : List Int × Unit), WfU b.1 /\ True -> b.1 = nc (nv r.2.1 * nv a.2.1) -> (nv b.1 ≠ 0 /\ sh2 d.1.2 /\ sh2 b.1) /\ ∀ (r : QQ × Unit), WfQ r.1 /\ True -> r.1 = rc (mkRat (iv d.1) (nv b.1)) -> r.1 = rc (rv x.1 + rv x.2.1)) /\ (sh1 a.1.2 /\ sh1 r.2.1) /\ ∀ (c : (Bool × List Int) × Unit), WfZ c.1 /\ True -> c.1 = ic (iv a.1 * iv (false, r.2.1)) -> (sh1 e.1.2 /\ sh1 c.1.2) /\ ∀ (d : (Bool × List Int) × Unit), WfZ d.1 /\ True -> d.1 = ic (iv e.1 + iv c.1) -> (sh1 r.2.1 /\ sh1 a.2.1) /\ ∀ (b : List Int × Unit), WfU b.1 /\ True -> b.1 = nc (nv r.2.1 * nv a.2.1) -> (nv b.1 ≠ 0 /\ sh2 d.1.2 /\ sh2 b.1) /\ ∀ (r : QQ × Unit), WfQ r.1 /\ True -> r.1 = rc (mkRat (iv d.1) (nv b.1)) -> r.1 = rc (rv x.1 + rv x.2.1)) /\ (sh1 r.1.2 /\ sh1 a.2.1) /\ ∀ (e : (Bool × List Int) × Unit), WfZ e.1 /\ True -> e.1 = ic (iv r.1 * iv (false, a.2.1)) -> (sh1 a.1.2 /\ sh1 r.2.1) /\ ∀ (c : (Bool × List Int) × Unit), WfZ c.1 /\ True -> c.1 = ic (iv a.1 * iv (false, r.2.1)) -> (sh1 e.1.2 /\ sh1 c.1.2) /\ ∀ (d : (Bool × List Int) × Unit), WfZ d.1 /\ True -> d.1 = ic (iv e.1 + iv c.1) -> (sh1 r.2.1 /\ sh1 a.2.1) /\ ∀ (b : List Int × Unit), WfU b.1 /\ True -> b.1 = nc (nv r.2.1 * nv a.2.1) -> (nv b.1 ≠ 0 /\ sh2 d.1.2 /\ sh2 b.1) /\ ∀ (r : QQ × Unit), WfQ r.1 /\ True -> r.1 = rc (mkRat (iv d.1) (nv b.1)) -> r.1 = rc (rv x.1 + rv x.2.1)))))
theorem B9t (x : A7 H4.args) : K8 Tryz.prog tys B0o C9y H4 Tryz.f122 x = A4t x := by kernel_rfl
def A4q : A7 J1.args -> Prop := fun (x : QQ × QQ × Unit) => True /\ ∀ (r : Int × Int × Bool × Unit), G2 r.1 /\ G2 r.2.1 /\ True /\ True -> (O4 x.1 -> r.1 = D8p x.1 /\ r.2.1 = D3y x.1 /\ r.2.2.1 = true) /\ (¬O4 x.1 -> r.2.2.1 = false) -> True /\ ∀ (b : Int × Int × Bool × Unit), G2 b.1 /\ G2 b.2.1 /\ True /\ True -> (O4 x.2.1 -> b.1 = D8p x.2.1 /\ b.2.1 = D3y x.2.1 /\ b.2.2.1 = true) /\ (¬O4 x.2.1 -> b.2.2.1 = false) -> (sel r.2.2.1 b.2.2.1 false = true -> (0 : Int) < IntKind.i64.wrap (r.2.1 * b.2.1) /\ ∀ (a : QQ × Unit), WfQ a.1 /\ True -> a.1 = rc (mkRat (IntKind.i64.wrap (r.1 * b.1)) (IntKind.i64.wrap (r.2.1 * b.2.1)).toNat) -> a.1 = rc (rv x.1 * rv x.2.1)) /\ (sel r.2.2.1 b.2.2.1 false = false -> True /\ ∀ (r : (Bool × List Int) × List Int × Unit), WfZ r.1 /\ WfU r.2.1 /\ True -> (nv x.1.2 = 0 -> r.1 = zi /\ r.2.1 = [(1 : Int)]) /\ (nv x.1.2 ≠ 0 -> r.1 = x.1.1 /\ r.2.1 = x.1.2) -> True /\ ∀ (a : (Bool × List Int) × List Int × Unit), WfZ a.1 /\ WfU a.2.1 /\ True -> (nv x.2.1.2 = 0 -> a.1 = zi /\ a.2.1 = [(1 : Int)]) /\ (nv x.2.1.2 ≠ 0 -> a.1 = x.2.1.1 /\ a.2.1 = x.2.1.2) -> (sh1 r.1.2 /\ sh1 a.1.2) /\ ∀ (d : (Bool × List Int) × Unit), WfZ d.1 /\ True -> d.1 = ic (iv r.1 * iv a.1) -> (sh1 r.2.1 /\ sh1 a.2.1) /\ ∀ (c : List Int × Unit), WfU c.1 /\ True -> c.1 = nc (nv r.2.1 * nv a.2.1) -> (nv c.1 ≠ 0 /\ sh2 d.1.2 /\ sh2 c.1) /\ ∀ (r : QQ × Unit), WfQ r.1 /\ True -> r.1 = rc (mkRat (iv d.1) (nv c.1)) -> r.1 = rc (rv x.1 * rv x.2.1))
theorem C0h (x : A7 J1.args) : K8 Tryz.prog tys B2c C9g J1 Tryz.f71 x = A4q x := by kernel_rfl
def A4g : A7 O0.args -> Prop := fun (x : QQ × Unit) => sh3 x.1 /\ ∀ (r : QQ × Unit), WfQ r.1 /\ True -> r.1 = rc (rv x.1) -> sh0 r.1.1.2 /\ ∀ (a : (Bool × List Int) × Unit), WfZ a.1 /\ True -> a.1 = ic (-iv r.1.1) -> (a.1, r.1.2) = rc (-rv x.1)
theorem B9u (x : A7 O0.args) : K8 Tryz.prog tys B0t C8x O0 Tryz.f73 x = A4g x := by kernel_rfl
def A4a : A7 N6.args -> Prop := fun (x : QQ × Unit) => True /\ ∀ (r : Int × Unit), G2 r.1 /\ True -> r.1 = (rv x.1).num.sign -> (decide (r.1 = 0) = true -> (rv x.1 = (0 : Rat) -> false = false) /\ (rv x.1 ≠ (0 : Rat) -> dQ = rc (rv x.1)⁻¹ /\ false = true)) /\ (decide (r.1 = 0) = false -> sh3 x.1 /\ ∀ (r : QQ × Unit), WfQ r.1 /\ True -> r.1 = rc (rv x.1) -> (rv x.1 = (0 : Rat) -> true = false) /\ (rv x.1 ≠ (0 : Rat) -> ((r.1.1.1, r.1.2), r.1.1.2) = rc (rv x.1)⁻¹ /\ true = true))
theorem B7z (x : A7 N6.args) : K8 Tryz.prog tys B2t C7v N6 Tryz.f117 x = A4a x := by kernel_rfl
theorem E0s {q : Rat} (h : q.num.sign = 0) : q = 0 := Rat.num_eq_zero.1 (Int.sign_eq_zero_iff_zero.1 h)
theorem B9a {x : X5} (h : O4 x) : -2147483647 <= D8p x /\ D8p x <= 2147483647 /\ 0 < D3y x /\ D3y x <= 2147483647 := by
  obtain ⟨h1, h2⟩ := h
  have := L7 x.1
  unfold D8p D3y
  split
  . omega
  . omega
theorem C8m {a b M N : Int} (h1 : -M <= a) (h2 : a <= M) (h3 : 0 <= b) (h4 : b <= N) : -(M * N) <= a * b /\ a * b <= M * N := by
  have hM : 0 <= M := by omega
  have a1 : M * b <= M * N := Int.mul_le_mul_of_nonneg_left h4 hM
  have a2 : a * b <= M * b := Int.mul_le_mul_of_nonneg_right h2 h3
  have a3 : -M * b <= a * b := Int.mul_le_mul_of_nonneg_right h1 h3
  rw [Int.neg_mul] at a3
  omega
theorem F0p {a b c d : Int} (ha : -2147483647 <= a /\ a <= 2147483647) (hb : -2147483647 <= b /\ b <= 2147483647) (hc : 0 < c /\ c <= 2147483647) (hd : 0 < d /\ d <= 2147483647) :
    IntKind.i64.wrap (c * d) = c * d /\ 0 < c * d /\ IntKind.i64.wrap (IntKind.i64.wrap (a * d) + IntKind.i64.wrap (b * c)) = a * d + b * c := by
  have h1 := C8m ha.1 ha.2 (Int.le_of_lt hd.1) hd.2
  have h2 := C8m hb.1 hb.2 (Int.le_of_lt hc.1) hc.2
  have h3 := C8m (a := c) (b := d) (M := 2147483647) (by omega) hc.2 (Int.le_of_lt hd.1) hd.2
  have h4 : 0 < c * d := Int.mul_pos hc.1 hd.1
  rw [wr (a := c * d) (by omega) (by omega), wr (a := a * d) (by omega) (by omega), wr (a := b * c) (by omega) (by omega), wr (by omega) (by omega)]
  exact ⟨rfl, h4, rfl⟩
theorem C0n (x : A7 H4.args) (hw : awf H4.args x) (hp : H4.pre x) : A4t x := by
  obtain ⟨p, q, _⟩ := x
  have lp1 : A9 p.1.2 := A5 hw.1.1.2.2
  have lp2 : A9 p.2 := A5 hw.1.2.2
  have lq1 : A9 q.1.2 := A5 hw.2.1.1.2.2
  have lq2 : A9 q.2 := A5 hw.2.1.2.2
  change X5 at p q
  obtain ⟨hp3, hq3⟩ : sh3 p /\ sh3 q := hp
  obtain ⟨hp1, hp2⟩ := hp3
  obtain ⟨hq1, hq2⟩ := hq3
  simp only [A4t]
  refine ⟨trivial, ?_⟩
  rintro ⟨s, _⟩ _ hs
  simp only at hs ⊢
  refine ⟨fun h => ⟨⟨hq1, hq2⟩, ?_⟩, fun h => ⟨trivial, ?_⟩⟩
  . rintro ⟨r, _⟩ _ hr
    simp only at hr ⊢
    rw [hs] at h
    rw [hr, E0s (of_decide_eq_true h), Rat.zero_add]
  rintro ⟨t, _⟩ _ ht
  simp only at ht ⊢
  refine ⟨fun h => ⟨⟨hp1, hp2⟩, ?_⟩, fun h => ⟨trivial, ?_⟩⟩
  . rintro ⟨r, _⟩ _ hr
    simp only at hr ⊢
    rw [ht] at h
    rw [hr, E0s (of_decide_eq_true h), Rat.add_zero]
  rintro ⟨an, ad, aok, _⟩ _ ⟨a1, a2⟩
  refine ⟨trivial, ?_⟩
  rintro ⟨bn, bd, bok, _⟩ _ ⟨b1, b2⟩
  change Int at an ad bn bd
  simp only at a1 a2 b1 b2 ⊢
  refine ⟨fun h => ?_, fun _ => ⟨trivial, ?_⟩⟩
  . rw [U2, Bool.and_eq_true] at h
    have sp : O4 p := Decidable.byContradiction fun hn => by have := a2 hn; rw [this] at h; exact absurd h.1 (by decide)
    have sq : O4 q := Decidable.byContradiction fun hn => by have := b2 hn; rw [this] at h; exact absurd h.2 (by decide)
    obtain ⟨ea, ed, _⟩ := a1 sp
    obtain ⟨eb, ee, _⟩ := b1 sq
    obtain ⟨x1, x2, x3, x4⟩ := B9a sp
    obtain ⟨y1, y2, y3, y4⟩ := B9a sq
    obtain ⟨w1, w2, w3⟩ := F0p (a := an) (b := bn) (c := ad) (d := bd) (by omega) (by omega) (by omega) (by omega)
    rw [w1, w3]
    refine ⟨w2, ?_⟩
    rintro ⟨r, _⟩ _ hr
    simp only at hr ⊢
    rw [hr, <- D0z p, <- D0z q, <- ea, <- ed, <- eb, <- ee, C8e (by omega) (by omega), Int.toNat_of_nonneg (by omega), Int.toNat_of_nonneg (by omega), Int.toNat_mul (by omega) (by omega)]
  . rintro ⟨n, d, _⟩ ⟨hwn, hwd, _⟩ h1
    refine ⟨trivial, ?_⟩
    rintro ⟨m, e, _⟩ ⟨hwm, hwe, _⟩ h2
    have ln : A9 n.2 := A5 hwn.2.2
    have ld : A9 d := A5 hwd.2
    have lm : A9 m.2 := A5 hwm.2.2
    have le : A9 e := A5 hwe.2
    refine ⟨trivial, ?_⟩
    rintro ⟨c, _⟩ _ hc
    change D1g at n m
    change List Int at d e
    simp only at h1 h2 hc ⊢
    obtain ⟨d0, hP⟩ := C0e h1
    obtain ⟨e0, hQ⟩ := C0e h2
    obtain ⟨n1, d1⟩ := B1v (k := 2199023255552) h1 hp1 hp2 (by decide)
    obtain ⟨m1, e1⟩ := B1v (k := 2199023255552) h2 hq1 hq2 (by decide)
    rw [hP, hQ]
    refine ⟨fun h => ?_, fun h => ?_⟩
    . have h := of_decide_eq_true h
      have he : nv d = nv e := D8g.1 (hc ▸ h)
      refine ⟨⟨by show n.2.length <= _; omega, by show m.2.length <= _; omega⟩, ?_⟩
      rintro ⟨u, _⟩ _ hu
      simp only at hu ⊢
      have l1 := D4q (x := n) (y := m) ln lm n1 m1
      refine ⟨⟨d0, by show u.2.length <= _; rw [hu]; omega, by show d.length <= _; omega⟩, ?_⟩
      rintro ⟨r, _⟩ _ hr
      simp only at hr ⊢
      rw [hr, hu, A2i, <- he, E8h d0]
    . -- the general case: the same four times
      have x1 := C3n (x := n) (y := (false, e)) ln le
      have x2 := C3n (x := m) (y := (false, d)) lm ld
      have g1 : sh1 n.2 /\ sh1 e := ⟨by show n.2.length <= _; omega, by show e.length <= _; omega⟩
      have g2 : sh1 m.2 /\ sh1 d := ⟨by show m.2.length <= _; omega, by show d.length <= _; omega⟩
      have fin : ∀ u v : D1g, u = ic (iv n * iv (false, e)) -> v = ic (iv m * iv (false, d)) -> (sh1 u.2 /\ sh1 v.2) /\ ∀ (r_6 : (Bool × List Int) × Unit), WfZ r_6.1 /\ True -> r_6.1 = ic (iv u + iv v) -> (sh1 d /\ sh1 e) /\ ∀ (r_7 : List Int × Unit), WfU r_7.1 /\ True -> r_7.1 = nc (nv d * nv e) -> (nv r_7.1 ≠ (0 : Nat) /\ sh2 r_6.1.2 /\ sh2 r_7.1) /\ ∀ (r : QQ × Unit), WfQ r.1 /\ True -> r.1 = rc (mkRat (iv r_6.1) (nv r_7.1)) -> r.1 = rc (mkRat (iv n) (nv d) + mkRat (iv m) (nv e)) := by
        intro u v hu hv
        have lu : u.2.length <= 4398046511104 := by
          rw [hu]; refine Nat.le_trans x1 ?_
          show n.2.length + e.length <= _; omega
        have lv : v.2.length <= 4398046511104 := by
          rw [hv]; refine Nat.le_trans x2 ?_
          show m.2.length + d.length <= _; omega
        refine ⟨⟨by show u.2.length <= _; omega, by show v.2.length <= _; omega⟩, ?_⟩
        rintro ⟨w, _⟩ _ hw'
        refine ⟨⟨g2.2, g1.2⟩, ?_⟩
        rintro ⟨z, _⟩ _ hz
        simp only at hw' hz ⊢
        have l1 := D4q (x := u) (y := v) (by rw [hu]; exact E5e _) (by rw [hv]; exact E5e _) lu lv
        have l2 := C3m ld le
        refine ⟨⟨by rw [hz, H2]; exact Nat.mul_ne_zero d0 e0, by show w.2.length <= _; rw [hw']; omega, by show z.length <= _; rw [hz]; omega⟩, ?_⟩
        rintro ⟨r, _⟩ _ hr
        simp only at hr ⊢
        rw [hr, hw', hz, H2, A2i, hu, hv, A2i, A2i, B4s, B4s, C8e d0 e0]
      exact ⟨⟨g1, fun u _ hu => ⟨⟨g2, fun v _ hv => ⟨fin _ _ hu hv, fin _ _ hu hv⟩⟩, g2, fun v _ hv => fin _ _ hu hv⟩⟩, g1, fun u _ hu => ⟨g2, fun v _ hv => fin _ _ hu hv⟩⟩
def E3b : An := { loop := [(2, ⟨[0], [], [(3, false, [.val (.int .i64)])], [], []⟩)] }
def D0k : B6 := []
def D9o : An := { loop := [(4, ⟨[0, 1], [], [(5, false, [.val (.int .i64)])], [], []⟩)], plan := [(6, [3, 7], [], true, (.p 0 (.p 1 (.p 2 (.q 3 (.p 4 (.p 5 (.p 6 (.q 7 (.p 8 .done))))))))))] }
def C5b : B6 := []
def C3l : An := {}
def A6z : B6 := [(191, I7)]
def E7a : An := { join := [(8, ⟨[0, 1, 5, 7], [0], [(6, false, [.val (.int .u64)])], [], []⟩), (10, ⟨[0, 1, 5, 7], [0], [(6, false, [.val (.int .u64)])], [], []⟩)], loop := [(4, ⟨[0, 1, 5], [], [(6, false, [.val (.int .u64)]), (7, false, [.val (.int .i64)])], [], [(0, .row (.int .u32) 153)]⟩)] }
def D3i : B6 := [(191, I7)]
def E7k : An := { join := [(12, ⟨[0, 1, 6, 8], [0], [(9, false, [.val (.int .u64)])], [], []⟩), (17, ⟨[0, 1, 6, 8, 9], [0], [(7, false, [.val (.int .u64)]), (10, false, [.val (.int .u64)])], [], []⟩)], loop := [(7, ⟨[0, 1, 6], [], [(7, false, [.val (.int .u64)]), (8, false, [.val (.int .i64)])], [], [(0, .row (.int .u32) 153)]⟩)] }
def D4l : B6 := [(191, I7), (194, P0)]
def D1t : An := { loop := [(7, ⟨[0, 1], [], [(5, false, [.val (.int .i64)])], [], []⟩)], plan := [(9, [3, 7], [], true, (.p 0 (.p 1 (.p 2 (.q 3 (.p 4 (.p 5 (.p 6 (.q 7 (.p 8 .done)))))))))), (11, [3, 7], [], true, (.p 0 (.p 1 (.p 2 (.q 3 (.p 4 (.p 5 (.p 6 (.q 7 (.p 8 .done))))))))))] }
def B5b : B6 := [(191, I7)]
def E7r : An := { loop := [(7, ⟨[0, 1, 5, 6], [], [(7, false, [.val (.int .u64)]), (8, false, [.val (.int .i64)])], [], [(0, .row (.int .u32) 153)]⟩), (3, ⟨[0, 1, 5], [], [(6, false, [.val (.int .i64)])], [], [(0, .row (.int .u32) 153)]⟩)], plan := [(9, [6, 11, 16], [], true, (.p 0 (.p 1 (.p 2 (.p 3 (.p 4 (.p 5 (.q 6 (.p 7 (.p 8 (.p 9 (.p 10 (.q 11 (.p 12 (.p 13 (.p 14 (.p 15 (.q 16 (.p 17 (.p 18 (.p 19 (.p 20 (.p 21 .done)))))))))))))))))))))))] }
def D4w : B6 := [(191, I7)]
def D8d : An := { loop := [(6, ⟨[0], [], [(4, false, [.val (.int .u64)]), (5, false, [.val (.int .i64)])], [], []⟩)] }
def B7v : B6 := [(191, I7)]
def B6m : A7 I7.args -> Prop := fun (x : List Int × Unit) => ∃ (I : Int × Unit -> Prop), ∃ (μ : Int × Unit -> Nat), I ((x.1.length : Int), ()) /\ ∀ (p : Int × Unit), G2 p.1 /\ True -> I p -> (decide (0 < p.1) = true -> (0 : Int) <= IntKind.i64.wrap (p.1 - 1) /\ IntKind.i64.wrap (p.1 - 1) < (x.1.length : Int)) /\ (sel (decide (0 < p.1)) (decide (gx (0 : Int) x.1 (IntKind.i64.wrap (p.1 - 1)) = (0 : Int))) false = true -> I (IntKind.i64.wrap (p.1 - 1), ()) /\ μ (IntKind.i64.wrap (p.1 - 1), ()) < μ p) /\ (sel (decide (0 < p.1)) (decide (gx (0 : Int) x.1 (IntKind.i64.wrap (p.1 - 1)) = (0 : Int))) false = false -> ((0 : Int) <= (0 : Int) /\ 0 <= p.1 /\ p.1 <= (x.1.length : Int)) /\ (((0 : Nat) + (List.drop (Int.toNat (0 : Int)) (List.take (Int.toNat p.1) x.1)).length) * (4 : Nat) <= (140737488355328 : Nat) /\ (0 : Nat) + (List.drop (Int.toNat (0 : Int)) (List.take (Int.toNat p.1) x.1)).length <= 9223372036854775807) /\ List.drop (Int.toNat (0 : Int)) (List.take (Int.toNat p.1) x.1) = nc (nv x.1))
theorem D1p (x : A7 I7.args) : K8 Tryz.prog tys D0k E3b I7 Tryz.f191 x = B6m x := by kernel_rfl
def B1t : A7 Q4.args -> Prop := fun (x : List Int × List Int × Unit) => (decide ((x.1.length : Int) ≠ (x.2.1.length : Int)) = true -> false = decide (x.1 = x.2.1)) /\ (decide ((x.1.length : Int) ≠ (x.2.1.length : Int)) = false -> ∃ (I : Int × Unit -> Prop), ∃ (μ : Int × Unit -> Nat), I ((0 : Int), ()) /\ ∀ (p : Int × Unit), G2 p.1 /\ True -> I p -> (decide (p.1 < (x.1.length : Int)) = true -> (0 <= p.1 /\ p.1 < (x.1.length : Int)) /\ (0 <= p.1 /\ p.1 < (x.2.1.length : Int)) /\ (decide (gx (0 : Int) x.1 p.1 ≠ gx (0 : Int) x.2.1 p.1) = true -> false = decide (x.1 = x.2.1)) /\ (decide (gx (0 : Int) x.1 p.1 ≠ gx (0 : Int) x.2.1 p.1) = false -> I (IntKind.i64.wrap (p.1 + 1), ()) /\ μ (IntKind.i64.wrap (p.1 + 1), ()) < μ p)) /\ (decide (p.1 < (x.1.length : Int)) = false -> true = decide (x.1 = x.2.1)))
theorem D0h (x : A7 Q4.args) : K8 Tryz.prog tys C5b D9o Q4 Tryz.f77 x = B1t x := by kernel_rfl
def A2b : A7 H7.args -> Prop := fun (x : Int × Unit) => (0 : (Ty.int IntKind.u64).den) <= (32 : Int) /\ sh0 [IntKind.u32.wrap x.1, IntKind.u32.wrap (Int.fdiv x.1 ((2 : Int) ^ Min.min (Int.toNat (32 : Int)) IntKind.u64.bits))] /\ ∀ (r : List Int × Unit), WfU r.1 /\ True -> r.1 = nc (nv [IntKind.u32.wrap x.1, IntKind.u32.wrap (Int.fdiv x.1 ((2 : Int) ^ Min.min (Int.toNat (32 : Int)) IntKind.u64.bits))]) -> r.1 = nc x.1.toNat
theorem B3i (x : A7 H7.args) : K8 Tryz.prog tys A6z C3l H7 Tryz.f176 x = A2b x := by kernel_rfl
def C3s : A7 A1c.args -> Prop := fun (x : List Int × List Int × Unit) => ((0 : Int) <= IntKind.i64.wrap (Max.max (x.1.length : Int) (x.2.1.length : Int) + (1 : Int)) /\ IntKind.i64.wrap (Max.max (x.1.length : Int) (x.2.1.length : Int) + (1 : Int)) <= IntKind.i64.wrap (Max.max (x.1.length : Int) (x.2.1.length : Int) + (1 : Int)) /\ (↑(4 : Nat) : Int) * IntKind.i64.wrap (Max.max (x.1.length : Int) (x.2.1.length : Int) + (1 : Int)) <= (281474976710656 : Int) /\ IntKind.i64.wrap (Max.max (x.1.length : Int) (x.2.1.length : Int) + (1 : Int)) <= (9223372036854775807 : Int)) /\ ∃ (I : Int × Int × List Int × Unit -> Prop), ∃ (μ : Int × Int × List Int × Unit -> Nat), I ((0 : Int), (0 : Int), List.replicate (IntKind.i64.wrap (Max.max (x.1.length : Int) (x.2.1.length : Int) + (1 : Int))).toNat (0 : Int), ()) /\ ∀ (p : Int × Int × List Int × Unit), K9 p.1 /\ G2 p.2.1 /\ WfU p.2.2.1 /\ True -> I p -> (decide (p.2.1 < (p.2.2.1.length : Int)) = true -> ∃ (J : Int × Unit -> Prop), ((decide (p.2.1 < (x.1.length : Int)) = true -> (0 <= p.2.1 /\ p.2.1 < (x.1.length : Int)) /\ J (IntKind.u64.wrap (p.1 + IntKind.u64.wrap (gx (0 : Int) x.1 p.2.1)), ())) /\ (decide (p.2.1 < (x.1.length : Int)) = false -> J (p.1, ()))) /\ ∀ (b : Int × Unit), K9 b.1 /\ True -> J b -> ∃ (J : Int × Unit -> Prop), ((decide (p.2.1 < (x.2.1.length : Int)) = true -> (0 <= p.2.1 /\ p.2.1 < (x.2.1.length : Int)) /\ J (IntKind.u64.wrap (b.1 + IntKind.u64.wrap (gx (0 : Int) x.2.1 p.2.1)), ())) /\ (decide (p.2.1 < (x.2.1.length : Int)) = false -> J b)) /\ ∀ (a : Int × Unit), K9 a.1 /\ True -> J a -> (0 <= p.2.1 /\ p.2.1 < (p.2.2.1.length : Int)) /\ (0 : (Ty.int IntKind.u64).den) <= (32 : Int) /\ I (Int.fdiv a.1 ((2 : Int) ^ Min.min (Int.toNat (32 : Int)) IntKind.u64.bits), IntKind.i64.wrap (p.2.1 + 1), List.set p.2.2.1 (Int.toNat p.2.1) (IntKind.u32.wrap a.1), ()) /\ μ (Int.fdiv a.1 ((2 : Int) ^ Min.min (Int.toNat (32 : Int)) IntKind.u64.bits), IntKind.i64.wrap (p.2.1 + 1), List.set p.2.2.1 (Int.toNat p.2.1) (IntKind.u32.wrap a.1), ()) < μ p) /\ (decide (p.2.1 < (p.2.2.1.length : Int)) = false -> sh0 p.2.2.1 /\ ∀ (r : List Int × Unit), WfU r.1 /\ True -> r.1 = nc (nv p.2.2.1) -> r.1 = nc (nv x.1 + nv x.2.1))
theorem D6d (x : A7 A1c.args) : K8 Tryz.prog tys D3i E7a A1c Tryz.f157 x = C3s x := by kernel_rfl
def C4c : A7 A0v.args -> Prop := fun (x : List Int × List Int × Unit) => (sh1 x.1 /\ sh1 x.2.1) /\ ∀ (r : Int × Unit), G2 r.1 /\ True -> r.1 = B7b (nv x.1) (nv x.2.1) -> (decide (r.1 < 0) = true -> (nv x.1 < nv x.2.1 -> E0m Int = [] /\ false = false) /\ (nv x.2.1 <= nv x.1 -> E0m Int = nc (nv x.1 - nv x.2.1) /\ false = true)) /\ (decide (r.1 < 0) = false -> sh0 x.1 /\ ∀ (r : List Int × Unit), WfU r.1 /\ True -> r.1 = nc (nv x.1) -> sh0 x.2.1 /\ ∀ (b : List Int × Unit), WfU b.1 /\ True -> b.1 = nc (nv x.2.1) -> ((0 : Int) <= (r.1.length : Int) /\ (r.1.length : Int) <= (r.1.length : Int) /\ (↑(4 : Nat) : Int) * (r.1.length : Int) <= (281474976710656 : Int) /\ (r.1.length : Int) <= (9223372036854775807 : Int)) /\ ∃ (I : Int × Int × List Int × Unit -> Prop), ∃ (μ : Int × Int × List Int × Unit -> Nat), I ((0 : Int), (0 : Int), List.replicate (r.1.length : Int).toNat (0 : Int), ()) /\ ∀ (p : Int × Int × List Int × Unit), K9 p.1 /\ G2 p.2.1 /\ WfU p.2.2.1 /\ True -> I p -> (decide (p.2.1 < (r.1.length : Int)) = true -> ∃ (J : Int × Unit -> Prop), ((decide (p.2.1 < (b.1.length : Int)) = true -> (0 <= p.2.1 /\ p.2.1 < (b.1.length : Int)) /\ J (IntKind.u64.wrap (p.1 + IntKind.u64.wrap (gx (0 : Int) b.1 p.2.1)), ())) /\ (decide (p.2.1 < (b.1.length : Int)) = false -> J (p.1, ()))) /\ ∀ (c : Int × Unit), K9 c.1 /\ True -> J c -> (0 <= p.2.1 /\ p.2.1 < (r.1.length : Int)) /\ ∃ (J : Int × Int × Unit -> Prop), ((decide (IntKind.u64.wrap (gx (0 : Int) r.1 p.2.1) < c.1) = true -> J ((1 : Int), IntKind.u64.wrap (IntKind.u64.wrap (gx (0 : Int) r.1 p.2.1) + (4294967296 : Int)), ())) /\ (decide (IntKind.u64.wrap (gx (0 : Int) r.1 p.2.1) < c.1) = false -> J ((0 : Int), IntKind.u64.wrap (gx (0 : Int) r.1 p.2.1), ()))) /\ ∀ (a : Int × Int × Unit), K9 a.1 /\ K9 a.2.1 /\ True -> J a -> (0 <= p.2.1 /\ p.2.1 < (p.2.2.1.length : Int)) /\ I (a.1, IntKind.i64.wrap (p.2.1 + 1), List.set p.2.2.1 (Int.toNat p.2.1) (IntKind.u32.wrap (IntKind.u64.wrap (a.2.1 - c.1))), ()) /\ μ (a.1, IntKind.i64.wrap (p.2.1 + 1), List.set p.2.2.1 (Int.toNat p.2.1) (IntKind.u32.wrap (IntKind.u64.wrap (a.2.1 - c.1))), ()) < μ p) /\ (decide (p.2.1 < (r.1.length : Int)) = false -> sh0 p.2.2.1 /\ ∀ (r : List Int × Unit), WfU r.1 /\ True -> r.1 = nc (nv p.2.2.1) -> (nv x.1 < nv x.2.1 -> r.1 = [] /\ true = false) /\ (nv x.2.1 <= nv x.1 -> r.1 = nc (nv x.1 - nv x.2.1) /\ true = true)))
theorem D6e (x : A7 A0v.args) : K8 Tryz.prog tys D4l E7k A0v Tryz.f158 x = C4c x := by kernel_rfl
def A6e : A7 P0.args -> Prop := fun (x : List Int × List Int × Unit) => sh0 x.1 /\ ∀ (r : List Int × Unit), WfU r.1 /\ True -> r.1 = nc (nv x.1) -> sh0 x.2.1 /\ ∀ (a : List Int × Unit), WfU a.1 /\ True -> a.1 = nc (nv x.2.1) -> (decide ((r.1.length : Int) ≠ (a.1.length : Int)) = true -> (decide ((r.1.length : Int) < (a.1.length : Int)) = true -> (-1 : Int) = B7b (nv x.1) (nv x.2.1)) /\ (decide ((r.1.length : Int) < (a.1.length : Int)) = false -> (1 : Int) = B7b (nv x.1) (nv x.2.1))) /\ (decide ((r.1.length : Int) ≠ (a.1.length : Int)) = false -> ∃ (I : Int × Unit -> Prop), ∃ (μ : Int × Unit -> Nat), I (IntKind.i64.wrap ((r.1.length : Int) - (1 : Int)), ()) /\ ∀ (p : Int × Unit), G2 p.1 /\ True -> I p -> (decide (0 <= p.1) = true -> (0 <= p.1 /\ p.1 < (r.1.length : Int)) /\ (0 <= p.1 /\ p.1 < (a.1.length : Int)) /\ (decide (gx (0 : Int) r.1 p.1 < gx (0 : Int) a.1 p.1) = true -> (-1 : Int) = B7b (nv x.1) (nv x.2.1)) /\ (decide (gx (0 : Int) r.1 p.1 < gx (0 : Int) a.1 p.1) = false -> (0 <= p.1 /\ p.1 < (r.1.length : Int)) /\ (0 <= p.1 /\ p.1 < (a.1.length : Int)) /\ (decide (gx (0 : Int) a.1 p.1 < gx (0 : Int) r.1 p.1) = true -> (1 : Int) = B7b (nv x.1) (nv x.2.1)) /\ (decide (gx (0 : Int) a.1 p.1 < gx (0 : Int) r.1 p.1) = false -> I (IntKind.i64.wrap (p.1 - 1), ()) /\ μ (IntKind.i64.wrap (p.1 - 1), ()) < μ p))) /\ (decide (0 <= p.1) = false -> (0 : Int) = B7b (nv x.1) (nv x.2.1)))
theorem C4j (x : A7 P0.args) : K8 Tryz.prog tys B5b D1t P0 Tryz.f194 x = A6e x := by kernel_rfl
def C3r : A7 A2n.args -> Prop := fun (x : List Int × List Int × Unit) => ((0 : Int) <= IntKind.i64.wrap ((x.1.length : Int) + (x.2.1.length : Int)) /\ IntKind.i64.wrap ((x.1.length : Int) + (x.2.1.length : Int)) <= IntKind.i64.wrap ((x.1.length : Int) + (x.2.1.length : Int)) /\ (↑(4 : Nat) : Int) * IntKind.i64.wrap ((x.1.length : Int) + (x.2.1.length : Int)) <= (281474976710656 : Int) /\ IntKind.i64.wrap ((x.1.length : Int) + (x.2.1.length : Int)) <= (9223372036854775807 : Int)) /\ ∃ (I : Int × List Int × Unit -> Prop), ∃ (μ : Int × List Int × Unit -> Nat), I ((0 : Int), List.replicate (IntKind.i64.wrap ((x.1.length : Int) + (x.2.1.length : Int))).toNat (0 : Int), ()) /\ ∀ (p : Int × List Int × Unit), G2 p.1 /\ WfU p.2.1 /\ True -> I p -> (decide (p.1 < (x.1.length : Int)) = true -> ∃ (I_1 : Int × Int × List Int × Unit -> Prop), ∃ (μ_1 : Int × Int × List Int × Unit -> Nat), I_1 ((0 : Int), (0 : Int), p.2.1, ()) /\ ∀ (a : Int × Int × List Int × Unit), K9 a.1 /\ G2 a.2.1 /\ WfU a.2.2.1 /\ True -> I_1 a -> (decide (a.2.1 < (x.2.1.length : Int)) = true -> ((0 : Int) <= IntKind.i64.wrap (p.1 + a.2.1) /\ IntKind.i64.wrap (p.1 + a.2.1) < (a.2.2.1.length : Int)) /\ (0 <= p.1 /\ p.1 < (x.1.length : Int)) /\ (0 <= a.2.1 /\ a.2.1 < (x.2.1.length : Int)) /\ ((0 : Int) <= IntKind.i64.wrap (p.1 + a.2.1) /\ IntKind.i64.wrap (p.1 + a.2.1) < (a.2.2.1.length : Int)) /\ (0 : (Ty.int IntKind.u64).den) <= (32 : Int) /\ I_1 ((IntKind.u64.wrap (a.1 + IntKind.u64.wrap (IntKind.u64.wrap (List.getD a.2.2.1 (IntKind.i64.wrap (p.1 + a.2.1)).toNat (0 : Int)) + IntKind.u64.wrap (IntKind.u64.wrap (gx (0 : Int) x.1 p.1) * IntKind.u64.wrap (gx (0 : Int) x.2.1 a.2.1))))).fdiv ((2 : Int) ^ Min.min (Int.toNat (32 : Int)) IntKind.u64.bits), IntKind.i64.wrap (a.2.1 + 1), List.set a.2.2.1 (IntKind.i64.wrap (p.1 + a.2.1)).toNat (IntKind.u32.wrap (IntKind.u64.wrap (a.1 + IntKind.u64.wrap (IntKind.u64.wrap (List.getD a.2.2.1 (IntKind.i64.wrap (p.1 + a.2.1)).toNat (0 : Int)) + IntKind.u64.wrap (IntKind.u64.wrap (gx (0 : Int) x.1 p.1) * IntKind.u64.wrap (gx (0 : Int) x.2.1 a.2.1)))))), ()) /\ μ_1 ((IntKind.u64.wrap (a.1 + IntKind.u64.wrap (IntKind.u64.wrap (List.getD a.2.2.1 (IntKind.i64.wrap (p.1 + a.2.1)).toNat (0 : Int)) + IntKind.u64.wrap (IntKind.u64.wrap (gx (0 : Int) x.1 p.1) * IntKind.u64.wrap (gx (0 : Int) x.2.1 a.2.1))))).fdiv ((2 : Int) ^ Min.min (Int.toNat (32 : Int)) IntKind.u64.bits), IntKind.i64.wrap (a.2.1 + 1), List.set a.2.2.1 (IntKind.i64.wrap (p.1 + a.2.1)).toNat (IntKind.u32.wrap (IntKind.u64.wrap (a.1 + IntKind.u64.wrap (IntKind.u64.wrap (List.getD a.2.2.1 (IntKind.i64.wrap (p.1 + a.2.1)).toNat (0 : Int)) + IntKind.u64.wrap (IntKind.u64.wrap (gx (0 : Int) x.1 p.1) * IntKind.u64.wrap (gx (0 : Int) x.2.1 a.2.1)))))), ()) < μ_1 a) /\ (decide (a.2.1 < (x.2.1.length : Int)) = false -> ((0 : Int) <= IntKind.i64.wrap (p.1 + (x.2.1.length : Int)) /\ IntKind.i64.wrap (p.1 + (x.2.1.length : Int)) < (a.2.2.1.length : Int)) /\ I (IntKind.i64.wrap (p.1 + 1), List.set a.2.2.1 (IntKind.i64.wrap (p.1 + (x.2.1.length : Int))).toNat (IntKind.u32.wrap a.1), ()) /\ μ (IntKind.i64.wrap (p.1 + 1), List.set a.2.2.1 (IntKind.i64.wrap (p.1 + (x.2.1.length : Int))).toNat (IntKind.u32.wrap a.1), ()) < μ p)) /\ (decide (p.1 < (x.1.length : Int)) = false -> sh0 p.2.1 /\ ∀ (r : List Int × Unit), WfU r.1 /\ True -> r.1 = nc (nv p.2.1) -> r.1 = nc (nv x.1 * nv x.2.1))
theorem D8n (x : A7 A2n.args) : K8 Tryz.prog tys D4w E7r A2n Tryz.f150 x = C3r x := by kernel_rfl
def A9b : A7 S8.args -> Prop := fun (x : List Int × Unit) => sh0 x.1 /\ ∀ (r : List Int × Unit), WfU r.1 /\ True -> r.1 = nc (nv x.1) -> (decide ((2 : Int) < (r.1.length : Int)) = true -> (nv x.1 < 18446744073709551616 -> (0 : Int) = (↑(nv x.1) : Int) /\ false = true) /\ ((18446744073709551616 : Nat) <= nv x.1 -> false = false)) /\ (decide ((2 : Int) < (r.1.length : Int)) = false -> ∃ (I : Int × Int × Unit -> Prop), ∃ (μ : Int × Int × Unit -> Nat), I ((0 : Int), IntKind.i64.wrap ((r.1.length : Int) - (1 : Int)), ()) /\ ∀ (p : Int × Int × Unit), K9 p.1 /\ G2 p.2.1 /\ True -> I p -> (decide (0 <= p.2.1) = true -> (0 : (Ty.int IntKind.u64).den) <= (32 : Int) /\ (0 <= p.2.1 /\ p.2.1 < (r.1.length : Int)) /\ I (IntKind.u64.wrap (↑(BitVec.ofInt IntKind.u64.bits (IntKind.u64.wrap (p.1 * 2 ^ Min.min (Int.toNat (32 : Int)) IntKind.u64.bits)) ||| BitVec.ofInt IntKind.u64.bits (IntKind.u64.wrap (gx (0 : Int) r.1 p.2.1))).toNat : Int), IntKind.i64.wrap (p.2.1 - 1), ()) /\ μ (IntKind.u64.wrap (↑(BitVec.ofInt IntKind.u64.bits (IntKind.u64.wrap (p.1 * 2 ^ Min.min (Int.toNat (32 : Int)) IntKind.u64.bits)) ||| BitVec.ofInt IntKind.u64.bits (IntKind.u64.wrap (gx (0 : Int) r.1 p.2.1))).toNat : Int), IntKind.i64.wrap (p.2.1 - 1), ()) < μ p) /\ (decide (0 <= p.2.1) = false -> (nv x.1 < 18446744073709551616 -> p.1 = (↑(nv x.1) : Int) /\ true = true) /\ ((18446744073709551616 : Nat) <= nv x.1 -> true = false)))
theorem C5x (x : A7 S8.args) : K8 Tryz.prog tys B7v D8d S8 Tryz.f224 x = A9b x := by kernel_rfl
theorem D2t (x : A7 I7.args) (hw : awf I7.args x) (hp : I7.pre x) : B6m x := by
  obtain ⟨l, _⟩ := x
  have hl : l.length <= 35184372088832 := hp
  have hb : A9 l := A5 hw.1.2
  change List Int at l
  simp only [B6m]
  refine ⟨fun p => 0 <= p.1 /\ p.1 <= (l.length : Int) /\ ∀ i x, p.1.toNat <= i -> l[i]? = some x -> x = 0, fun p => p.1.toNat, ⟨Int.natCast_nonneg _, Int.le_refl _, fun i x hi hx => ?_⟩, ?_⟩
  . rw [List.getElem?_eq_none (by simpa using hi)] at hx; cases hx
  rintro ⟨n, _⟩ _ ⟨h0, h1, h2⟩
  change Int at n
  simp only at h0 h1 h2 ⊢
  refine ⟨fun h => ?_, fun h => ?_, fun h => ?_⟩
  . have h := of_decide_eq_true h
    rw [wr (by omega) (by omega)]
    exact ⟨by omega, by omega⟩
  . rw [U2] at h
    simp only [Bool.and_eq_true, decide_eq_true_eq] at h
    obtain ⟨h3, h4⟩ := h
    rw [wr (by omega) (by omega)] at h4 ⊢
    refine ⟨⟨by omega, by omega, fun i x hi hx => ?_⟩, by omega⟩
    by_cases he : i = (n - 1).toNat
    . subst he
      rw [M7 (d := (0 : Int)) (by omega) (by omega)] at hx
      cases hx; exact h4
    . exact h2 i x (by omega) hx
  . refine ⟨⟨Int.le_refl _, h0, h1⟩, ?_⟩
    have e : (l.take n.toNat).drop (Int.toNat 0) = l.take n.toNat := rfl
    rw [e]
    have hlen : (l.take n.toNat).length <= l.length := by rw [List.length_take]; omega
    refine ⟨⟨by omega, by omega⟩, F2b hb (by omega) h2 ?_⟩
    rw [U2] at h
    simp only [Bool.and_eq_false_iff, decide_eq_false_iff_not] at h
    rcases h with h | h
    . exact .inl (by omega)
    . by_cases hn : n = 0
      . exact .inl (by omega)
      . rw [wr (by omega) (by omega)] at h
        refine .inr ⟨gx 0 l (n - 1), ?_, h⟩
        have := M7 (d := (0 : Int)) (l := l) (i := n - 1) (by omega) (by omega)
        rw [<- this]; congr 1; omega
theorem C9r (x : A7 Q4.args) (hw : awf Q4.args x) (_ : Q4.pre x) : B1t x := by
  obtain ⟨a, b, _⟩ := x
  have hl : a.length <= 9223372036854775807 := hw.1.1
  change List Int at a b
  simp only [B1t]
  refine ⟨fun h => ?_, fun h => ?_⟩
  . have h := of_decide_eq_true h
    exact (decide_eq_false fun e => h (by rw [e])).symm
  . have hlen : a.length = b.length := by have := of_decide_eq_false h; omega
    refine ⟨fun p => 0 <= p.1 /\ p.1 <= (a.length : Int) /\ a.take p.1.toNat = b.take p.1.toNat, fun p => ((a.length : Int) - p.1).toNat, ⟨Int.le_refl _, Int.natCast_nonneg _, by simp⟩, ?_⟩
    rintro ⟨i, _⟩ _ ⟨h0, h1, h2⟩
    change Int at i
    simp only at h0 h1 h2 ⊢
    refine ⟨fun h => ?_, fun h => ?_⟩
    . have h := of_decide_eq_true h
      refine ⟨⟨h0, h⟩, ⟨h0, by omega⟩, fun he => ?_, fun he => ?_⟩
      . have he := of_decide_eq_true he
        exact (decide_eq_false fun e => he (by rw [e])).symm
      . have he : gx 0 a i = gx 0 b i := by simpa using he
        rw [wr (by omega) (by omega)]
        refine ⟨⟨by omega, by omega, ?_⟩, by omega⟩
        rw [show (i + 1).toNat = i.toNat + 1 from by omega, List.take_add_one, List.take_add_one, M7 (d := (0 : Int)) h0 h, M7 (d := (0 : Int)) h0 (by omega), h2, he]
    . have h := of_decide_eq_false h
      rw [G7 (by omega), G7 (by omega)] at h2
      exact (decide_eq_true h2).symm
theorem B3n (x : A7 H7.args) (hw : awf H7.args x) (_ : H7.pre x) : A2b x := by
  obtain ⟨v, _⟩ := x
  change Int at v
  have hv : IntKind.u64.min <= v /\ v <= IntKind.u64.max := hw.1
  rw [E4e, C3a] at hv
  simp only [A2b]
  refine ⟨by decide, by simp, ?_⟩
  rintro ⟨r, _⟩ _ hr
  simp only at hr ⊢
  rw [hr]
  congr 1
  rw [show Min.min (Int.toNat 32) IntKind.u64.bits = 32 from rfl]
  simp only [nv, A1a]
  rw [Int.fdiv_eq_ediv_of_nonneg _ (by decide), show (2 : Int) ^ 32 = 4294967296 from rfl]
  omega
theorem G0a (v : Int) (_ : 0 <= v) : Int.fdiv v (2 ^ Min.min (Int.toNat 32) IntKind.u64.bits) = v / 4294967296 := by
  rw [show Min.min (Int.toNat 32) IntKind.u64.bits = 32 from rfl, Int.fdiv_eq_ediv_of_nonneg _ (by decide)]; rfl
theorem D7a (x : A7 A1c.args) (hw : awf A1c.args x) (hp : A1c.pre x) : C3s x := by
  obtain ⟨a, b, _⟩ := x
  have ha : A9 a := A5 hw.1.2
  have hb : A9 b := A5 hw.2.1.2
  change List Int at a b
  obtain ⟨la, lb⟩ : a.length <= 17592186044416 /\ b.length <= 17592186044416 := hp
  simp only [C3s]
  have em : IntKind.i64.wrap (Max.max (a.length : Int) (b.length : Int) + 1) = ((max a.length b.length + 1 : Nat) : Int) := by
    rw [wr (by omega) (by omega)]; omega
  rw [em]
  have hml : max a.length b.length + 1 <= 17592186044417 := by omega
  refine ⟨⟨by omega, Int.le_refl _, by simp; omega, by omega⟩, ?_⟩
  have hna : a.length <= max a.length b.length + 1 := by omega
  have hnb : b.length <= max a.length b.length + 1 := by omega
  have hlt2 := F0i ha hb
  generalize max a.length b.length + 1 = n at hml hna hnb hlt2
  refine ⟨fun p => 0 <= p.2.1 /\ p.2.1 <= (n : Int) /\ 0 <= p.1 /\ p.1 <= 1 /\ p.2.2.1.length = n /\ nv (p.2.2.1.take p.2.1.toNat) + 4294967296 ^ p.2.1.toNat * p.1.toNat = nv (a.take p.2.1.toNat) + nv (b.take p.2.1.toNat), fun p => ((n : Int) - p.2.1).toNat, ⟨Int.le_refl _, Int.natCast_nonneg _, Int.le_refl _, by show (0 : Int) <= 1; omega, by simp, by simp [nv]⟩, ?_⟩
  rintro ⟨c, i, out, _⟩ ⟨_, _, hwo, _⟩ ⟨h0, h1, h2, h3, h4, h5⟩
  change Int at c i
  change List Int at out
  simp only at h0 h1 h2 h3 h4 h5 ⊢
  have ho : A9 out := A5 hwo.2
  have da := R9 ha i.toNat
  have db := R9 hb i.toNat
  refine ⟨fun h => ?_, fun h => ?_⟩
  . have h := of_decide_eq_true h
    refine ⟨fun p => p.1 = c + (dg a i.toNat : Int), ⟨fun hi => ?_, fun hi => ?_⟩, ?_⟩
    . have hi := of_decide_eq_true hi
      refine ⟨⟨h0, hi⟩, ?_⟩
      show IntKind.u64.wrap _ = _
      rw [A7d ha h0 hi, w64 (a := (dg a i.toNat : Int)) (by omega) (by omega), w64 (by omega) (by omega)]
    . have hi := of_decide_eq_false hi
      show c = _
      rw [B4o (by omega)]; omega
    rintro ⟨c1, _⟩ _ hc1
    simp only at hc1 ⊢
    refine ⟨fun p => p.1 = c1 + (dg b i.toNat : Int), ⟨fun hi => ?_, fun hi => ?_⟩, ?_⟩
    . have hi := of_decide_eq_true hi
      refine ⟨⟨h0, hi⟩, ?_⟩
      show IntKind.u64.wrap _ = _
      rw [A7d hb h0 hi, w64 (a := (dg b i.toNat : Int)) (by omega) (by omega), w64 (by omega) (by omega)]
    . have hi := of_decide_eq_false hi
      show c1 = _
      rw [B4o (by omega)]; omega
    rintro ⟨c2, _⟩ _ hc2
    simp only at hc2 ⊢
    subst hc1 hc2
    refine ⟨⟨h0, h⟩, by decide, ?_⟩
    rw [G0a _ (by omega), wr (by omega) (by omega), A1a]
    refine ⟨⟨by omega, by omega, by omega, by omega, by rw [List.length_set]; exact h4, ?_⟩, by omega⟩
    rw [show (i + 1).toNat = i.toNat + 1 from by omega, P3 (by omega), J4 a, J4 b, Nat.pow_succ]
    exact E0l h5 (by omega)
  . have h := of_decide_eq_false h
    refine ⟨by omega, ?_⟩
    rintro ⟨r, _⟩ _ hr
    simp only at hr ⊢
    rw [hr]
    congr 1
    rw [show i.toNat = n from by omega, List.take_of_length_le (by omega), List.take_of_length_le hna, List.take_of_length_le hnb] at h5
    have hc : c.toNat = 0 := C3h (P := 4294967296 ^ n) (x := nv a + nv b) (by rw [<- h5]; exact Nat.le_add_left ..) hlt2
    rw [hc, Nat.mul_zero, Nat.add_zero] at h5
    exact h5
theorem C2c (x : A7 P0.args) (hw : awf P0.args x) (hp : P0.pre x) : A6e x := by
  obtain ⟨a, b, _⟩ := x
  change List Int at a b
  obtain ⟨la, lb⟩ : a.length <= 17592186044416 /\ b.length <= 17592186044416 := hp
  simp only [A6e]
  refine ⟨by omega, ?_⟩
  rintro ⟨r, _⟩ ⟨⟨hla, _⟩, _⟩ hr
  simp only at hr hla ⊢
  subst hr
  refine ⟨by omega, ?_⟩
  rintro ⟨s, _⟩ ⟨⟨hlb, _⟩, _⟩ hs
  simp only at hs hlb ⊢
  subst hs
  have ha := N0 (nv a)
  have hb := N0 (nv b)
  refine ⟨fun hne => ⟨fun h => ?_, fun h => ?_⟩, fun hne => ?_⟩
  . have h := of_decide_eq_true h
    exact (B0x (B9f (by omega))).symm
  . have h := of_decide_eq_false h
    have hne := of_decide_eq_true hne
    exact (D5u (B9f (by omega))).symm
  . have hlen : (nc (nv a)).length = (nc (nv b)).length := by have := of_decide_eq_false hne; omega
    have ea := H2 (nv a)
    have eb := H2 (nv b)
    generalize nc (nv a) = r at *
    generalize nc (nv b) = s at *
    rw [<- ea, <- eb]
    refine ⟨fun p => -1 <= p.1 /\ p.1 < (r.length : Int) /\ r.drop (p.1 + 1).toNat = s.drop (p.1 + 1).toNat, fun p => (p.1 + 1).toNat, ?_, ?_⟩
    . rw [wr (by omega) (by omega)]
      refine ⟨by omega, by omega, ?_⟩
      rw [List.drop_of_length_le (by omega), List.drop_of_length_le (by omega)]
    rintro ⟨i, _⟩ _ ⟨h0, h1, h2⟩
    change Int at i
    simp only at h0 h1 h2 ⊢
    refine ⟨fun h => ?_, fun h => ?_⟩
    . have h := of_decide_eq_true h
      refine ⟨⟨h, h1⟩, ⟨h, by omega⟩, fun hlt => ?_, fun hlt => ⟨⟨h, h1⟩, ⟨h, by omega⟩, fun hgt => ?_, fun hgt => ?_⟩⟩
      . exact (B0x (E4z ha hb hlen h h1 h2 (of_decide_eq_true hlt))).symm
      . exact (D5u (E4z hb ha hlen.symm h (by omega) h2.symm (of_decide_eq_true hgt))).symm
      . have hlt := of_decide_eq_false hlt
        have hgt := of_decide_eq_false hgt
        rw [wr (by omega) (by omega)]
        refine ⟨⟨by omega, by omega, ?_⟩, by omega⟩
        rw [show i - 1 + 1 = i from by omega, T0 h h1, T0 h (by omega), h2, show gx 0 r i = gx 0 s i from by omega]
    . have h := of_decide_eq_false h
      rw [show (i + 1).toNat = 0 from by omega, List.drop_zero, List.drop_zero] at h2
      rw [h2, D9v]
theorem D8j (x : A7 A0v.args) (hw : awf A0v.args x) (hp : A0v.pre x) : C4c x := by
  obtain ⟨a, b, _⟩ := x
  change List Int at a b
  have hla : A9 a := A5 hw.1.2
  have hlb : A9 b := A5 hw.2.1.2
  obtain ⟨la, lb⟩ : a.length <= 17592186044416 /\ b.length <= 17592186044416 := hp
  simp only [C4c]
  refine ⟨⟨la, lb⟩, ?_⟩
  rintro ⟨d, _⟩ _ hd
  simp only at hd ⊢
  subst hd
  refine ⟨fun h => ?_, fun h => ?_⟩
  . have h := of_decide_eq_true h
    refine ⟨fun _ => ⟨by trivial, by trivial⟩, fun hge => ?_⟩
    unfold B7b at h
    rw [if_neg (by omega)] at h
    split at h <;> omega
  . have h := of_decide_eq_false h
    have hge : nv b <= nv a := by
      rcases Nat.lt_or_ge (nv a) (nv b) with h1 | h1
      . rw [B0x h1] at h; omega
      . exact h1
    refine ⟨by omega, ?_⟩
    rintro ⟨r, _⟩ _ hr
    simp only at hr ⊢
    refine ⟨by omega, ?_⟩
    rintro ⟨s, _⟩ _ hs
    simp only at hs ⊢
    have hra : A9 r := hr ▸ N0 _
    have hsb : A9 s := hs ▸ N0 _
    have hrv : nv r = nv a := by rw [hr, H2]
    have hsv : nv s = nv b := by rw [hs, H2]
    have hrl : r.length <= a.length := by rw [hr]; exact C5 hla
    have hsr : s.length <= r.length := by rw [hr, hs]; exact M5 hge
    rw [<- hrv, <- hsv] at hge ⊢
    clear hr hs hrv hsv
    refine ⟨⟨by omega, Int.le_refl _, by simp; omega, by omega⟩, ?_⟩
    refine ⟨fun p => 0 <= p.2.1 /\ p.2.1 <= (r.length : Int) /\ 0 <= p.1 /\ p.1 <= 1 /\ p.2.2.1.length = r.length /\ nv (r.take p.2.1.toNat) + 4294967296 ^ p.2.1.toNat * p.1.toNat = nv (p.2.2.1.take p.2.1.toNat) + nv (s.take p.2.1.toNat), fun p => ((r.length : Int) - p.2.1).toNat, ⟨Int.le_refl _, Int.natCast_nonneg _, Int.le_refl _, by show (0 : Int) <= 1; omega, by simp, by simp [nv]⟩, ?_⟩
    rintro ⟨c, i, out, _⟩ ⟨_, _, hwo, _⟩ ⟨h0, h1, h2, h3, h4, h5⟩
    change Int at c i
    change List Int at out
    simp only at h0 h1 h2 h3 h4 h5 ⊢
    have ho : A9 out := A5 hwo.2
    have da := R9 hra i.toNat
    have db := R9 hsb i.toNat
    refine ⟨fun h => ?_, fun h => ?_⟩
    . have h := of_decide_eq_true h
      refine ⟨fun p => p.1 = c + (dg s i.toNat : Int), ⟨fun hi => ?_, fun hi => ?_⟩, ?_⟩
      . have hi := of_decide_eq_true hi
        refine ⟨⟨h0, hi⟩, ?_⟩
        show IntKind.u64.wrap _ = _
        rw [A7d hsb h0 hi, w64 (a := (dg s i.toNat : Int)) (by omega) (by omega), w64 (by omega) (by omega)]
      . have hi := of_decide_eq_false hi
        show c = _
        rw [B4o (by omega)]; omega
      rintro ⟨c1, _⟩ _ hc1
      change Int at c1
      simp only at hc1 ⊢
      refine ⟨⟨h0, h⟩, ?_⟩
      rw [A7d hra h0 h, w64 (a := (dg r i.toNat : Int)) (by omega) (by omega)]
      refine ⟨fun p => 0 <= p.1 /\ p.1 <= 1 /\ p.2.1 = (dg r i.toNat : Int) + 4294967296 * p.1 /\ c1 <= p.2.1 /\ p.2.1 - c1 <= 4294967295, ⟨fun hi => ?_, fun hi => ?_⟩, ?_⟩
      . have hi := of_decide_eq_true hi
        show (0 : Int) <= 1 /\ (1 : Int) <= 1 /\ IntKind.u64.wrap _ = (dg r i.toNat : Int) + 4294967296 * 1 /\ c1 <= IntKind.u64.wrap _ /\ IntKind.u64.wrap _ - c1 <= _
        rw [w64 (by omega) (by omega)]
        omega
      . have hi := of_decide_eq_false hi
        show (0 : Int) <= 0 /\ (0 : Int) <= 1 /\ (dg r i.toNat : Int) = (dg r i.toNat : Int) + 4294967296 * 0 /\ c1 <= (dg r i.toNat : Int) /\ (dg r i.toNat : Int) - c1 <= _
        omega
      rintro ⟨c2, x2, _⟩ _ ⟨k1, k2, k3, k4, k5⟩
      change Int at c2 x2
      simp only at k1 k2 k3 k4 k5 ⊢
      refine ⟨⟨h0, by omega⟩, ?_⟩
      rw [wr (by omega) (by omega), w64 (a := x2 - c1) (by omega) (by omega), w32 (by omega) (by omega)]
      refine ⟨⟨by omega, by omega, by omega, by omega, by rw [List.length_set]; exact h4, ?_⟩, by omega⟩
      rw [show (i + 1).toNat = i.toNat + 1 from by omega, P3 (by omega), J4 r, J4 s, Nat.pow_succ]
      exact D5a h5 (by omega)
    . have h := of_decide_eq_false h
      refine ⟨by omega, ?_⟩
      rintro ⟨q, _⟩ _ hq
      simp only at hq ⊢
      refine ⟨fun hlt => by omega, fun _ => ⟨?_, by trivial⟩⟩
      rw [hq]
      congr 1
      rw [show i.toNat = r.length from by omega, List.take_of_length_le (Nat.le_refl _), List.take_of_length_le (by omega), List.take_of_length_le hsr] at h5
      have hol : nv out < 4294967296 ^ out.length := A8p ho
      rw [h4] at hol
      have hc : c.toNat = 0 := C3h (P := 4294967296 ^ r.length) (x := nv out) (by omega) hol
      rw [hc, Nat.mul_zero, Nat.add_zero] at h5
      omega
theorem D8a (x : A7 A2n.args) (hw : awf A2n.args x) (hp : A2n.pre x) : C3r x := by
  obtain ⟨a, b, _⟩ := x
  have ha : A9 a := A5 hw.1.2
  have hb : A9 b := A5 hw.2.1.2
  change List Int at a b
  obtain ⟨la, lb⟩ : a.length <= 17592186044416 /\ b.length <= 17592186044416 := hp
  simp only [C3r]
  have em : IntKind.i64.wrap ((a.length : Int) + (b.length : Int)) = ((a.length + b.length : Nat) : Int) := by
    rw [wr (by omega) (by omega)]; omega
  rw [em]
  refine ⟨⟨by omega, Int.le_refl _, by simp; omega, by omega⟩, ?_⟩
  refine ⟨fun p => 0 <= p.1 /\ p.1 <= (a.length : Int) /\ p.2.1.length = a.length + b.length /\ nv p.2.1 = nv (a.take p.1.toNat) * nv b /\ ∀ j, p.1.toNat + b.length <= j -> dg p.2.1 j = 0, fun p => ((a.length : Int) - p.1).toNat, ⟨Int.le_refl _, Int.natCast_nonneg _, by rw [List.length_replicate, Int.toNat_natCast], by simp [nv, B2u], fun j _ => C5j _ _⟩, ?_⟩
  rintro ⟨i, out, _⟩ ⟨_, hwo, _⟩ ⟨h0, h1, h2, h3, h4⟩
  change Int at i
  change List Int at out
  simp only at h0 h1 h2 h3 h4 ⊢
  have ho : A9 out := A5 hwo.2
  refine ⟨fun h => ?_, fun h => ?_⟩
  . have h := of_decide_eq_true h
    have da := R9 ha i.toNat
    refine ⟨fun p => 0 <= p.2.1 /\ p.2.1 <= (b.length : Int) /\ 0 <= p.1 /\ p.1 <= 4294967295 /\ p.2.2.1.length = a.length + b.length /\ nv p.2.2.1 + 4294967296 ^ (i.toNat + p.2.1.toNat) * p.1.toNat = nv out + 4294967296 ^ i.toNat * (dg a i.toNat * nv (b.take p.2.1.toNat)) /\ ∀ j, i.toNat + b.length <= j -> dg p.2.2.1 j = 0, fun p => ((b.length : Int) - p.2.1).toNat, ⟨Int.le_refl _, Int.natCast_nonneg _, Int.le_refl _, by show (0 : Int) <= 4294967295; omega, h2, by simp [nv], h4⟩, ?_⟩
    rintro ⟨c, j, o, _⟩ ⟨_, _, hwo', _⟩ ⟨g0, g1, g2, g3, g4, g5, g6⟩
    change Int at c j
    change List Int at o
    simp only at g0 g1 g2 g3 g4 g5 g6 ⊢
    have hoo : A9 o := A5 hwo'.2
    refine ⟨fun hj => ?_, fun hj => ?_⟩
    . have hj := of_decide_eq_true hj
      have db := R9 hb j.toNat
      rw [wr (a := i + j) (by omega) (by omega)]
      refine ⟨⟨by omega, by omega⟩, ⟨h0, h⟩, ⟨g0, hj⟩, ⟨by omega, by omega⟩, by decide, ?_⟩
      rw [A7d ha h0 h, A7d hb g0 hj, X1 hoo, show (i + j).toNat = i.toNat + j.toNat from by omega]
      have dk := R9 hoo (i.toNat + j.toNat)
      have hm : dg a i.toNat * dg b j.toNat <= 4294967295 * 4294967295 := Nat.mul_le_mul da db
      have hme : (dg a i.toNat : Int) * (dg b j.toNat : Int) = ((dg a i.toNat * dg b j.toNat : Nat) : Int) := (Int.natCast_mul _ _).symm
      rw [w64 (a := (dg a i.toNat : Int)) (by omega) (by omega), w64 (a := (dg b j.toNat : Int)) (by omega) (by omega), w64 (a := (dg o (i.toNat + j.toNat) : Int)) (by omega) (by omega), hme]
      have g5' := g5
      generalize hMM : dg a i.toNat * dg b j.toNat = M at hm
      rw [w64 (a := (M : Int)) (by omega) (by omega), w64 (a := (dg o (i.toNat + j.toNat) : Int) + (M : Int)) (by omega) (by omega), w64 (by omega) (by omega), G0a _ (by omega), wr (by omega) (by omega), A1a]
      refine ⟨⟨by omega, by omega, by omega, by omega, by rw [List.length_set]; exact g4, ?_, fun q hq => ?_⟩, by omega⟩
      . have hs := A9i (l := o) (k := i.toNat + j.toNat) (v := (c + ((dg o (i.toNat + j.toNat) : Int) + (M : Int))) % 4294967296) (by omega)
        rw [show (j + 1).toNat = j.toNat + 1 from by omega, J4 b, <- Nat.add_assoc i.toNat, Nat.pow_succ, Nat.mul_add (dg a i.toNat)]
        have e1 : dg a i.toNat * (4294967296 ^ j.toNat * dg b j.toNat) = 4294967296 ^ j.toNat * M := by rw [<- hMM, Nat.mul_left_comm]
        rw [e1, Nat.mul_add (4294967296 ^ i.toNat), <- Nat.mul_assoc (4294967296 ^ i.toNat) (4294967296 ^ j.toNat), <- Nat.pow_add, <- Nat.add_assoc (nv out), <- g5]
        generalize 4294967296 ^ (i.toNat + j.toNat) = P at *
        have hd : ((c + ((dg o (i.toNat + j.toNat) : Int) + (M : Int))) % 4294967296).toNat + 4294967296 * ((c + ((dg o (i.toNat + j.toNat) : Int) + (M : Int))) / 4294967296).toNat = c.toNat + dg o (i.toNat + j.toNat) + M := by omega
        have hd2 := congrArg (P * ·) hd
        simp only [Nat.mul_add, <- Nat.mul_assoc] at hd2
        omega
      . rw [C4w (by omega), if_neg (by omega)]; exact g6 q hq
    . have hj := of_decide_eq_false hj
      rw [wr (a := i + (b.length : Int)) (by omega) (by omega), wr (by omega) (by omega), w32 g2 g3]
      refine ⟨⟨by omega, by omega⟩, ⟨by omega, by omega, by rw [List.length_set]; exact g4, ?_, fun q hq => ?_⟩, by omega⟩
      . have hs := A9i (l := o) (k := (i + (b.length : Int)).toNat) (v := c) (by omega)
        rw [g6 _ (by omega), Nat.mul_zero, Nat.add_zero] at hs
        rw [hs, show (i + (b.length : Int)).toNat = i.toNat + b.length from by omega]
        rw [show j.toNat = b.length from by omega, List.take_of_length_le (Nat.le_refl b.length)] at g5
        rw [g5, show (i + 1).toNat = i.toNat + 1 from by omega, J4, Nat.add_mul, h3, Nat.mul_assoc]
      . rw [C4w (by omega), if_neg (by omega)]; exact g6 q (by omega)
  . have h := of_decide_eq_false h
    refine ⟨by omega, ?_⟩
    rintro ⟨r, _⟩ _ hr
    simp only at hr ⊢
    rw [hr, h3, List.take_of_length_le (by omega)]
theorem C6h (x : A7 S8.args) (hw : awf S8.args x) (hp : S8.pre x) : A9b x := by
  obtain ⟨a, _⟩ := x
  have ha : A9 a := A5 hw.1.2
  change List Int at a
  have la : a.length <= 35184372088832 := hp
  have n1 := C5 ha
  simp only [A9b]
  refine ⟨hp, ?_⟩
  rintro ⟨r, _⟩ _ hr
  simp only at hr ⊢
  have hrv : nv r = nv a := by rw [hr, H2]
  have hra : A9 r := hr ▸ N0 _
  refine ⟨fun h => ?_, fun h => ?_⟩
  . have h := of_decide_eq_true h
    have h2 : 4294967296 ^ 2 <= nv a := F9i (by rw [<- hr]; omega)
    exact ⟨fun h3 => by omega, fun _ => by trivial⟩
  . have h := of_decide_eq_false h
    have hrl : r.length <= 2 := by omega
    rw [wr (a := (r.length : Int) - 1) (by omega) (by omega)]
    refine ⟨fun p => -1 <= p.2.1 /\ p.2.1 < (r.length : Int) /\ p.1 = (nv (r.drop (p.2.1 + 1).toNat) : Int), fun p => (p.2.1 + 1).toNat, ⟨by show (-1 : Int) <= (r.length : Int) - 1; omega, by show (r.length : Int) - 1 < _; omega, ?_⟩, ?_⟩
    . show (0 : Int) = _
      rw [List.drop_of_length_le (by show r.length <= ((r.length : Int) - 1 + 1).toNat; omega)]; rfl
    rintro ⟨v, i, _⟩ _ ⟨i0, i1, hv⟩
    change Int at v i
    simp only at i0 i1 hv ⊢
    refine ⟨fun h2 => ?_, fun h2 => ?_⟩
    . have h2 := of_decide_eq_true h2
      have hg := B7n hra h2 i1
      have hlt : nv (r.drop (i + 1).toNat) < 4294967296 := by
        have h3 := A8p (l := r.drop (i + 1).toNat) fun y hy => hra y (List.mem_of_mem_drop hy)
        have h4 : 4294967296 ^ (r.drop (i + 1).toNat).length <= 4294967296 ^ 1 := Nat.pow_le_pow_right (by decide) (by rw [List.length_drop]; omega)
        omega
      rw [wr (a := i - 1) (by omega) (by omega), show Min.min (Int.toNat 32) IntKind.u64.bits = 32 from rfl, w64 (a := v * 2 ^ 32) (by omega) (by omega), w64 (a := gx 0 r i) (by omega) (by omega)]
      have hor := C9x (v := gx 0 r i) (b := v) (k := 32) (by omega) (by omega) (by omega) (by omega) (by omega)
      rw [show IntKind.u64.bits = 64 from rfl, hor, w64 (by omega) (by omega)]
      refine ⟨by decide, ⟨h2, i1⟩, ⟨by omega, by omega, ?_⟩, by omega⟩
      rw [show i - 1 + 1 = i from by omega, T0 h2 i1]
      show _ = (((gx 0 r i).toNat + 4294967296 * nv (r.drop (i + 1).toNat) : Nat) : Int)
      omega
    . have h2 := of_decide_eq_false h2
      rw [show (i + 1).toNat = 0 from by omega, List.drop_zero, hrv] at hv
      refine ⟨fun _ => ⟨hv, by trivial⟩, fun h3 => ?_⟩
      have h4 := A8p hra
      have h5 : 4294967296 ^ r.length <= 4294967296 ^ 2 := Nat.pow_le_pow_right (by decide) hrl
      omega
def E2a : An := { loop := [(6, ⟨[], [], [(3, false, [.val (.int .i64)]), (4, false, [.val (.int .u32)])], [], []⟩)] }
def D0f : B6 := [(191, I7)]
def E6t : An := {}
def D4a : B6 := []
def D5e : An := { join := [(15, ⟨[0, 1, 4, 11], [0], [(5, false, [.val (.sl (.int .u32))])], [], []⟩), (11, ⟨[0, 1, 4, 11], [], [(5, false, [.val (.sl (.int .u32))])], [], [(0, .row (.int .u32) 153)]⟩)], loop := [(10, ⟨[0, 1, 4], [], [(5, false, [.val (.sl (.int .u32))]), (11, false, [.val (.int .i64)])], [], [(0, .row (.int .u32) 153)]⟩)], plan := [(7, [], [], true, (.p 0 (.p 1 (.p 2 (.p 4 (.p 5 (.p 6 (.e 3 (.e 7 (.p 8 (.p 9 (.p 10 .done))))))))))))] }
def B9l : B6 := [(157, A1c), (158, A0v), (176, H7), (191, I7), (224, S8), (225, A0a), (226, A2p)]
def E7x : An := { loop := [(2, ⟨[], [], [(0, false, [.val (.sl (.int .u32))]), (1, false, [.val (.sl (.int .u32))])], [], []⟩)] }
def D4x : B6 := [(188, O9), (191, I7)]
def B7c : A7 A0a.args -> Prop := fun (x : List Int × Unit) => sh0 x.1 /\ ∀ (r : List Int × Unit), WfU r.1 /\ True -> r.1 = nc (nv x.1) -> (decide ((r.1.length : Int) = (0 : Int)) = true -> (0 : Int) = (↑(X7 (nv x.1)) : Int)) /\ (decide ((r.1.length : Int) = (0 : Int)) = false -> ((0 : Int) <= IntKind.i64.wrap ((r.1.length : Int) - (1 : Int)) /\ IntKind.i64.wrap ((r.1.length : Int) - (1 : Int)) < (r.1.length : Int)) /\ ∃ (I : Int × Int × Unit -> Prop), ∃ (μ : Int × Int × Unit -> Nat), I (IntKind.i64.wrap ((32 : Int) * IntKind.i64.wrap ((r.1.length : Int) - (1 : Int))), gx (0 : Int) r.1 (IntKind.i64.wrap ((r.1.length : Int) - (1 : Int))), ()) /\ ∀ (p : Int × Int × Unit), G2 p.1 /\ (IntKind.u32.min <= p.2.1 /\ p.2.1 <= IntKind.u32.max) /\ True -> I p -> (decide (0 < p.2.1) = true -> (0 : (Ty.int IntKind.u64).den) <= (1 : Int) /\ I (IntKind.i64.wrap (p.1 + 1), Int.fdiv p.2.1 ((2 : Int) ^ Min.min (Int.toNat (1 : Int)) IntKind.u32.bits), ()) /\ μ (IntKind.i64.wrap (p.1 + 1), Int.fdiv p.2.1 ((2 : Int) ^ Min.min (Int.toNat (1 : Int)) IntKind.u32.bits), ()) < μ p) /\ (decide (0 < p.2.1) = false -> p.1 = (↑(X7 (nv x.1)) : Int)))
theorem D2r (x : A7 A0a.args) : K8 Tryz.prog tys D0f E2a A0a Tryz.f225 x = B7c x := by kernel_rfl
def C2f : A7 A2p.args -> Prop := fun (x : List Int × Int × Unit) => (32 : Int) ≠ (0 : Int) /\ (decide ((x.1.length : Int) <= IntKind.i64.wrap (Int.tdiv x.2.1 (32 : Int))) = true -> (0 : Int) = (↑(nv x.1 / (2 : Nat) ^ x.2.1.toNat % (2 : Nat)) : Int)) /\ (decide ((x.1.length : Int) <= IntKind.i64.wrap (Int.tdiv x.2.1 (32 : Int))) = false -> (32 : Int) ≠ (0 : Int) /\ ((0 : Int) <= IntKind.i64.wrap (Int.tdiv x.2.1 (32 : Int)) /\ IntKind.i64.wrap (Int.tdiv x.2.1 (32 : Int)) < (x.1.length : Int)) /\ (32 : Int) ≠ (0 : Int) /\ (0 : (Ty.int IntKind.u64).den) <= IntKind.u64.wrap (Int.tmod x.2.1 (32 : Int)) /\ IntKind.u32.wrap (↑(BitVec.ofInt IntKind.u32.bits ((gx (0 : Int) x.1 (IntKind.i64.wrap (Int.tdiv x.2.1 (32 : Int)))).fdiv ((2 : Int) ^ Min.min (IntKind.u64.wrap (Int.tmod x.2.1 (32 : Int))).toNat IntKind.u32.bits)) &&& BitVec.ofInt IntKind.u32.bits (1 : Int)).toNat : Int) = (↑(nv x.1 / (2 : Nat) ^ x.2.1.toNat % (2 : Nat)) : Int))
theorem D5y (x : A7 A2p.args) : K8 Tryz.prog tys D4a E6t A2p Tryz.f226 x = C2f x := by kernel_rfl
def A9a : A7 O9.args -> Prop := fun (x : List Int × List Int × Unit) => sh0 x.2.1 /\ ∀ (r : List Int × Unit), WfU r.1 /\ True -> r.1 = nc (nv x.2.1) -> (decide ((r.1.length : Int) = (0 : Int)) = true -> (nv x.2.1 = 0 -> false = false) /\ (nv x.2.1 ≠ 0 -> E0m Int = nc (nv x.1 / nv x.2.1) /\ E0m Int = nc (nv x.1 % nv x.2.1) /\ false = true)) /\ (decide ((r.1.length : Int) = (0 : Int)) = false -> sh0 x.1 /\ ∀ (d : Int × Bool × Unit), K9 d.1 /\ True /\ True -> (nv x.1 < 18446744073709551616 -> d.1 = (↑(nv x.1) : Int) /\ d.2.1 = true) /\ ((18446744073709551616 : Nat) <= nv x.1 -> d.2.1 = false) -> sh0 r.1 /\ ∀ (b : Int × Bool × Unit), K9 b.1 /\ True /\ True -> (nv r.1 < 18446744073709551616 -> b.1 = (↑(nv r.1) : Int) /\ b.2.1 = true) /\ ((18446744073709551616 : Nat) <= nv r.1 -> b.2.1 = false) -> (sel d.2.1 b.2.1 false = true -> b.1 ≠ 0 /\ b.1 ≠ 0 /\ True /\ ∀ (r : List Int × Unit), WfU r.1 /\ True -> r.1 = nc (IntKind.u64.wrap (Int.tdiv d.1 b.1)).toNat -> True /\ ∀ (f : List Int × Unit), WfU f.1 /\ True -> f.1 = nc (Int.tmod d.1 b.1).toNat -> (nv x.2.1 = 0 -> true = false) /\ (nv x.2.1 ≠ 0 -> r.1 = nc (nv x.1 / nv x.2.1) /\ f.1 = nc (nv x.1 % nv x.2.1) /\ true = true)) /\ (sel d.2.1 b.2.1 false = false -> ((0 : Int) <= (x.1.length : Int) /\ (x.1.length : Int) <= (x.1.length : Int) /\ (↑(4 : Nat) : Int) * (x.1.length : Int) <= (281474976710656 : Int) /\ (x.1.length : Int) <= (9223372036854775807 : Int)) /\ sh1 x.1 /\ ∀ (f : Int × Unit), G2 f.1 /\ True -> f.1 = (↑(X7 (nv x.1)) : Int) -> ∃ (I : List Int × Int × List Int × Unit -> Prop), ∃ (μ : List Int × Int × List Int × Unit -> Nat), I ([], IntKind.i64.wrap (f.1 - 1), List.replicate (x.1.length : Int).toNat (0 : Int), ()) /\ ∀ (p : List Int × Int × List Int × Unit), WfU p.1 /\ G2 p.2.1 /\ WfU p.2.2.1 /\ True -> I p -> (decide (0 <= p.2.1) = true -> ∃ (J : List Int × List Int × Unit -> Prop), ((sh1 p.1 /\ sh1 p.1) /\ ∀ (c : List Int × Unit), WfU c.1 /\ True -> c.1 = nc (nv p.1 + nv p.1) -> ∃ (J_1 : List Int × Unit -> Prop), (0 <= p.2.1 /\ ∀ (r : Int × Unit), (IntKind.u32.min <= r.1 /\ r.1 <= IntKind.u32.max) /\ True -> r.1 = (↑(nv x.1 / (2 : Nat) ^ Int.toNat p.2.1 % (2 : Nat)) : Int) -> (decide (r.1 = 1) = true -> (sh1 c.1 /\ sh1 [(1 : Int)]) /\ ∀ (r : List Int × Unit), WfU r.1 /\ True -> r.1 = nc (nv c.1 + nv [(1 : Int)]) -> J_1 r) /\ (decide (r.1 = 1) = false -> J_1 c)) /\ ∀ (a : List Int × Unit), WfU a.1 /\ True -> J_1 a -> (sh1 a.1 /\ sh1 r.1) /\ ∀ (e : List Int × Bool × Unit), WfU e.1 /\ True /\ True -> (nv a.1 < nv r.1 -> e.1 = [] /\ e.2.1 = false) /\ (nv r.1 <= nv a.1 -> e.1 = nc (nv a.1 - nv r.1) /\ e.2.1 = true) -> (e.2.1 = true -> (32 : Int) ≠ (0 : Int) /\ ((0 : Int) <= IntKind.i64.wrap (Int.tdiv p.2.1 (32 : Int)) /\ IntKind.i64.wrap (Int.tdiv p.2.1 (32 : Int)) < (p.2.2.1.length : Int)) /\ (32 : Int) ≠ (0 : Int) /\ (0 : (Ty.int IntKind.u64).den) <= IntKind.u64.wrap (Int.tmod p.2.1 (32 : Int)) /\ ((0 : Int) <= IntKind.i64.wrap (Int.tdiv p.2.1 (32 : Int)) /\ IntKind.i64.wrap (Int.tdiv p.2.1 (32 : Int)) < (p.2.2.1.length : Int)) /\ J (e.1, List.set p.2.2.1 (IntKind.i64.wrap (Int.tdiv p.2.1 (32 : Int))).toNat (IntKind.u32.wrap (↑(BitVec.ofInt IntKind.u32.bits (List.getD p.2.2.1 (IntKind.i64.wrap (Int.tdiv p.2.1 (32 : Int))).toNat (0 : Int)) ||| BitVec.ofInt IntKind.u32.bits (IntKind.u32.wrap ((1 : Int) * (2 : Int) ^ Min.min (IntKind.u64.wrap (Int.tmod p.2.1 (32 : Int))).toNat IntKind.u32.bits))).toNat : Int)), ())) /\ (e.2.1 = false -> J (a.1, p.2.2.1, ()))) /\ ∀ (a : List Int × List Int × Unit), WfU a.1 /\ WfU a.2.1 /\ True -> J a -> I (a.1, IntKind.i64.wrap (p.2.1 - 1), a.2.1, ()) /\ μ (a.1, IntKind.i64.wrap (p.2.1 - 1), a.2.1, ()) < μ p) /\ (decide (0 <= p.2.1) = false -> sh0 p.2.2.1 /\ ∀ (r : List Int × Unit), WfU r.1 /\ True -> r.1 = nc (nv p.2.2.1) -> sh0 p.1 /\ ∀ (c : List Int × Unit), WfU c.1 /\ True -> c.1 = nc (nv p.1) -> (nv x.2.1 = 0 -> true = false) /\ (nv x.2.1 ≠ 0 -> r.1 = nc (nv x.1 / nv x.2.1) /\ c.1 = nc (nv x.1 % nv x.2.1) /\ true = true))))
theorem C5y (x : A7 O9.args) : K8 Tryz.prog tys B9l D5e O9 Tryz.f188 x = A9a x := by kernel_rfl
def C2g : A7 A2k.args -> Prop := fun (x : List Int × List Int × Unit) => sh0 x.1 /\ ∀ (r : List Int × Unit), WfU r.1 /\ True -> r.1 = nc (nv x.1) -> sh0 x.2.1 /\ ∀ (a : List Int × Unit), WfU a.1 /\ True -> a.1 = nc (nv x.2.1) -> ∃ (I : List Int × List Int × Unit -> Prop), ∃ (μ : List Int × List Int × Unit -> Nat), I (r.1, a) /\ ∀ (p : List Int × List Int × Unit), WfU p.1 /\ WfU p.2.1 /\ True -> I p -> (decide ((0 : Int) < (p.2.1.length : Int)) = true -> (sh2 p.1 /\ sh2 p.2.1) /\ ∀ (r : List Int × List Int × Bool × Unit), WfU r.1 /\ WfU r.2.1 /\ True /\ True -> (nv p.2.1 = 0 -> r.2.2.1 = false) /\ (nv p.2.1 ≠ 0 -> r.1 = nc (nv p.1 / nv p.2.1) /\ r.2.1 = nc (nv p.1 % nv p.2.1) /\ r.2.2.1 = true) -> I (p.2.1, r.2.1, ()) /\ μ (p.2.1, r.2.1, ()) < μ p) /\ (decide ((0 : Int) < (p.2.1.length : Int)) = false -> p.1 = nc ((nv x.1).gcd (nv x.2.1)))
theorem D7b (x : A7 A2k.args) : K8 Tryz.prog tys D4x E7x A2k Tryz.f187 x = C2g x := by kernel_rfl
theorem D1i (x : A7 A0a.args) (hw : awf A0a.args x) (hp : A0a.pre x) : B7c x := by
  obtain ⟨a, _⟩ := x
  have ha : A9 a := A5 hw.1.2
  change List Int at a
  have la : a.length <= 17592186044416 := hp
  have n1 := C5 ha
  have hbl := E9f ha
  simp only [B7c]
  refine ⟨by show a.length <= 35184372088832; omega, ?_⟩
  rintro ⟨r, _⟩ _ hr
  simp only at hr ⊢
  have hrv : nv r = nv a := by rw [hr, H2]
  have hra : A9 r := hr ▸ N0 _
  refine ⟨fun h => ?_, fun h => ?_⟩
  . have h := of_decide_eq_true h
    have h0 : nv a = 0 := by rw [<- hrv, List.eq_nil_of_length_eq_zero (l := r) (by omega)]; rfl
    rw [h0]; rfl
  . have h := of_decide_eq_false h
    have hrl : r.length <= a.length := by rw [hr]; exact n1
    have h0 : nv a ≠ 0 := fun e => h (by rw [hr, e, Q6]; rfl)
    have ht := F5d h0
    rw [<- hr] at ht
    rw [wr (a := (r.length : Int) - 1) (by omega) (by omega), wr (a := 32 * ((r.length : Int) - 1)) (by omega) (by omega), A7d hra (by omega) (by omega), show ((r.length : Int) - 1).toNat = r.length - 1 from by omega]
    have hd := R9 hra (r.length - 1)
    refine ⟨⟨by omega, by omega⟩, fun p => 0 <= p.1 /\ 0 <= p.2.1 /\ p.1 + (X7 p.2.1.toNat : Int) = (X7 (nv a) : Int), fun p => p.2.1.toNat, ⟨by show (0 : Int) <= 32 * ((r.length : Int) - 1); omega, Int.natCast_nonneg _, ?_⟩, ?_⟩
    . show 32 * ((r.length : Int) - 1) + (X7 ((dg r (r.length - 1) : Nat) : Int).toNat : Int) = _
      rw [Int.toNat_natCast, ht]; omega
    rintro ⟨n, v, _⟩ _ ⟨h1, h2, h3⟩
    change Int at n v
    simp only at h1 h2 h3 ⊢
    refine ⟨fun h4 => ?_, fun h4 => ?_⟩
    . have h4 := of_decide_eq_true h4
      have hh := F0d (n := v.toNat) (by omega)
      have e : Int.fdiv v (2 ^ Min.min (Int.toNat 1) IntKind.u32.bits) = v / 2 := by
        show Int.fdiv v (2 ^ 1) = _
        rw [Int.fdiv_eq_ediv_of_nonneg _ (by decide)]; rfl
      rw [e, wr (a := n + 1) (by omega) (by omega)]
      refine ⟨by decide, ⟨by omega, by omega, ?_⟩, by omega⟩
      rw [show (v / 2).toNat = v.toNat / 2 from by omega]; omega
    . have h4 := of_decide_eq_false h4
      rw [show v.toNat = 0 from by omega, C0c] at h3
      omega
theorem D8l (x : A7 A2p.args) (hw : awf A2p.args x) (hp : A2p.pre x) : C2f x := by
  obtain ⟨a, n, _⟩ := x
  have ha : A9 a := A5 hw.1.2
  have hn := (show IntKind.i64.min <= n /\ n <= IntKind.i64.max from hw.2.1)
  rw [B5r, C4a] at hn
  change List Int at a
  change Int at n
  have hn' : -9223372036854775808 <= n /\ n <= 9223372036854775807 := hn
  have n0 : 0 <= n := hp
  simp only [C2f]
  have e1 : IntKind.i64.wrap (Int.tdiv n 32) = ((n.toNat / 32 : Nat) : Int) := by
    rw [Int.tdiv_eq_ediv_of_nonneg n0, wr (by omega) (by omega)]; omega
  have e2 : IntKind.u64.wrap (Int.tmod n 32) = ((n.toNat % 32 : Nat) : Int) := by
    rw [Int.tmod_eq_emod_of_nonneg n0, w64 (by omega) (by omega)]; omega
  rw [e1, e2]
  have hb := F7j ha n.toNat
  refine ⟨by decide, fun h => ?_, fun h => ?_⟩
  . have h := of_decide_eq_true h
    rw [B4o (by omega), Nat.zero_div] at hb
    rw [<- hb]; rfl
  . have h := of_decide_eq_false h
    have h5 : n.toNat % 32 <= 31 := by omega
    refine ⟨by decide, ⟨by omega, by omega⟩, by decide, Int.natCast_nonneg _, ?_⟩
    rw [Int.toNat_natCast, show Min.min (n.toNat % 32) IntKind.u32.bits = n.toNat % 32 from by show Min.min (n.toNat % 32) 32 = _; omega]
    rw [A7d ha (by omega) (by omega), Int.toNat_natCast, <- hb]
    have hd := R9 ha (n.toNat / 32)
    have e3 : Int.fdiv (dg a (n.toNat / 32) : Int) (2 ^ (n.toNat % 32)) = ((dg a (n.toNat / 32) / 2 ^ (n.toNat % 32) : Nat) : Int) := by
      rw [show ((2 : Int) ^ (n.toNat % 32)) = ((2 ^ (n.toNat % 32) : Nat) : Int) from by rw [Int.natCast_pow]; rfl, Int.fdiv_eq_ediv_of_nonneg _ (Int.natCast_nonneg _)]; rfl
    have hle : dg a (n.toNat / 32) / 2 ^ (n.toNat % 32) <= dg a (n.toNat / 32) := Nat.div_le_self _ _
    rw [e3]
    generalize dg a (n.toNat / 32) / 2 ^ (n.toNat % 32) = Z at *
    rw [show IntKind.u32.bits = 32 from rfl, F0s (Int.natCast_nonneg _) (by omega), w32 (by omega) (by omega), Int.toNat_natCast]
theorem C6o (x : A7 O9.args) (hw : awf O9.args x) (hp : O9.pre x) : A9a x := by
  obtain ⟨a, b, _⟩ := x
  have ha : A9 a := A5 hw.1.2
  have hb : A9 b := A5 hw.2.1.2
  change List Int at a b
  obtain ⟨la, lb⟩ : a.length <= 8796093022208 /\ b.length <= 8796093022208 := hp
  have n2 := C5 hb
  simp only [A9a]
  refine ⟨by show b.length <= 35184372088832; omega, ?_⟩
  rintro ⟨d, _⟩ _ hd
  simp only at hd ⊢
  have hdv : nv d = nv b := by rw [hd, H2]
  have hdl : d.length <= b.length := by rw [hd]; exact n2
  refine ⟨fun h => ?_, fun h => ?_⟩
  . have h := of_decide_eq_true h
    have h0 : nv b = 0 := by rw [<- hdv, List.eq_nil_of_length_eq_zero (l := d) (by omega)]; rfl
    exact ⟨fun _ => by trivial, fun h1 => absurd h0 h1⟩
  have h := of_decide_eq_false h
  have hb0 : nv b ≠ 0 := fun e => h (by rw [hd, e, Q6]; rfl)
  refine ⟨by show a.length <= 35184372088832; omega, ?_⟩
  rintro ⟨u, su, _⟩ ⟨hu64, _⟩ ⟨u1, u2⟩
  refine ⟨by show d.length <= 35184372088832; omega, ?_⟩
  rintro ⟨v, sv, _⟩ _ ⟨v1, v2⟩
  change Int at u v
  change Bool at su sv
  simp only at u1 u2 v1 v2 hu64 ⊢
  rw [hdv] at v1 v2
  refine ⟨fun hs => ?_, fun _ => ?_⟩
  . rw [U2, Bool.and_eq_true] at hs
    have a1 : nv a < 18446744073709551616 := by
      rcases Nat.lt_or_ge (nv a) 18446744073709551616 with h1 | h1
      . exact h1
      . rw [u2 h1] at hs; exact absurd hs.1 (by decide)
    have a2 : nv b < 18446744073709551616 := by
      rcases Nat.lt_or_ge (nv b) 18446744073709551616 with h1 | h1
      . exact h1
      . rw [v2 h1] at hs; exact absurd hs.2 (by decide)
    have hu := (u1 a1).1
    have hv := (v1 a2).1
    have e1 : Int.tdiv u v = ((nv a / nv b : Nat) : Int) := by rw [hu, hv]; rfl
    have e2 : Int.tmod u v = ((nv a % nv b : Nat) : Int) := by rw [hu, hv]; rfl
    have hq : nv a / nv b <= nv a := Nat.div_le_self _ _
    refine ⟨by omega, by omega, trivial, ?_⟩
    rintro ⟨q, _⟩ _ hq'
    refine ⟨trivial, ?_⟩
    rintro ⟨m, _⟩ _ hm
    simp only at hq' hm ⊢
    refine ⟨fun h0 => absurd h0 hb0, fun _ => ⟨?_, ?_, by trivial⟩⟩
    . rw [hq', e1]
      generalize nv a / nv b = Q at *
      rw [w64 (by omega) (by omega)]; rfl
    . rw [hm, e2]; rfl
  . refine ⟨⟨by omega, Int.le_refl _, by omega, by omega⟩, by show a.length <= 17592186044416; omega, ?_⟩
    rintro ⟨n, _⟩ _ hn
    change Int at n
    simp only at hn ⊢
    have hbl := E9f ha
    have hNlt := E4h (nv a)
    rw [hn, wr (a := (X7 (nv a) : Int) - 1) (by omega) (by omega)]
    clear hn u1 u2 v1 v2 hu64
    refine ⟨fun p => -1 <= p.2.1 /\ p.2.1 <= (X7 (nv a) : Int) - 1 /\ p.1 = nc (nv a / 2 ^ (p.2.1 + 1).toNat % nv b) /\ nv p.2.2.1 = nv a / 2 ^ (p.2.1 + 1).toNat / nv b * 2 ^ (p.2.1 + 1).toNat /\ p.2.2.1.length = a.length, fun p => (p.2.1 + 1).toNat, ⟨by show (-1 : Int) <= (X7 (nv a) : Int) - 1; omega, Int.le_refl _, ?_, ?_, ?_⟩, ?_⟩
    . show [] = _
      rw [show (((X7 (nv a) : Int) - 1) + 1).toNat = X7 (nv a) from by omega, Nat.div_eq_of_lt hNlt, Nat.zero_mod, Q6]
    . show nv (List.replicate _ 0) = _
      rw [B2u, show (((X7 (nv a) : Int) - 1) + 1).toNat = X7 (nv a) from by omega, Nat.div_eq_of_lt hNlt, Nat.zero_div, Nat.zero_mul]
    . show (List.replicate _ 0).length = _
      simp
    rintro ⟨r, i, q, _⟩ ⟨_, _, hwq, _⟩ ⟨i0, i1, hr, hq, hql⟩
    change List Int at r q
    change Int at i
    have hqL : A9 q := A5 hwq.2
    simp only at i0 i1 hr hq hql ⊢
    refine ⟨fun hi => ?_, fun hi => ?_⟩
    . have hi := of_decide_eq_true hi
      obtain ⟨b0, b1, b2⟩ := F3v (a := nv a) (b := nv b) (i := i.toNat) hb0
      rw [show (i + 1).toNat = i.toNat + 1 from by omega] at hr hq
      have hrlt : nv a / 2 ^ (i.toNat + 1) % nv b < nv b := Nat.mod_lt _ (Nat.pos_of_ne_zero hb0)
      have hbit : nv a / 2 ^ i.toNat % 2 < 2 := Nat.mod_lt _ (by decide)
      have hrv : nv r = nv a / 2 ^ (i.toNat + 1) % nv b := by rw [hr, H2]
      rw [<- hrv] at b1 b2 hrlt
      have hrl : r.length <= 8796093022208 := by
        have := M5 (Nat.le_of_lt hrlt)
        rw [hrv, <- hr] at this; omega
      have hrr : r = nc (nv r) := by rw [hrv]; exact hr
      clear hr hrv
      generalize hM : nv a / 2 ^ (i.toNat + 1) / nv b = M at *
      generalize hbt : nv a / 2 ^ i.toNat % 2 = bt at *
      have e1 : IntKind.i64.wrap (Int.tdiv i 32) = ((i.toNat / 32 : Nat) : Int) := by
        rw [Int.tdiv_eq_ediv_of_nonneg hi, wr (by omega) (by omega)]; omega
      have e2 : IntKind.u64.wrap (Int.tmod i 32) = ((i.toNat % 32 : Nat) : Int) := by
        rw [Int.tmod_eq_emod_of_nonneg hi, w64 (by omega) (by omega)]; omega
      have h5 : i.toNat % 32 <= 31 := by omega
      have hil : i.toNat / 32 < q.length := by omega
      rw [e1, e2, wr (a := i - 1) (by omega) (by omega)]
      refine ⟨fun p => p.1 = nc (nv a / 2 ^ i.toNat % nv b) /\ nv p.2.1 = nv a / 2 ^ i.toNat / nv b * 2 ^ i.toNat /\ p.2.1.length = a.length, ⟨⟨by show r.length <= _; omega, by show r.length <= _; omega⟩, ?_⟩, ?_⟩
      . rintro ⟨r2, _⟩ _ hr2
        simp only at hr2 ⊢
        have l2 : r2.length <= 8796093022209 := by
          have := D3z (nv r) (nv r)
          rw [hr2]; rw [<- hrr] at this; omega
        refine ⟨fun p => p.1 = nc (2 * nv r + bt), ⟨hi, ?_⟩, ?_⟩
        . rintro ⟨z, _⟩ _ hz
          simp only at hz ⊢
          refine ⟨fun h1 => ?_, fun h1 => ?_⟩
          . have h1 := of_decide_eq_true h1
            refine ⟨⟨by show r2.length <= _; omega, by show ([1] : List Int).length <= _; decide⟩, ?_⟩
            rintro ⟨r3, _⟩ _ hr3
            simp only at hr3 ⊢
            rw [hr3, hr2, H2, G1d]
            congr 1; omega
          . have h1 := of_decide_eq_false h1
            show r2 = _
            rw [hr2]; congr 1; omega
        rintro ⟨r3, _⟩ _ hr3
        simp only at hr3 ⊢
        have hr3v : nv r3 = 2 * nv r + bt := by rw [hr3, H2]
        have l3 : r3.length <= 8796093022210 := by
          have e : 2 * nv r + bt <= (nv r + nv r) + (nv r + nv r) \/ nv r = 0 := by omega
          rw [hr3]
          rcases e with e | e
          . have a1 := M5 e
            have a2 := D3z (nv r + nv r) (nv r + nv r)
            rw [<- hr2] at a2; omega
          . have a1 := M5 (m := 2 * nv r + bt) (n := 1) (by omega)
            rw [C5a] at a1
            have : ([1] : List Int).length = 1 := rfl
            omega
        refine ⟨⟨by show r3.length <= _; omega, by show d.length <= _; omega⟩, ?_⟩
        rintro ⟨r5, ok, _⟩ _ hr5
        change Bool at ok
        simp only at hr5 ⊢
        rw [hr3v, hdv] at hr5
        refine ⟨fun hok => ?_, fun hok => ?_⟩
        . have hge : nv b <= 2 * nv r + bt := by
            rcases Nat.lt_or_ge (2 * nv r + bt) (nv b) with h1 | h1
            . rw [(hr5.1 h1).2] at hok; exact absurd hok (by decide)
            . exact h1
          rw [if_pos hge] at b1 b2
          obtain ⟨bb, s1, s2⟩ := F7n (q := q) hqL (M := M) (i := i.toNat) hq hil
          have hd32 := R9 hqL (i.toNat / 32)
          obtain ⟨o1, o2⟩ := F3z (d := dg q (i.toNat / 32)) (b := bb) (s := i.toNat % 32) s1 (by omega) h5
          refine ⟨by decide, ⟨by omega, by omega⟩, by decide, Int.natCast_nonneg _, ⟨by omega, by omega⟩, ?_, ?_, ?_⟩
          . show r5 = _
            rw [(hr5.2 hge).1, b2]
          . show nv (q.set _ _) = _
            rw [Int.toNat_natCast, Int.toNat_natCast, show Min.min (i.toNat % 32) IntKind.u32.bits = i.toNat % 32 from by show Min.min (i.toNat % 32) 32 = _; omega]
            rw [X1 hqL, Int.one_mul, show ((2 : Int) ^ (i.toNat % 32)) = ((2 ^ (i.toNat % 32) : Nat) : Int) from by rw [Int.natCast_pow]; rfl]
            have hp2 : 2 ^ (i.toNat % 32) <= 2 ^ 31 := Nat.pow_le_pow_right (by decide) h5
            have hp0 : (0 : Int) <= ((2 ^ (i.toNat % 32) : Nat) : Int) := Int.natCast_nonneg _
            rw [w32 (a := ((2 ^ (i.toNat % 32) : Nat) : Int)) (by omega) (by omega), show IntKind.u32.bits = 32 from rfl, o1, w32 (by omega) (by omega), s2, b1]
          . show (q.set _ _).length = _
            rw [List.length_set]; exact hql
        . have hlt : 2 * nv r + bt < nv b := by
            rcases Nat.lt_or_ge (2 * nv r + bt) (nv b) with h1 | h1
            . exact h1
            . rw [(hr5.2 h1).2] at hok; exact absurd hok (by decide)
          rw [if_neg (by omega)] at b1 b2
          refine ⟨?_, ?_, hql⟩
          . show r3 = _
            rw [hr3, b2, Nat.sub_zero]
          . show nv q = _
            rw [hq, b1, Nat.add_zero, Nat.pow_succ]; grind
      . rintro ⟨r', q', _⟩ _ ⟨j1, j2, j3⟩
        simp only at j1 j2 j3 ⊢
        refine ⟨⟨by omega, by omega, ?_, ?_, j3⟩, by omega⟩
        . rw [show i - 1 + 1 = i from by omega]; exact j1
        . rw [show i - 1 + 1 = i from by omega]; exact j2
    . have hi := of_decide_eq_false hi
      rw [show (i + 1).toNat = 0 from by omega, Nat.pow_zero, Nat.div_one] at hr hq
      rw [Nat.mul_one] at hq
      have hrl : r.length <= 8796093022208 := by
        have := M5 (Nat.le_of_lt (Nat.mod_lt (nv a) (Nat.pos_of_ne_zero hb0)))
        rw [<- hr] at this; omega
      refine ⟨by show q.length <= _; omega, ?_⟩
      rintro ⟨q', _⟩ _ hq'
      refine ⟨by show r.length <= _; omega, ?_⟩
      rintro ⟨r', _⟩ _ hr'
      simp only at hq' hr' ⊢
      refine ⟨fun h => absurd h hb0, fun _ => ⟨by rw [hq', hq], by rw [hr', hr, H2], by trivial⟩⟩
theorem D7m (x : A7 A2k.args) (hw : awf A2k.args x) (hp : A2k.pre x) : C2g x := by
  obtain ⟨a, b, _⟩ := x
  have ha : A9 a := A5 hw.1.2
  have hb : A9 b := A5 hw.2.1.2
  change List Int at a b
  obtain ⟨la, lb⟩ : a.length <= 8796093022208 /\ b.length <= 8796093022208 := hp
  have n1 := C5 ha
  have n2 := C5 hb
  simp only [C2g]
  refine ⟨by show a.length <= 35184372088832; omega, ?_⟩
  rintro ⟨r, _⟩ _ hr
  refine ⟨by show b.length <= 35184372088832; omega, ?_⟩
  rintro ⟨s, _⟩ _ hs
  simp only at hr hs ⊢
  refine ⟨fun p => p.1 = nc (nv p.1) /\ p.2.1 = nc (nv p.2.1) /\ Nat.gcd (nv p.1) (nv p.2.1) = Nat.gcd (nv a) (nv b) /\ p.1.length <= 8796093022208 /\ p.2.1.length <= 8796093022208, fun p => nv p.2.1, ⟨by show r = nc (nv r); rw [hr, H2], by show s = nc (nv s); rw [hs, H2], by show Nat.gcd (nv r) (nv s) = _; rw [hr, hs, H2, H2], by show r.length <= _; rw [hr]; omega, by show s.length <= _; rw [hs]; omega⟩, ?_⟩
  rintro ⟨u, v, _⟩ _ ⟨e1, e2, hg, l1, l2⟩
  change List Int at u v
  simp only at e1 e2 hg l1 l2 ⊢
  refine ⟨fun h => ?_, fun h => ?_⟩
  . have h := of_decide_eq_true h
    have hv0 : 0 < nv v := by
      rcases Nat.eq_zero_or_pos (nv v) with h1 | h1
      . rw [h1, Q6] at e2
        rw [e2] at h
        exact absurd h (by simp)
      . exact h1
    refine ⟨⟨l1, l2⟩, ?_⟩
    rintro ⟨q, m, ok, _⟩ _ hqm
    simp only at hqm ⊢
    obtain ⟨_, hm, _⟩ := hqm.2 (by omega)
    have hmv : nv m = nv u % nv v := by rw [hm, H2]
    have hml := Nat.mod_lt (nv u) hv0
    refine ⟨⟨e2, by rw [hmv]; exact hm, ?_, l2, ?_⟩, by rw [hmv]; exact hml⟩
    . rw [hmv, <- hg, Nat.gcd_comm (nv u), Nat.gcd_comm (nv v)]; exact (Nat.gcd_rec (nv v) (nv u)).symm
    . have := M5 (Nat.le_of_lt hml)
      rw [<- hm, <- e2] at this; omega
  . have h := of_decide_eq_false h
    have h0 : nv v = 0 := by rw [List.eq_nil_of_length_eq_zero (l := v) (by omega)]; rfl
    rw [h0, Nat.gcd_zero_right] at hg
    rw [e1, hg]
def E3i : An := {}
def C8v : B6 := [(191, I7)]
def E2x : An := {}
def D0s : B6 := [(149, K6)]
def E1j : An := {}
def C5h : B6 := [(77, Q4)]
def D2q : An := {}
def B4v : B6 := [(149, K6), (176, H7)]
def E4g : An := {}
def D0v : B6 := [(145, W8)]
def E6v : An := {}
def D3k : B6 := [(149, K6)]
def E8c : An := {}
def D4t : B6 := [(149, K6)]
def E8d : An := { plan := [(2, [1, 3, 5], [8], true, (.p 0 (.q 1 (.p 2 (.q 3 (.p 4 (.q 5 (.e 6 (.e 7 (.e 8 .done))))))))))] }
def D4e : B6 := [(149, K6), (157, A1c), (158, A0v)]
def E8u : An := { plan := [(1, [0, 1], [4], true, (.q 0 (.q 1 (.e 2 (.e 3 (.e 4 .done))))))] }
def D4m : B6 := [(93, X8), (148, A1f)]
def E8e : An := { plan := [(1, [1, 3, 6, 8], [11], true, (.p 0 (.q 1 (.p 2 (.q 3 (.p 4 (.p 5 (.q 6 (.p 7 (.q 8 (.e 9 (.e 10 (.e 11 .done)))))))))))))] }
def D3r : B6 := [(149, K6), (150, A2n)]
def E6y : An := {}
def D4d : B6 := [(149, K6), (187, A2k)]
def D5q : An := { join := [(10, ⟨[4, 5], [], [], [(2, 29, [.val .bool, .val (.sl (.int .u32))]), (3, 29, [.val .bool, .val (.sl (.int .u32))])], []⟩)], plan := [(4, [1, 3, 8], [11, 12], true, (.p 0 (.q 1 (.p 2 (.q 3 (.p 4 (.p 5 (.p 7 (.q 8 (.p 9 (.e 6 (.e 10 (.e 11 (.e 12 .done)))))))))))))), (6, [0, 1], [4], true, (.q 0 (.q 1 (.e 2 (.e 3 (.e 4 .done)))))), (8, [0], [3], true, (.q 0 (.e 1 (.e 2 (.e 3 .done))))), (9, [0], [3], true, (.q 0 (.e 1 (.e 2 (.e 3 .done))))), (10, [0], [2, 3], false, (.q 0 (.or 1 (.e 2 (.e 3 (.p 4 .done))) (.e 2 (.e 1 (.e 3 (.p 4 .done)))))))] }
def B8x : B6 := [(93, X8), (132, L3), (149, K6), (188, O9), (189, A2u), (190, A2l)]
def B6a : A7 K6.args -> Prop := fun (x : Bool × List Int × Unit) => sh0 x.2.1 /\ ∀ (r : List Int × Unit), WfU r.1 /\ True -> r.1 = nc (nv x.2.1) -> (sel x.1 (decide ((0 : Int) < (r.1.length : Int))) false, r.1) = ic (iv (x.1, x.2.1))
theorem D2u (x : A7 K6.args) : K8 Tryz.prog tys C8v E3i K6 Tryz.f149 x = B6a x := by kernel_rfl
def B7j : A7 W8.args -> Prop := fun (x : (Bool × List Int) × Unit) => sh0 x.1.2 /\ ∀ (r : (Bool × List Int) × Unit), WfZ r.1 /\ True -> r.1 = ic (iv x.1) -> r.1 = ic (iv x.1)
theorem D1x (x : A7 W8.args) : K8 Tryz.prog tys D0s E2x W8 Tryz.f145 x = B7j x := by kernel_rfl
def B1b : A7 V4.args -> Prop := fun (x : (Bool × List Int) × (Bool × List Int) × Unit) => ((x.1.1 == x.2.1.1) = true -> True) /\ ∀ (r : Bool × Unit), ((x.1.1 == x.2.1.1) = true -> (True /\ True) /\ r.1 = decide (x.1.2 = x.2.1.2)) -> sel (x.1.1 == x.2.1.1) r.1 false = decide (x.1 = x.2.1)
theorem C9m (x : A7 V4.args) : K8 Tryz.prog tys C5h E1j V4 Tryz.f76 x = B1b x := by kernel_rfl
def A5y : A7 L3.args -> Prop := fun (x : Int × Unit) => (decide (x.1 < 0) = true -> True /\ ∀ (r : List Int × Unit), WfU r.1 /\ True -> r.1 = nc (IntKind.u64.wrap (IntKind.u64.wrap (IntKind.i64.wrap (-IntKind.i64.wrap (x.1 + 1))) + (1 : Int))).toNat -> sh0 r.1 /\ ∀ (a : (Bool × List Int) × Unit), WfZ a.1 /\ True -> a.1 = ic (iv (true, r.1)) -> a.1 = ic x.1) /\ (decide (x.1 < 0) = false -> True /\ ∀ (r : List Int × Unit), WfU r.1 /\ True -> r.1 = nc (IntKind.u64.wrap x.1).toNat -> sh0 r.1 /\ ∀ (a : (Bool × List Int) × Unit), WfZ a.1 /\ True -> a.1 = ic (iv (false, r.1)) -> a.1 = ic x.1)
theorem C4k (x : A7 L3.args) : K8 Tryz.prog tys B4v D2q L3 Tryz.f132 x = A5y x := by kernel_rfl
def B7g : A7 W4.args -> Prop := fun (x : (Bool × List Int) × Unit) => sh0 x.1.2 /\ ∀ (r : (Bool × List Int) × Unit), WfZ r.1 /\ True -> r.1 = ic (iv x.1) -> (r.1.1 = true -> (-1 : Int) = (iv x.1).sign) /\ (r.1.1 = false -> (decide ((r.1.2.length : Int) = (0 : Int)) = true -> (0 : Int) = (iv x.1).sign) /\ (decide ((r.1.2.length : Int) = (0 : Int)) = false -> (1 : Int) = (iv x.1).sign))
theorem D2y (x : A7 W4.args) : K8 Tryz.prog tys D0v E4g W4 Tryz.f88 x = B7g x := by kernel_rfl
def C1l : A7 A1f.args -> Prop := fun (x : (Bool × List Int) × Unit) => sh0 x.1.2 /\ ∀ (r : (Bool × List Int) × Unit), WfZ r.1 /\ True -> r.1 = ic (iv (!x.1.1, x.1.2)) -> r.1 = ic (-iv x.1)
theorem D7c (x : A7 A1f.args) : K8 Tryz.prog tys D3k E6v A1f Tryz.f148 x = C1l x := by kernel_rfl
def C3i : A7 A2u.args -> Prop := fun (x : (Bool × List Int) × Unit) => sh0 x.1.2 /\ ∀ (r : (Bool × List Int) × Unit), WfZ r.1 /\ True -> r.1 = ic (iv (false, x.1.2)) -> r.1 = ic (↑(iv x.1).natAbs : Int)
theorem D5k (x : A7 A2u.args) : K8 Tryz.prog tys D4t E8c A2u Tryz.f189 x = C3i x := by kernel_rfl
def C2k : A7 X8.args -> Prop := fun (x : (Bool × List Int) × (Bool × List Int) × Unit) => ((x.1.1 == x.2.1.1) = true -> (sh1 x.1.2 /\ sh1 x.2.1.2) /\ ∀ (r : List Int × Unit), WfU r.1 /\ True -> r.1 = nc (nv x.1.2 + nv x.2.1.2) -> sh0 r.1 /\ ∀ (a : (Bool × List Int) × Unit), WfZ a.1 /\ True -> a.1 = ic (iv (x.1.1, r.1)) -> a.1 = ic (iv x.1 + iv x.2.1)) /\ ((x.1.1 == x.2.1.1) = false -> (sh1 x.1.2 /\ sh1 x.2.1.2) /\ ∀ (r : List Int × Bool × Unit), WfU r.1 /\ True /\ True -> (nv x.1.2 < nv x.2.1.2 -> r.1 = [] /\ r.2.1 = false) /\ (nv x.2.1.2 <= nv x.1.2 -> r.1 = nc (nv x.1.2 - nv x.2.1.2) /\ r.2.1 = true) -> (r.2.1 = true -> sh0 r.1 /\ ∀ (a : (Bool × List Int) × Unit), WfZ a.1 /\ True -> a.1 = ic (iv (x.1.1, r.1)) -> a.1 = ic (iv x.1 + iv x.2.1)) /\ (r.2.1 = false -> (sh1 x.2.1.2 /\ sh1 x.1.2) /\ ∀ (r : List Int × Bool × Unit), WfU r.1 /\ True /\ True -> (nv x.2.1.2 < nv x.1.2 -> r.1 = [] /\ r.2.1 = false) /\ (nv x.1.2 <= nv x.2.1.2 -> r.1 = nc (nv x.2.1.2 - nv x.1.2) /\ r.2.1 = true) -> sh0 r.1 /\ ∀ (a : (Bool × List Int) × Unit), WfZ a.1 /\ True -> a.1 = ic (iv (x.2.1.1, r.1)) -> a.1 = ic (iv x.1 + iv x.2.1)))
theorem D6x (x : A7 X8.args) : K8 Tryz.prog tys D4e E8d X8 Tryz.f93 x = C2k x := by kernel_rfl
def C4r : A7 A2l.args -> Prop := fun (x : (Bool × List Int) × (Bool × List Int) × Unit) => sh0 x.2.1.2 /\ ∀ (r : (Bool × List Int) × Unit), WfZ r.1 /\ True -> r.1 = ic (-iv x.2.1) -> (sh1 x.1.2 /\ sh1 r.1.2) /\ ∀ (a : (Bool × List Int) × Unit), WfZ a.1 /\ True -> a.1 = ic (iv x.1 + iv r.1) -> a.1 = ic (iv x.1 - iv x.2.1)
theorem D6q (x : A7 A2l.args) : K8 Tryz.prog tys D4m E8u A2l Tryz.f190 x = C4r x := by kernel_rfl
def C3j : A7 A2z.args -> Prop := fun (x : (Bool × List Int) × (Bool × List Int) × Unit) => (sh1 x.1.2 /\ sh1 x.2.1.2) /\ ∀ (r : List Int × Unit), WfU r.1 /\ True -> r.1 = nc (nv x.1.2 * nv x.2.1.2) -> sh0 r.1 /\ ∀ (a : (Bool × List Int) × Unit), WfZ a.1 /\ True -> a.1 = ic (iv (x.1.1 != x.2.1.1, r.1)) -> a.1 = ic (iv x.1 * iv x.2.1)
theorem D7o (x : A7 A2z.args) : K8 Tryz.prog tys D3r E8e A2z Tryz.f82 x = C3j x := by kernel_rfl
def C2a : A7 A2m.args -> Prop := fun (x : (Bool × List Int) × (Bool × List Int) × Unit) => (sh2 x.1.2 /\ sh2 x.2.1.2) /\ ∀ (r : List Int × Unit), WfU r.1 /\ True -> r.1 = nc ((nv x.1.2).gcd (nv x.2.1.2)) -> sh0 r.1 /\ ∀ (a : (Bool × List Int) × Unit), WfZ a.1 /\ True -> a.1 = ic (iv (false, r.1)) -> a.1 = ic (↑((nv x.1.2).gcd (nv x.2.1.2)) : Int)
theorem D7k (x : A7 A2m.args) : K8 Tryz.prog tys D4d E6y A2m Tryz.f146 x = C2a x := by kernel_rfl
def A8o : A7 S9.args -> Prop := fun (x : (Bool × List Int) × (Bool × List Int) × Unit) => (sh2 x.1.2 /\ sh2 x.2.1.2) /\ ∀ (r : List Int × List Int × Bool × Unit), WfU r.1 /\ WfU r.2.1 /\ True /\ True -> (nv x.2.1.2 = 0 -> r.2.2.1 = false) /\ (nv x.2.1.2 ≠ 0 -> r.1 = nc (nv x.1.2 / nv x.2.1.2) /\ r.2.1 = nc (nv x.1.2 % nv x.2.1.2) /\ r.2.2.1 = true) -> ((!r.2.2.1) = true -> iv x.2.1 ≠ 0 -> (false, []) = ic (iv x.1 / iv x.2.1) /\ (false, []) = ic (iv x.1 % iv x.2.1) /\ false = true) /\ ((!r.2.2.1) = false -> sh0 r.1 /\ ∀ (b : (Bool × List Int) × Unit), WfZ b.1 /\ True -> b.1 = ic (iv (x.1.1 != x.2.1.1, r.1)) -> sh0 r.2.1 /\ ∀ (c : (Bool × List Int) × Unit), WfZ c.1 /\ True -> c.1 = ic (iv (x.1.1, r.2.1)) -> ∃ (J : Bool × List Int × Bool × List Int × Unit -> Prop), ((c.1.1 = true -> sh0 x.2.1.2 /\ ∀ (r : (Bool × List Int) × Unit), WfZ r.1 /\ True -> r.1 = ic (↑(iv x.2.1).natAbs : Int) -> (sh1 c.1.2 /\ sh1 r.1.2) /\ ∀ (d : (Bool × List Int) × Unit), WfZ d.1 /\ True -> d.1 = ic (iv c.1 + iv r.1) -> (x.2.1.1 = true -> True /\ ∀ (r : (Bool × List Int) × Unit), WfZ r.1 /\ True -> r.1 = ic (1 : Int) -> (sh1 b.1.2 /\ sh1 r.1.2) /\ ∀ (a : (Bool × List Int) × Unit), WfZ a.1 /\ True -> a.1 = ic (iv b.1 + iv r.1) -> J (a.1.1, a.1.2, d.1.1, d.1.2, ())) /\ (x.2.1.1 = false -> True /\ ∀ (r : (Bool × List Int) × Unit), WfZ r.1 /\ True -> r.1 = ic (1 : Int) -> (sh1 b.1.2 /\ sh1 r.1.2) /\ ∀ (a : (Bool × List Int) × Unit), WfZ a.1 /\ True -> a.1 = ic (iv b.1 - iv r.1) -> J (a.1.1, a.1.2, d.1.1, d.1.2, ()))) /\ (c.1.1 = false -> J (b.1.1, b.1.2, c.1.1, c.1.2, ()))) /\ ∀ (p : Bool × List Int × Bool × List Int × Unit), True /\ WfU p.2.1 /\ True /\ WfU p.2.2.2.1 /\ True -> J p -> (iv x.2.1 ≠ 0 -> (p.1, p.2.1) = ic (iv x.1 / iv x.2.1) /\ (p.2.2.1, p.2.2.2.1) = ic (iv x.1 % iv x.2.1) /\ true = true) /\ (iv x.2.1 ≠ 0 -> (p.1, p.2.1) = ic (iv x.1 / iv x.2.1) /\ (p.2.2.1, p.2.2.2.1) = ic (iv x.1 % iv x.2.1) /\ true = true))
theorem C5v (x : A7 S9.args) : K8 Tryz.prog tys B8x D5q S9 Tryz.f147 x = A8o x := by kernel_rfl
theorem D1o (x : A7 K6.args) (hw : awf K6.args x) (hp : K6.pre x) : B6a x := by
  obtain ⟨b, l, _⟩ := x
  change Bool at b
  change List Int at l
  have hl : l.length <= 35184372088832 := hp
  simp only [B6a]
  refine ⟨by omega, ?_⟩
  rintro ⟨r, _⟩ _ hr
  simp only at hr ⊢
  rw [G3j, hr, U2]
  have e : decide ((0 : Int) < ((nc (nv l)).length : Int)) = decide (nv l ≠ 0) := by
    rw [decide_eq_decide]
    constructor
    . intro h h0; rw [h0, Q6] at h; simp at h
    . intro h
      have : (nc (nv l)).length ≠ 0 := fun h1 => h (C4s.1 (List.eq_nil_of_length_eq_zero h1))
      omega
  rw [e]
theorem D1v (x : A7 W8.args) (hw : awf W8.args x) (hp : W8.pre x) : B7j x := by
  simp only [B7j]
  exact ⟨hp, fun r _ h => h⟩
theorem C9k (x : A7 V4.args) (hw : awf V4.args x) (hp : V4.pre x) : B1b x := by
  obtain ⟨⟨a, l⟩, ⟨b, m⟩, _⟩ := x
  change Bool at a b
  change List Int at l m
  simp only [B1b]
  refine ⟨fun _ => trivial, ?_⟩
  rintro ⟨r, _⟩ hr
  simp only at hr ⊢
  by_cases h : a = b
  . subst h
    have := (hr (by simp)).2
    rw [this]
    simp [sel]
  . have : (a == b) = false := by simpa using h
    rw [this]
    simp [sel, h]
theorem C2r (x : A7 L3.args) (hw : awf L3.args x) (_ : L3.pre x) : A5y x := by
  obtain ⟨v, _⟩ := x
  change Int at v
  have hv : IntKind.i64.min <= v /\ v <= IntKind.i64.max := hw.1
  rw [B5r, C4a] at hv
  have hs : ∀ n : Nat, n <= 9223372036854775808 -> sh0 (nc n) := fun n hn => by
    have : (nc n).length <= 2 := A5i (by omega)
    show _ <= 35184372088832; omega
  simp only [A5y]
  refine ⟨fun h => ⟨trivial, ?_⟩, fun h => ⟨trivial, ?_⟩⟩
  . have h := of_decide_eq_true h
    rintro ⟨r, _⟩ _ hr
    simp only at hr ⊢
    have e : (IntKind.u64.wrap (IntKind.u64.wrap (IntKind.i64.wrap (-IntKind.i64.wrap (v + 1))) + 1)).toNat = v.natAbs := by
      rw [wr (a := v + 1) (by omega) (by omega), wr (by omega) (by omega), w64 (a := -(v + 1)) (by omega) (by omega), w64 (by omega) (by omega)]; omega
    rw [e] at hr
    subst hr
    refine ⟨hs _ (by omega), ?_⟩
    rintro ⟨s, _⟩ _ hs
    simp only at hs ⊢
    rw [hs, D9q, H2]
    congr 1; omega
  . have h := of_decide_eq_false h
    rintro ⟨r, _⟩ _ hr
    simp only at hr ⊢
    have e : (IntKind.u64.wrap v).toNat = v.natAbs := by rw [A0z]; omega
    rw [e] at hr
    subst hr
    refine ⟨hs _ (by omega), ?_⟩
    rintro ⟨s, _⟩ _ hs
    simp only at hs ⊢
    rw [hs, B4s, H2]
    congr 1; omega
theorem D2b (x : A7 W4.args) (hw : awf W4.args x) (hp : W4.pre x) : B7g x := by
  obtain ⟨a, _⟩ := x
  simp only [B7g]
  refine ⟨hp, ?_⟩
  rintro ⟨r, _⟩ _ hr
  simp only at hr ⊢
  subst hr
  generalize iv a = v
  refine ⟨fun h => ?_, fun h => ⟨fun h2 => ?_, fun h2 => ?_⟩⟩
  . have h : v < 0 := of_decide_eq_true h
    exact (Int.sign_eq_neg_one_of_neg h).symm
  . have h2 := of_decide_eq_true h2
    have : nc v.natAbs = [] := List.eq_nil_of_length_eq_zero (by show (ic v).2.length = 0; omega)
    rw [C4s] at this
    rw [show v = 0 from by omega]; rfl
  . have h : ¬ v < 0 := of_decide_eq_false h
    have h2 := of_decide_eq_false h2
    have : v ≠ 0 := fun h0 => h2 (by rw [h0, E2r]; rfl)
    exact (Int.sign_eq_one_of_pos (by omega)).symm
theorem D6l (x : A7 A1f.args) (hw : awf A1f.args x) (hp : A1f.pre x) : C1l x := by
  obtain ⟨⟨b, l⟩, _⟩ := x
  simp only [C1l]
  refine ⟨hp, ?_⟩
  rintro ⟨r, _⟩ _ hr
  simp only at hr ⊢
  rw [hr, F5z]
theorem D7t (x : A7 X8.args) (hw : awf X8.args x) (hp : X8.pre x) : C2k x := by
  obtain ⟨⟨a, l⟩, ⟨b, m⟩, _⟩ := x
  have hl : A9 l := A5 hw.1.2.2
  have hm : A9 m := A5 hw.2.1.2.2
  change Bool at a b
  change List Int at l m
  obtain ⟨p1, p2⟩ : l.length <= 17592186044416 /\ m.length <= 17592186044416 := hp
  have q1 : sh1 l := by omega
  have q2 : sh1 m := by omega
  have n1 := C5 hl
  have n2 := C5 hm
  have n3 := D3z (nv l) (nv m)
  simp only [C2k]
  refine ⟨fun h => ⟨⟨q1, q2⟩, ?_⟩, fun h => ⟨⟨q1, q2⟩, ?_⟩⟩
  . have h : a = b := by simpa using h
    subst h
    rintro ⟨r, _⟩ _ hr
    simp only at hr ⊢
    subst hr
    refine ⟨by omega, ?_⟩
    rintro ⟨s, _⟩ _ hs
    simp only at hs ⊢
    rw [hs]
    congr 1
    cases a
    . simp only [B4s, H2]; omega
    . simp only [D9q, H2]; omega
  . have h : a ≠ b := by simpa using h
    rintro ⟨r, ok, _⟩ _ ⟨h1, h2⟩
    change Bool at ok
    simp only at h1 h2 ⊢
    refine ⟨fun hok => ?_, fun hok => ⟨⟨q2, q1⟩, ?_⟩⟩
    . have hge : nv m <= nv l := by
        rcases Nat.lt_or_ge (nv l) (nv m) with h3 | h3
        . rw [(h1 h3).2] at hok; cases hok
        . exact h3
      rw [(h2 hge).1]
      have := M5 (show nv l - nv m <= nv l by omega)
      refine ⟨by omega, ?_⟩
      rintro ⟨s, _⟩ _ hs
      simp only at hs ⊢
      rw [hs]
      congr 1
      cases a <;> cases b <;> simp only [D9q, B4s, H2] <;> first | omega | exact absurd rfl h
    . have hlt : nv l < nv m := by
        rcases Nat.lt_or_ge (nv l) (nv m) with h3 | h3
        . exact h3
        . rw [(h2 h3).2] at hok; cases hok
      rintro ⟨r2, ok2, _⟩ _ ⟨_, h4⟩
      simp only at h4 ⊢
      rw [(h4 (by omega)).1]
      have := M5 (show nv m - nv l <= nv m by omega)
      refine ⟨by omega, ?_⟩
      rintro ⟨s, _⟩ _ hs
      simp only at hs ⊢
      rw [hs]
      congr 1
      cases a <;> cases b <;> simp only [D9q, B4s, H2] <;> first | omega | exact absurd rfl h
theorem D6n (x : A7 A2z.args) (hw : awf A2z.args x) (hp : A2z.pre x) : C3j x := by
  obtain ⟨⟨a, l⟩, ⟨b, m⟩, _⟩ := x
  have hl : A9 l := A5 hw.1.2.2
  have hm : A9 m := A5 hw.2.1.2.2
  change Bool at a b
  change List Int at l m
  obtain ⟨p1, p2⟩ : l.length <= 17592186044416 /\ m.length <= 17592186044416 := hp
  have n1 := C5 hl
  have n2 := C5 hm
  have n3 := B5f (nv l) (nv m)
  simp only [C3j]
  refine ⟨⟨by omega, by omega⟩, ?_⟩
  rintro ⟨r, _⟩ _ hr
  simp only at hr ⊢
  subst hr
  refine ⟨by omega, ?_⟩
  rintro ⟨s, _⟩ _ hs
  simp only at hs ⊢
  rw [hs]
  congr 1
  cases a <;> cases b <;> simp [D9q, B4s, H2, Int.natCast_mul, Int.neg_mul, Int.mul_neg]
theorem D7v (x : A7 A2u.args) (hw : awf A2u.args x) (hp : A2u.pre x) : C3i x := by
  obtain ⟨⟨b, l⟩, _⟩ := x
  simp only [C3i]
  refine ⟨hp, ?_⟩
  rintro ⟨r, _⟩ _ hr
  simp only at hr ⊢
  rw [hr, L7, B4s]
theorem D7p (x : A7 A2l.args) (hw : awf A2l.args x) (hp : A2l.pre x) : C4r x := by
  obtain ⟨a, b, _⟩ := x
  have hb : A9 b.2 := A5 hw.2.1.2.2
  change D1g at a b
  obtain ⟨p1, p2⟩ : a.2.length <= 17592186044416 /\ b.2.length <= 17592186044416 := hp
  have n2 := C5 hb
  simp only [C4r]
  refine ⟨by show b.2.length <= 35184372088832; omega, ?_⟩
  rintro ⟨r, _⟩ _ hr
  simp only at hr ⊢
  refine ⟨⟨p1, by show r.2.length <= _; rw [hr, A5n, Int.natAbs_neg, L7]; omega⟩, ?_⟩
  rintro ⟨s, _⟩ _ hs
  simp only at hs ⊢
  rw [hs, hr, A2i, <- Int.sub_eq_add_neg]
theorem D6z (x : A7 A2m.args) (hw : awf A2m.args x) (hp : A2m.pre x) : C2a x := by
  obtain ⟨a, b, _⟩ := x
  have ha : A9 a.2 := A5 hw.1.2.2
  have hb : A9 b.2 := A5 hw.2.1.2.2
  change D1g at a b
  obtain ⟨p1, p2⟩ : a.2.length <= 8796093022208 /\ b.2.length <= 8796093022208 := hp
  have n1 := C5 ha
  have n2 := C5 hb
  simp only [C2a]
  refine ⟨⟨p1, p2⟩, ?_⟩
  rintro ⟨r, _⟩ _ hr
  simp only at hr ⊢
  have hl : r.length <= 8796093022209 := by
    rw [hr]
    rcases Nat.eq_zero_or_pos (nv a.2) with h | h
    . rw [h, Nat.gcd_zero_left]; omega
    . have := M5 (Nat.le_of_dvd h (Nat.gcd_dvd_left (nv a.2) (nv b.2)))
      omega
  refine ⟨by show r.length <= 35184372088832; omega, ?_⟩
  rintro ⟨s, _⟩ _ hs
  simp only at hs ⊢
  rw [hs, B4s, hr, H2]
theorem C6b (x : A7 S9.args) (hw : awf S9.args x) (hp : S9.pre x) : A8o x := by
  obtain ⟨⟨sa, a⟩, ⟨sb, b⟩, _⟩ := x
  have ha : A9 a := A5 hw.1.2.2
  have hb : A9 b := A5 hw.2.1.2.2
  change Bool at sa sb
  change List Int at a b
  obtain ⟨p1, p2⟩ : a.length <= 8796093022208 /\ b.length <= 8796093022208 := hp
  have n1 := C5 ha
  have n2 := C5 hb
  simp only [A8o]
  refine ⟨⟨p1, p2⟩, ?_⟩
  rintro ⟨q, m, ok, _⟩ _ ⟨z1, z2⟩
  change Bool at ok
  simp only at z1 z2 ⊢
  refine ⟨fun h hne => ?_, fun h => ?_⟩
  . have hb0 : nv b ≠ 0 := fun e => hne (by unfold iv; simp [e])
    rw [(z2 hb0).2.2] at h; exact absurd h (by decide)
  have hb0 : nv b ≠ 0 := fun e => by rw [z1 e] at h; exact absurd h (by decide)
  obtain ⟨hq, hm, _⟩ := z2 hb0
  have lq : q.length <= 8796093022208 := by
    have := M5 (Nat.div_le_self (nv a) (nv b)); rw [hq]; omega
  have lm : m.length <= 8796093022208 := by
    have := M5 (Nat.le_of_lt (Nat.mod_lt (nv a) (Nat.pos_of_ne_zero hb0))); rw [hm]; omega
  have vq : nv q = nv a / nv b := by rw [hq, H2]
  have vm : nv m = nv a % nv b := by rw [hm, H2]
  obtain ⟨c1, c2⟩ := G0l (sa := sa) (sb := sb) (A := nv a) (B := nv b) hb0 (a := iv (sa, a)) (b := iv (sb, b)) (q := iv (sa != sb, q)) (m := iv (sa, m)) rfl rfl (by rw [<- vq]; rfl) (by rw [<- vm]; rfl)
  refine ⟨by show q.length <= 35184372088832; omega, ?_⟩
  rintro ⟨Q, _⟩ _ hQ
  refine ⟨by show m.length <= 35184372088832; omega, ?_⟩
  rintro ⟨M, _⟩ _ hM
  simp only at hQ hM ⊢
  have lQ : Q.2.length <= 8796093022208 := by
    have : (nc (nv q)).length = q.length := by rw [vq, <- hq]
    rw [hQ, A5n, L7]; show (nc (nv q)).length <= _; omega
  have lM : M.2.length <= 8796093022208 := by
    have : (nc (nv m)).length = m.length := by rw [vm, <- hm]
    rw [hM, A5n, L7]; show (nc (nv m)).length <= _; omega
  refine ⟨fun p => (p.1, p.2.1) = ic (iv (sa, a) / iv (sb, b)) /\ (p.2.2.1, p.2.2.2.1) = ic (iv (sa, a) % iv (sb, b)), ⟨fun h1 => ?_, fun h1 => ?_⟩, ?_⟩
  . have h1 : iv (sa, m) < 0 := by rw [hM] at h1; exact of_decide_eq_true h1
    obtain ⟨d1, d2, d3⟩ := c1 h1
    refine ⟨by show b.length <= 35184372088832; omega, ?_⟩
    rintro ⟨B, _⟩ _ hB
    simp only at hB ⊢
    rw [L7] at hB
    have lB : B.2.length <= 8796093022208 := by
      rw [hB, A5n, Int.natAbs_natCast]; show (nc (nv b)).length <= _; omega
    refine ⟨⟨by show M.2.length <= _; omega, by show B.2.length <= _; omega⟩, ?_⟩
    rintro ⟨R, _⟩ _ hR
    simp only at hR ⊢
    have eR : R = ic (iv (sa, a) % iv (sb, b)) := by rw [hR, hM, hB, A2i, A2i, d1]
    refine ⟨fun h2 => ⟨trivial, ?_⟩, fun h2 => ⟨trivial, ?_⟩⟩
    . rintro ⟨o, _⟩ _ ho
      simp only at ho ⊢
      refine ⟨⟨by show Q.2.length <= _; omega, by show o.2.length <= _; rw [ho, E9p]; show 1 <= _; decide⟩, ?_⟩
      rintro ⟨T, _⟩ _ hT
      simp only at hT ⊢
      exact ⟨by show T = _; rw [hT, hQ, ho, A2i, A2i, d2 h2], eR⟩
    . rintro ⟨o, _⟩ _ ho
      simp only at ho ⊢
      refine ⟨⟨by show Q.2.length <= _; omega, by show o.2.length <= _; rw [ho, E9p]; show 1 <= _; decide⟩, ?_⟩
      rintro ⟨T, _⟩ _ hT
      simp only at hT ⊢
      exact ⟨by show T = _; rw [hT, hQ, ho, A2i, A2i, d3 h2], eR⟩
  . have h1 : ¬ iv (sa, m) < 0 := by rw [hM] at h1; exact of_decide_eq_false h1
    obtain ⟨d1, d2⟩ := c2 h1
    exact ⟨by show Q = _; rw [hQ, d2], by show M = _; rw [hM, d1]⟩
  . rintro ⟨t1, t2, t3, t4, _⟩ _ ⟨j1, j2⟩
    exact ⟨fun _ => ⟨j1, j2, by trivial⟩, fun _ => ⟨j1, j2, by trivial⟩⟩
def E2h : An := { join := [(11, ⟨[4, 7, 10], [2], [], [(5, 29, [.val .bool, .val (.sl (.int .u32))]), (7, 29, [.val .bool, .val (.sl (.int .u32))])], []⟩)], plan := [(5, [0, 3], [5], true, (.q 0 (.p 2 (.q 3 (.e 1 (.p 4 (.e 5 .done))))))), (10, [0, 2], [4, 5], true, (.q 0 (.q 2 (.e 1 (.e 3 (.e 4 (.e 5 .done)))))))] }
def D1b : B6 := [(75, T8), (77, Q4), (88, W4), (145, W8), (146, A2m), (147, S9), (148, A1f)]
def E2s : An := {}
def C9w : B6 := []
def E3z : An := {}
def C8k : B6 := [(81, Q9)]
def E1e : An := {}
def C5d : B6 := [(76, V4), (77, Q4)]
def C6d : An := { plan := [(1, [0, 1], [], true, (.q 0 (.q 1 (.e 2 (.e 3 (.p 4 .done))))))] }
def A9h : B6 := [(17, T5), (83, R4)]
def E7f : An := {}
def D4c : B6 := [(83, R4)]
def D2w : An := {}
def B4z : B6 := [(81, Q9), (132, L3)]
def F1t : An := {}
def D9s : B6 := [(81, Q9), (132, L3)]
def E4b : An := {}
def D0i : B6 := [(83, R4), (88, W4)]
def B6j : A7 Q9.args -> Prop := fun (x : (Bool × List Int) × (Bool × List Int) × Unit) => sh0 x.2.1.2 /\ ∀ (r : Int × Unit), G2 r.1 /\ True -> r.1 = (iv x.2.1).sign -> (decide (r.1 = 0) = true -> True /\ ∀ (r : QQ × Unit), WfQ r.1 /\ True -> r.1 = rc (0 : Rat) -> r.1 = rc (C1c x.1 x.2.1)) /\ (decide (r.1 = 0) = false -> sh0 x.2.1.2 /\ ∀ (r : (Bool × List Int) × Unit), WfZ r.1 /\ True -> r.1 = ic (iv x.2.1) -> ((!r.1.1) = true -> True) /\ ∀ (d : Bool × Unit), ((!r.1.1) = true -> (True /\ True) /\ d.1 = decide (r.1.2 = [(1 : Int)])) -> (sel (!r.1.1) d.1 false = true -> sh0 x.1.2 /\ ∀ (a : (Bool × List Int) × Unit), WfZ a.1 /\ True -> a.1 = ic (iv x.1) -> (a.1, r.1.2) = rc (C1c x.1 x.2.1)) /\ (sel (!r.1.1) d.1 false = false -> (sh2 x.1.2 /\ sh2 x.2.1.2) /\ ∀ (r : (Bool × List Int) × Unit), WfZ r.1 /\ True -> r.1 = ic (↑((nv x.1.2).gcd (nv x.2.1.2)) : Int) -> (sh2 x.1.2 /\ sh2 r.1.2) /\ ∀ (a : (Bool × List Int) × (Bool × List Int) × Bool × Unit), WfZ a.1 /\ WfZ a.2.1 /\ True /\ True -> (iv r.1 ≠ 0 -> a.1 = ic (iv x.1 / iv r.1) /\ a.2.1 = ic (iv x.1 % iv r.1) /\ a.2.2.1 = true) -> (sh2 x.2.1.2 /\ sh2 r.1.2) /\ ∀ (b : (Bool × List Int) × (Bool × List Int) × Bool × Unit), WfZ b.1 /\ WfZ b.2.1 /\ True /\ True -> (iv r.1 ≠ 0 -> b.1 = ic (iv x.2.1 / iv r.1) /\ b.2.1 = ic (iv x.2.1 % iv r.1) /\ b.2.2.1 = true) -> ∃ (J : Bool × List Int × Bool × List Int × Unit -> Prop), ((b.1.1 = true -> sh0 a.1.2 /\ ∀ (r : (Bool × List Int) × Unit), WfZ r.1 /\ True -> r.1 = ic (-iv a.1) -> sh0 b.1.2 /\ ∀ (c : (Bool × List Int) × Unit), WfZ c.1 /\ True -> c.1 = ic (-iv b.1) -> J (r.1.1, r.1.2, c.1.1, c.1.2, ())) /\ (b.1.1 = false -> J (a.1.1, a.1.2, b.1.1, b.1.2, ()))) /\ ∀ (p : Bool × List Int × Bool × List Int × Unit), True /\ WfU p.2.1 /\ True /\ WfU p.2.2.2.1 /\ True -> J p -> ((p.1, p.2.1), p.2.2.2.1) = rc (C1c x.1 x.2.1)))
theorem D3a (x : A7 Q9.args) : K8 Tryz.prog tys D1b E2h Q9 Tryz.f81 x = B6j x := by kernel_rfl
def B6c : A7 T8.args -> Prop := fun (x : Unit) => ((false, []), [(1 : Int)]) = rc (0 : Rat)
theorem D2n (x : A7 T8.args) : K8 Tryz.prog tys C9w E2s T8 Tryz.f75 x = B6c x := by kernel_rfl
def B5t : A7 R4.args -> Prop := fun (x : QQ × Unit) => (sh2 x.1.1.2 /\ sh2 x.1.2) /\ ∀ (r : QQ × Unit), WfQ r.1 /\ True -> r.1 = rc (C1c x.1.1 (false, x.1.2)) -> r.1 = rc (rv x.1)
theorem D2c (x : A7 R4.args) : K8 Tryz.prog tys C8k E3z R4 Tryz.f83 x = B5t x := by kernel_rfl
def B0q : A7 T5.args -> Prop := fun (x : QQ × QQ × Unit) => True /\ ∀ (r : Bool × Unit), True /\ True -> r.1 = decide (x.1.1 = x.2.1.1) -> (r.1 = true -> True) /\ ∀ (a : Bool × Unit), (r.1 = true -> (True /\ True) /\ a.1 = decide (x.1.2 = x.2.1.2)) -> sel r.1 a.1 false = decide (x.1 = x.2.1)
theorem C8h (x : A7 T5.args) : K8 Tryz.prog tys C5d E1e T5 Tryz.f17 x = B0q x := by kernel_rfl
def A3i : A7 L5.args -> Prop := fun (x : QQ × Unit) => sh3 x.1 /\ ∀ (r : QQ × Unit), WfQ r.1 /\ True -> r.1 = rc (rv x.1) -> True /\ ∀ (a : Bool × Unit), True /\ True -> a.1 = decide (x.1 = r.1) -> a.1 = decide (x.1 = rc (rv x.1))
theorem B6k (x : A7 L5.args) : K8 Tryz.prog tys A9h C6d L5 Tryz.f102 x = A3i x := by kernel_rfl
def C4f : A7 A2o.args -> Prop := fun (x : QQ × Unit) => sh3 x.1 /\ ∀ (r : QQ × Unit), WfQ r.1 /\ True -> r.1 = rc (rv x.1) -> (false, r.1.2) = ic (↑(rv x.1).den : Int)
theorem D7j (x : A7 A2o.args) : K8 Tryz.prog tys D4c E7f A2o Tryz.f84 x = C4f x := by kernel_rfl
def A6m : A7 Q0.args -> Prop := fun (x : Int × Unit) => True /\ ∀ (r : (Bool × List Int) × Unit), WfZ r.1 /\ True -> r.1 = ic x.1 -> True /\ ∀ (a : (Bool × List Int) × Unit), WfZ a.1 /\ True -> a.1 = ic (1 : Int) -> (sh2 r.1.2 /\ sh2 a.1.2) /\ ∀ (b : QQ × Unit), WfQ b.1 /\ True -> b.1 = rc (C1c r.1 a.1) -> b.1 = ri x.1
theorem C3x (x : A7 Q0.args) : K8 Tryz.prog tys B4z D2w Q0 Tryz.f68 x = A6m x := by kernel_rfl
def C9z : A7 A5j.args -> Prop := fun (x : Int × Int × Unit) => True /\ ∀ (r : (Bool × List Int) × Unit), WfZ r.1 /\ True -> r.1 = ic x.1 -> True /\ ∀ (a : (Bool × List Int) × Unit), WfZ a.1 /\ True -> a.1 = ic x.2.1 -> (sh2 r.1.2 /\ sh2 a.1.2) /\ ∀ (b : QQ × Unit), WfQ b.1 /\ True -> b.1 = rc (C1c r.1 a.1) -> b.1 = rc (Rat.divInt x.1 x.2.1)
theorem D9h (x : A7 A5j.args) : K8 Tryz.prog tys D9s F1t A5j Tryz.f144 x = C9z x := by kernel_rfl
def B6h : A7 A0d.args -> Prop := fun (x : QQ × Unit) => sh3 x.1 /\ ∀ (r : QQ × Unit), WfQ r.1 /\ True -> r.1 = rc (rv x.1) -> sh0 r.1.1.2 /\ ∀ (a : Int × Unit), G2 a.1 /\ True -> a.1 = (iv r.1.1).sign -> a.1 = (rv x.1).num.sign
theorem D2p (x : A7 A0d.args) : K8 Tryz.prog tys D0i E4b A0d Tryz.f29 x = B6h x := by kernel_rfl
theorem D2o (x : A7 T8.args) (hw : awf T8.args x) (_ : T8.pre x) : B6c x := by
  simp only [B6c]
  exact F0m.symm
theorem D0c (x : A7 T5.args) (hw : awf T5.args x) (hp : T5.pre x) : B0q x := by
  obtain ⟨⟨a, l⟩, ⟨b, m⟩, _⟩ := x
  simp only [B0q]
  refine ⟨trivial, ?_⟩
  rintro ⟨r, _⟩ _ hr
  refine ⟨fun _ => trivial, ?_⟩
  rintro ⟨s, _⟩ hs
  simp only at hr hs ⊢
  by_cases h : a = b
  . subst h
    have hr : r = true := by rw [hr]; simp
    have := (hs hr).2
    rw [this, hr]
    simp [sel]
  . have hr : r = false := by rw [hr]; simp [h]
    rw [hr]
    simp [sel, h]
theorem B5n (x : A7 L5.args) (hw : awf L5.args x) (hp : L5.pre x) : A3i x := by
  obtain ⟨a, _⟩ := x
  simp only [A3i]
  refine ⟨hp, ?_⟩
  rintro ⟨r, _⟩ _ hr
  refine ⟨trivial, ?_⟩
  rintro ⟨s, _⟩ _ hs
  simp only at hr hs ⊢
  rw [hs, hr]
theorem D7g (x : A7 A2o.args) (hw : awf A2o.args x) (hp : A2o.pre x) : C4f x := by
  obtain ⟨a, _⟩ := x
  simp only [C4f]
  refine ⟨hp, ?_⟩
  rintro ⟨r, _⟩ _ hr
  simp only at hr ⊢
  rw [hr]
  unfold rc ic
  simp
theorem C2b (x : A7 Q0.args) (hw : awf Q0.args x) (_ : Q0.pre x) : A6m x := by
  obtain ⟨v, _⟩ := x
  change Int at v
  have hv : IntKind.i64.min <= v /\ v <= IntKind.i64.max := hw.1
  rw [B5r, C4a] at hv
  simp only [A6m]
  refine ⟨trivial, ?_⟩
  rintro ⟨r, _⟩ _ hr
  refine ⟨trivial, ?_⟩
  rintro ⟨s, _⟩ _ hs
  simp only at hr hs ⊢
  subst hr hs
  have h2 : (ic v).2.length <= 2 := by rw [A5n]; exact A5i (by omega)
  refine ⟨⟨by omega, by rw [E9p]; show 1 <= _; decide⟩, ?_⟩
  rintro ⟨t, _⟩ _ ht
  simp only at ht ⊢
  rw [ht, E4s (A2i 1), A2i, F0g]
theorem D2d (x : A7 R4.args) (hw : awf R4.args x) (hp : R4.pre x) : B5t x := by
  obtain ⟨q, _⟩ := x
  change X5 at q
  obtain ⟨h1, h2⟩ : q.1.2.length <= 2199023255552 /\ q.2.length <= 2199023255552 := hp
  simp only [B5t]
  refine ⟨⟨by show q.1.2.length <= _; omega, by show q.2.length <= _; omega⟩, ?_⟩
  rintro ⟨r, _⟩ _ hr
  simp only at hr ⊢
  rw [hr, F8v]
theorem D2a (x : A7 A0d.args) (hw : awf A0d.args x) (hp : A0d.pre x) : B6h x := by
  obtain ⟨q, _⟩ := x
  have l1 : A9 q.1.2 := A5 hw.1.1.2.2
  have l2 : A9 q.2 := A5 hw.1.2.2
  change X5 at q
  obtain ⟨h1, h2⟩ : q.1.2.length <= 2199023255552 /\ q.2.length <= 2199023255552 := hp
  obtain ⟨n1, n2⟩ := B2v l1 l2 h1 h2 (by decide)
  simp only [B6h]
  refine ⟨⟨h1, h2⟩, ?_⟩
  rintro ⟨r, _⟩ _ hr
  simp only at hr ⊢
  have e : r.1 = ic (rv q).num := by rw [hr]; rfl
  refine ⟨by show r.1.2.length <= _; rw [e]; omega, ?_⟩
  rintro ⟨s, _⟩ _ hs
  simp only at hs ⊢
  rw [hs, e, A2i]
theorem D3f (x : A7 Q9.args) (hw : awf Q9.args x) (hp : Q9.pre x) : B6j x := by
  obtain ⟨a, b, _⟩ := x
  have la : A9 a.2 := A5 hw.1.2.2
  have lb : A9 b.2 := A5 hw.2.1.2.2
  change D1g at a b
  obtain ⟨p1, p2⟩ : a.2.length <= 8796093022208 /\ b.2.length <= 8796093022208 := hp
  have n1 := C5 la
  have n2 := C5 lb
  simp only [B6j]
  refine ⟨by show b.2.length <= 35184372088832; omega, ?_⟩
  rintro ⟨s, _⟩ _ hs
  simp only at hs ⊢
  refine ⟨fun h => ⟨trivial, ?_⟩, fun h => ⟨by show b.2.length <= 35184372088832; omega, ?_⟩⟩
  . have h := of_decide_eq_true h
    rw [hs] at h
    rintro ⟨r, _⟩ _ hr
    simp only at hr ⊢
    rw [hr, E9h (Int.sign_eq_zero_iff_zero.1 h)]
  have h := of_decide_eq_false h
  have hB : iv b ≠ 0 := fun e => h (by rw [hs, e]; rfl)
  rintro ⟨m, _⟩ _ hm
  simp only at hm ⊢
  refine ⟨fun _ => trivial, ?_⟩
  rintro ⟨e, _⟩ he
  simp only at he ⊢
  refine ⟨fun h1 => ⟨by show a.2.length <= 35184372088832; omega, ?_⟩, fun _ => ⟨⟨p1, p2⟩, ?_⟩⟩
  . rw [U2, Bool.and_eq_true] at h1
    have h2 := (he h1.1).2
    rw [h1.2] at h2
    have h3 : m.2 = [1] := of_decide_eq_true h2.symm
    have h4 : m.1 = false := by simpa using h1.1
    have h5 : iv b = 1 := by
      have e1 : m = (false, [1]) := Prod.ext h4 h3
      rw [<- A2i (iv b), <- hm, e1]; rfl
    rintro ⟨r, _⟩ _ hr
    simp only at hr ⊢
    rw [hr, h3, E4s h5, F0g]; rfl
  . rintro ⟨g, _⟩ _ hg
    simp only at hg ⊢
    have hgv : iv g = ((Nat.gcd (nv a.2) (nv b.2) : Nat) : Int) := by rw [hg, A2i]
    obtain ⟨G0, Gs, Gn, Gp⟩ := F3n (A := iv a) (B := iv b) hB (G := Nat.gcd (nv a.2) (nv b.2)) (by rw [L7, L7])
    have hbz : nv b.2 ≠ 0 := by rw [<- L7]; omega
    have hgl : g.2.length <= 8796093022208 := by
      rw [hg, A5n, Int.natAbs_natCast]
      have := M5 (Nat.le_of_dvd (by omega) (Nat.gcd_dvd_right (nv a.2) (nv b.2)))
      omega
    rw [<- hgv] at Gs Gn Gp
    have hg0 : iv g ≠ 0 := by omega
    refine ⟨⟨p1, hgl⟩, ?_⟩
    rintro ⟨n, n', okn, _⟩ _ hn
    refine ⟨⟨p2, hgl⟩, ?_⟩
    rintro ⟨d, d', okd, _⟩ _ hd
    simp only at hn hd ⊢
    have hn := (hn hg0).1
    have hd := (hd hg0).1
    have ln : n.2.length <= 8796093022208 := by
      rw [hn, A5n]
      have h1 := M5 (Int.natAbs_ediv_le_natAbs (iv a) (iv g))
      rw [L7 a] at h1; omega
    have ld : d.2.length <= 8796093022208 := by
      rw [hd, A5n]
      have h1 := M5 (Int.natAbs_ediv_le_natAbs (iv b) (iv g))
      rw [L7 b] at h1; omega
    have hds : d.1 = decide (iv b / iv g < 0) := by rw [hd]; rfl
    refine ⟨fun p => ((p.1, p.2.1), p.2.2.2.1) = rc (C1c a b), ⟨fun h1 => ⟨by show n.2.length <= 35184372088832; omega, ?_⟩, fun h1 => ?_⟩, ?_⟩
    . rw [hds] at h1
      have h1 := Gs.1 (of_decide_eq_true h1)
      rintro ⟨u, _⟩ _ hu
      refine ⟨by show d.2.length <= 35184372088832; omega, ?_⟩
      rintro ⟨v, _⟩ _ hv
      simp only at hu hv ⊢
      show (u, v.2) = _
      rw [hn, A2i] at hu
      rw [hd, A2i] at hv
      rw [hu, hv]
      exact Gn h1
    . rw [hds] at h1
      have h1 : ¬ iv b < 0 := fun h2 => (of_decide_eq_false h1) (Gs.2 h2)
      show (n, d.2) = _
      rw [hn, hd]
      exact Gp h1
    . rintro ⟨t1, t2, t3, t4, _⟩ _ j
      exact j
def E8s : An := { plan := [(1, [0, 2], [6, 7], true, (.q 0 (.q 2 (.or 1 (.or 3 (.or 4 (.e 5 (.e 6 (.e 7 .done))) (.e 5 (.e 4 (.e 6 (.e 7 .done))))) (.or 4 (.or 3 (.e 5 (.e 6 (.e 7 .done))) (.e 5 (.e 3 (.e 6 (.e 7 .done))))) (.e 5 (.or 3 (.e 4 (.e 6 (.e 7 .done))) (.e 4 (.e 3 (.e 6 (.e 7 .done)))))))) (.or 4 (.or 1 (.or 3 (.e 5 (.e 6 (.e 7 .done))) (.e 5 (.e 3 (.e 6 (.e 7 .done))))) (.e 5 (.e 1 (.e 3 (.e 6 (.e 7 .done)))))) (.e 5 (.or 1 (.or 3 (.e 4 (.e 6 (.e 7 .done))) (.e 4 (.e 3 (.e 6 (.e 7 .done))))) (.e 4 (.e 1 (.e 3 (.e 6 (.e 7 .done)))))))))))), (2, [1, 2, 6, 7, 11, 13], [17], true, (.p 0 (.q 1 (.q 2 (.p 5 (.q 6 (.q 7 (.q 11 (.q 13 (.e 3 (.e 4 (.e 8 (.e 9 (.e 10 (.e 12 (.e 14 (.e 15 (.e 16 (.e 17 .done)))))))))))))))))))] }
def D3n : B6 := [(81, Q9), (82, A2z), (83, R4), (84, A2o), (93, X8)]
def C4p : A7 A3a.args -> Prop := fun (x : QQ × QQ × Unit) => (sh3 x.1 /\ ∀ (r : QQ × Unit), WfQ r.1 /\ True -> r.1 = rc (rv x.1) -> (sh3 x.2.1 /\ ∀ (g : QQ × Unit), WfQ g.1 /\ True -> g.1 = rc (rv x.2.1) -> (sh3 x.2.1 /\ ∀ (a : (Bool × List Int) × Unit), WfZ a.1 /\ True -> a.1 = ic (↑(rv x.2.1).den : Int) -> (sh1 r.1.1.2 /\ sh1 a.1.2) /\ ∀ (b : (Bool × List Int) × Unit), WfZ b.1 /\ True -> b.1 = ic (iv r.1.1 * iv a.1) -> sh3 x.1 /\ ∀ (r : (Bool × List Int) × Unit), WfZ r.1 /\ True -> r.1 = ic (↑(rv x.1).den : Int) -> (sh1 g.1.1.2 /\ sh1 r.1.2) /\ ∀ (c : (Bool × List Int) × Unit), WfZ c.1 /\ True -> c.1 = ic (iv g.1.1 * iv r.1) -> (sh1 b.1.2 /\ sh1 c.1.2) /\ ∀ (r : (Bool × List Int) × Unit), WfZ r.1 /\ True -> r.1 = ic (iv b.1 + iv c.1) -> sh3 x.1 /\ ∀ (d : (Bool × List Int) × Unit), WfZ d.1 /\ True -> d.1 = ic (↑(rv x.1).den : Int) -> sh3 x.2.1 /\ ∀ (e : (Bool × List Int) × Unit), WfZ e.1 /\ True -> e.1 = ic (↑(rv x.2.1).den : Int) -> (sh1 d.1.2 /\ sh1 e.1.2) /\ ∀ (f : (Bool × List Int) × Unit), WfZ f.1 /\ True -> f.1 = ic (iv d.1 * iv e.1) -> (sh2 r.1.2 /\ sh2 f.1.2) /\ ∀ (h : QQ × Unit), WfQ h.1 /\ True -> h.1 = rc (C1c r.1 f.1) -> h.1 = rc (rv x.1 + rv x.2.1)) /\ sh3 x.2.1 /\ ∀ (a : (Bool × List Int) × Unit), WfZ a.1 /\ True -> a.1 = ic (↑(rv x.2.1).den : Int) -> (sh1 r.1.1.2 /\ sh1 a.1.2) /\ ∀ (b : (Bool × List Int) × Unit), WfZ b.1 /\ True -> b.1 = ic (iv r.1.1 * iv a.1) -> sh3 x.1 /\ ∀ (r : (Bool × List Int) × Unit), WfZ r.1 /\ True -> r.1 = ic (↑(rv x.1).den : Int) -> (sh1 g.1.1.2 /\ sh1 r.1.2) /\ ∀ (c : (Bool × List Int) × Unit), WfZ c.1 /\ True -> c.1 = ic (iv g.1.1 * iv r.1) -> (sh1 b.1.2 /\ sh1 c.1.2) /\ ∀ (r : (Bool × List Int) × Unit), WfZ r.1 /\ True -> r.1 = ic (iv b.1 + iv c.1) -> sh3 x.1 /\ ∀ (d : (Bool × List Int) × Unit), WfZ d.1 /\ True -> d.1 = ic (↑(rv x.1).den : Int) -> sh3 x.2.1 /\ ∀ (e : (Bool × List Int) × Unit), WfZ e.1 /\ True -> e.1 = ic (↑(rv x.2.1).den : Int) -> (sh1 d.1.2 /\ sh1 e.1.2) /\ ∀ (f : (Bool × List Int) × Unit), WfZ f.1 /\ True -> f.1 = ic (iv d.1 * iv e.1) -> (sh2 r.1.2 /\ sh2 f.1.2) /\ ∀ (h : QQ × Unit), WfQ h.1 /\ True -> h.1 = rc (C1c r.1 f.1) -> h.1 = rc (rv x.1 + rv x.2.1)) /\ ((sh3 x.2.1 /\ ∀ (g : QQ × Unit), WfQ g.1 /\ True -> g.1 = rc (rv x.2.1) -> sh3 x.2.1 /\ ∀ (a : (Bool × List Int) × Unit), WfZ a.1 /\ True -> a.1 = ic (↑(rv x.2.1).den : Int) -> (sh1 r.1.1.2 /\ sh1 a.1.2) /\ ∀ (b : (Bool × List Int) × Unit), WfZ b.1 /\ True -> b.1 = ic (iv r.1.1 * iv a.1) -> sh3 x.1 /\ ∀ (r : (Bool × List Int) × Unit), WfZ r.1 /\ True -> r.1 = ic (↑(rv x.1).den : Int) -> (sh1 g.1.1.2 /\ sh1 r.1.2) /\ ∀ (c : (Bool × List Int) × Unit), WfZ c.1 /\ True -> c.1 = ic (iv g.1.1 * iv r.1) -> (sh1 b.1.2 /\ sh1 c.1.2) /\ ∀ (r : (Bool × List Int) × Unit), WfZ r.1 /\ True -> r.1 = ic (iv b.1 + iv c.1) -> sh3 x.1 /\ ∀ (d : (Bool × List Int) × Unit), WfZ d.1 /\ True -> d.1 = ic (↑(rv x.1).den : Int) -> sh3 x.2.1 /\ ∀ (e : (Bool × List Int) × Unit), WfZ e.1 /\ True -> e.1 = ic (↑(rv x.2.1).den : Int) -> (sh1 d.1.2 /\ sh1 e.1.2) /\ ∀ (f : (Bool × List Int) × Unit), WfZ f.1 /\ True -> f.1 = ic (iv d.1 * iv e.1) -> (sh2 r.1.2 /\ sh2 f.1.2) /\ ∀ (h : QQ × Unit), WfQ h.1 /\ True -> h.1 = rc (C1c r.1 f.1) -> h.1 = rc (rv x.1 + rv x.2.1)) /\ sh3 x.2.1 /\ ∀ (g : QQ × Unit), WfQ g.1 /\ True -> g.1 = rc (rv x.2.1) -> sh3 x.2.1 /\ ∀ (a : (Bool × List Int) × Unit), WfZ a.1 /\ True -> a.1 = ic (↑(rv x.2.1).den : Int) -> (sh1 r.1.1.2 /\ sh1 a.1.2) /\ ∀ (b : (Bool × List Int) × Unit), WfZ b.1 /\ True -> b.1 = ic (iv r.1.1 * iv a.1) -> sh3 x.1 /\ ∀ (r : (Bool × List Int) × Unit), WfZ r.1 /\ True -> r.1 = ic (↑(rv x.1).den : Int) -> (sh1 g.1.1.2 /\ sh1 r.1.2) /\ ∀ (c : (Bool × List Int) × Unit), WfZ c.1 /\ True -> c.1 = ic (iv g.1.1 * iv r.1) -> (sh1 b.1.2 /\ sh1 c.1.2) /\ ∀ (r : (Bool × List Int) × Unit), WfZ r.1 /\ True -> r.1 = ic (iv b.1 + iv c.1) -> sh3 x.1 /\ ∀ (d : (Bool × List Int) × Unit), WfZ d.1 /\ True -> d.1 = ic (↑(rv x.1).den : Int) -> sh3 x.2.1 /\ ∀ (e : (Bool × List Int) × Unit), WfZ e.1 /\ True -> e.1 = ic (↑(rv x.2.1).den : Int) -> (sh1 d.1.2 /\ sh1 e.1.2) /\ ∀ (f : (Bool × List Int) × Unit), WfZ f.1 /\ True -> f.1 = ic (iv d.1 * iv e.1) -> (sh2 r.1.2 /\ sh2 f.1.2) /\ ∀ (h : QQ × Unit), WfQ h.1 /\ True -> h.1 = rc (C1c r.1 f.1) -> h.1 = rc (rv x.1 + rv x.2.1)) /\ (sh3 x.2.1 /\ ∀ (g : QQ × Unit), WfQ g.1 /\ True -> g.1 = rc (rv x.2.1) -> sh3 x.2.1 /\ ∀ (a : (Bool × List Int) × Unit), WfZ a.1 /\ True -> a.1 = ic (↑(rv x.2.1).den : Int) -> (sh1 r.1.1.2 /\ sh1 a.1.2) /\ ∀ (b : (Bool × List Int) × Unit), WfZ b.1 /\ True -> b.1 = ic (iv r.1.1 * iv a.1) -> sh3 x.1 /\ ∀ (r : (Bool × List Int) × Unit), WfZ r.1 /\ True -> r.1 = ic (↑(rv x.1).den : Int) -> (sh1 g.1.1.2 /\ sh1 r.1.2) /\ ∀ (c : (Bool × List Int) × Unit), WfZ c.1 /\ True -> c.1 = ic (iv g.1.1 * iv r.1) -> (sh1 b.1.2 /\ sh1 c.1.2) /\ ∀ (r : (Bool × List Int) × Unit), WfZ r.1 /\ True -> r.1 = ic (iv b.1 + iv c.1) -> sh3 x.1 /\ ∀ (d : (Bool × List Int) × Unit), WfZ d.1 /\ True -> d.1 = ic (↑(rv x.1).den : Int) -> sh3 x.2.1 /\ ∀ (e : (Bool × List Int) × Unit), WfZ e.1 /\ True -> e.1 = ic (↑(rv x.2.1).den : Int) -> (sh1 d.1.2 /\ sh1 e.1.2) /\ ∀ (f : (Bool × List Int) × Unit), WfZ f.1 /\ True -> f.1 = ic (iv d.1 * iv e.1) -> (sh2 r.1.2 /\ sh2 f.1.2) /\ ∀ (h : QQ × Unit), WfQ h.1 /\ True -> h.1 = rc (C1c r.1 f.1) -> h.1 = rc (rv x.1 + rv x.2.1)) /\ sh3 x.2.1 /\ ∀ (g : QQ × Unit), WfQ g.1 /\ True -> g.1 = rc (rv x.2.1) -> sh3 x.2.1 /\ ∀ (a : (Bool × List Int) × Unit), WfZ a.1 /\ True -> a.1 = ic (↑(rv x.2.1).den : Int) -> (sh1 r.1.1.2 /\ sh1 a.1.2) /\ ∀ (b : (Bool × List Int) × Unit), WfZ b.1 /\ True -> b.1 = ic (iv r.1.1 * iv a.1) -> sh3 x.1 /\ ∀ (r : (Bool × List Int) × Unit), WfZ r.1 /\ True -> r.1 = ic (↑(rv x.1).den : Int) -> (sh1 g.1.1.2 /\ sh1 r.1.2) /\ ∀ (c : (Bool × List Int) × Unit), WfZ c.1 /\ True -> c.1 = ic (iv g.1.1 * iv r.1) -> (sh1 b.1.2 /\ sh1 c.1.2) /\ ∀ (r : (Bool × List Int) × Unit), WfZ r.1 /\ True -> r.1 = ic (iv b.1 + iv c.1) -> sh3 x.1 /\ ∀ (d : (Bool × List Int) × Unit), WfZ d.1 /\ True -> d.1 = ic (↑(rv x.1).den : Int) -> sh3 x.2.1 /\ ∀ (e : (Bool × List Int) × Unit), WfZ e.1 /\ True -> e.1 = ic (↑(rv x.2.1).den : Int) -> (sh1 d.1.2 /\ sh1 e.1.2) /\ ∀ (f : (Bool × List Int) × Unit), WfZ f.1 /\ True -> f.1 = ic (iv d.1 * iv e.1) -> (sh2 r.1.2 /\ sh2 f.1.2) /\ ∀ (h : QQ × Unit), WfQ h.1 /\ True -> h.1 = rc (C1c r.1 f.1) -> h.1 = rc (rv x.1 + rv x.2.1)) /\ ((sh3 x.1 /\ ∀ (r : QQ × Unit), WfQ r.1 /\ True -> r.1 = rc (rv x.1) -> (sh3 x.2.1 /\ ∀ (g : QQ × Unit), WfQ g.1 /\ True -> g.1 = rc (rv x.2.1) -> sh3 x.2.1 /\ ∀ (a : (Bool × List Int) × Unit), WfZ a.1 /\ True -> a.1 = ic (↑(rv x.2.1).den : Int) -> (sh1 r.1.1.2 /\ sh1 a.1.2) /\ ∀ (b : (Bool × List Int) × Unit), WfZ b.1 /\ True -> b.1 = ic (iv r.1.1 * iv a.1) -> sh3 x.1 /\ ∀ (r : (Bool × List Int) × Unit), WfZ r.1 /\ True -> r.1 = ic (↑(rv x.1).den : Int) -> (sh1 g.1.1.2 /\ sh1 r.1.2) /\ ∀ (c : (Bool × List Int) × Unit), WfZ c.1 /\ True -> c.1 = ic (iv g.1.1 * iv r.1) -> (sh1 b.1.2 /\ sh1 c.1.2) /\ ∀ (r : (Bool × List Int) × Unit), WfZ r.1 /\ True -> r.1 = ic (iv b.1 + iv c.1) -> sh3 x.1 /\ ∀ (d : (Bool × List Int) × Unit), WfZ d.1 /\ True -> d.1 = ic (↑(rv x.1).den : Int) -> sh3 x.2.1 /\ ∀ (e : (Bool × List Int) × Unit), WfZ e.1 /\ True -> e.1 = ic (↑(rv x.2.1).den : Int) -> (sh1 d.1.2 /\ sh1 e.1.2) /\ ∀ (f : (Bool × List Int) × Unit), WfZ f.1 /\ True -> f.1 = ic (iv d.1 * iv e.1) -> (sh2 r.1.2 /\ sh2 f.1.2) /\ ∀ (h : QQ × Unit), WfQ h.1 /\ True -> h.1 = rc (C1c r.1 f.1) -> h.1 = rc (rv x.1 + rv x.2.1)) /\ sh3 x.2.1 /\ ∀ (g : QQ × Unit), WfQ g.1 /\ True -> g.1 = rc (rv x.2.1) -> sh3 x.2.1 /\ ∀ (a : (Bool × List Int) × Unit), WfZ a.1 /\ True -> a.1 = ic (↑(rv x.2.1).den : Int) -> (sh1 r.1.1.2 /\ sh1 a.1.2) /\ ∀ (b : (Bool × List Int) × Unit), WfZ b.1 /\ True -> b.1 = ic (iv r.1.1 * iv a.1) -> sh3 x.1 /\ ∀ (r : (Bool × List Int) × Unit), WfZ r.1 /\ True -> r.1 = ic (↑(rv x.1).den : Int) -> (sh1 g.1.1.2 /\ sh1 r.1.2) /\ ∀ (c : (Bool × List Int) × Unit), WfZ c.1 /\ True -> c.1 = ic (iv g.1.1 * iv r.1) -> (sh1 b.1.2 /\ sh1 c.1.2) /\ ∀ (r : (Bool × List Int) × Unit), WfZ r.1 /\ True -> r.1 = ic (iv b.1 + iv c.1) -> sh3 x.1 /\ ∀ (d : (Bool × List Int) × Unit), WfZ d.1 /\ True -> d.1 = ic (↑(rv x.1).den : Int) -> sh3 x.2.1 /\ ∀ (e : (Bool × List Int) × Unit), WfZ e.1 /\ True -> e.1 = ic (↑(rv x.2.1).den : Int) -> (sh1 d.1.2 /\ sh1 e.1.2) /\ ∀ (f : (Bool × List Int) × Unit), WfZ f.1 /\ True -> f.1 = ic (iv d.1 * iv e.1) -> (sh2 r.1.2 /\ sh2 f.1.2) /\ ∀ (h : QQ × Unit), WfQ h.1 /\ True -> h.1 = rc (C1c r.1 f.1) -> h.1 = rc (rv x.1 + rv x.2.1)) /\ sh3 x.1 /\ ∀ (r : QQ × Unit), WfQ r.1 /\ True -> r.1 = rc (rv x.1) -> sh3 x.2.1 /\ ∀ (g : QQ × Unit), WfQ g.1 /\ True -> g.1 = rc (rv x.2.1) -> sh3 x.2.1 /\ ∀ (a : (Bool × List Int) × Unit), WfZ a.1 /\ True -> a.1 = ic (↑(rv x.2.1).den : Int) -> (sh1 r.1.1.2 /\ sh1 a.1.2) /\ ∀ (b : (Bool × List Int) × Unit), WfZ b.1 /\ True -> b.1 = ic (iv r.1.1 * iv a.1) -> sh3 x.1 /\ ∀ (r : (Bool × List Int) × Unit), WfZ r.1 /\ True -> r.1 = ic (↑(rv x.1).den : Int) -> (sh1 g.1.1.2 /\ sh1 r.1.2) /\ ∀ (c : (Bool × List Int) × Unit), WfZ c.1 /\ True -> c.1 = ic (iv g.1.1 * iv r.1) -> (sh1 b.1.2 /\ sh1 c.1.2) /\ ∀ (r : (Bool × List Int) × Unit), WfZ r.1 /\ True -> r.1 = ic (iv b.1 + iv c.1) -> sh3 x.1 /\ ∀ (d : (Bool × List Int) × Unit), WfZ d.1 /\ True -> d.1 = ic (↑(rv x.1).den : Int) -> sh3 x.2.1 /\ ∀ (e : (Bool × List Int) × Unit), WfZ e.1 /\ True -> e.1 = ic (↑(rv x.2.1).den : Int) -> (sh1 d.1.2 /\ sh1 e.1.2) /\ ∀ (f : (Bool × List Int) × Unit), WfZ f.1 /\ True -> f.1 = ic (iv d.1 * iv e.1) -> (sh2 r.1.2 /\ sh2 f.1.2) /\ ∀ (h : QQ × Unit), WfQ h.1 /\ True -> h.1 = rc (C1c r.1 f.1) -> h.1 = rc (rv x.1 + rv x.2.1)) /\ (sh3 x.1 /\ ∀ (r : QQ × Unit), WfQ r.1 /\ True -> r.1 = rc (rv x.1) -> (sh3 x.2.1 /\ ∀ (g : QQ × Unit), WfQ g.1 /\ True -> g.1 = rc (rv x.2.1) -> sh3 x.2.1 /\ ∀ (a : (Bool × List Int) × Unit), WfZ a.1 /\ True -> a.1 = ic (↑(rv x.2.1).den : Int) -> (sh1 r.1.1.2 /\ sh1 a.1.2) /\ ∀ (b : (Bool × List Int) × Unit), WfZ b.1 /\ True -> b.1 = ic (iv r.1.1 * iv a.1) -> sh3 x.1 /\ ∀ (r : (Bool × List Int) × Unit), WfZ r.1 /\ True -> r.1 = ic (↑(rv x.1).den : Int) -> (sh1 g.1.1.2 /\ sh1 r.1.2) /\ ∀ (c : (Bool × List Int) × Unit), WfZ c.1 /\ True -> c.1 = ic (iv g.1.1 * iv r.1) -> (sh1 b.1.2 /\ sh1 c.1.2) /\ ∀ (r : (Bool × List Int) × Unit), WfZ r.1 /\ True -> r.1 = ic (iv b.1 + iv c.1) -> sh3 x.1 /\ ∀ (d : (Bool × List Int) × Unit), WfZ d.1 /\ True -> d.1 = ic (↑(rv x.1).den : Int) -> sh3 x.2.1 /\ ∀ (e : (Bool × List Int) × Unit), WfZ e.1 /\ True -> e.1 = ic (↑(rv x.2.1).den : Int) -> (sh1 d.1.2 /\ sh1 e.1.2) /\ ∀ (f : (Bool × List Int) × Unit), WfZ f.1 /\ True -> f.1 = ic (iv d.1 * iv e.1) -> (sh2 r.1.2 /\ sh2 f.1.2) /\ ∀ (h : QQ × Unit), WfQ h.1 /\ True -> h.1 = rc (C1c r.1 f.1) -> h.1 = rc (rv x.1 + rv x.2.1)) /\ sh3 x.2.1 /\ ∀ (g : QQ × Unit), WfQ g.1 /\ True -> g.1 = rc (rv x.2.1) -> sh3 x.2.1 /\ ∀ (a : (Bool × List Int) × Unit), WfZ a.1 /\ True -> a.1 = ic (↑(rv x.2.1).den : Int) -> (sh1 r.1.1.2 /\ sh1 a.1.2) /\ ∀ (b : (Bool × List Int) × Unit), WfZ b.1 /\ True -> b.1 = ic (iv r.1.1 * iv a.1) -> sh3 x.1 /\ ∀ (r : (Bool × List Int) × Unit), WfZ r.1 /\ True -> r.1 = ic (↑(rv x.1).den : Int) -> (sh1 g.1.1.2 /\ sh1 r.1.2) /\ ∀ (c : (Bool × List Int) × Unit), WfZ c.1 /\ True -> c.1 = ic (iv g.1.1 * iv r.1) -> (sh1 b.1.2 /\ sh1 c.1.2) /\ ∀ (r : (Bool × List Int) × Unit), WfZ r.1 /\ True -> r.1 = ic (iv b.1 + iv c.1) -> sh3 x.1 /\ ∀ (d : (Bool × List Int) × Unit), WfZ d.1 /\ True -> d.1 = ic (↑(rv x.1).den : Int) -> sh3 x.2.1 /\ ∀ (e : (Bool × List Int) × Unit), WfZ e.1 /\ True -> e.1 = ic (↑(rv x.2.1).den : Int) -> (sh1 d.1.2 /\ sh1 e.1.2) /\ ∀ (f : (Bool × List Int) × Unit), WfZ f.1 /\ True -> f.1 = ic (iv d.1 * iv e.1) -> (sh2 r.1.2 /\ sh2 f.1.2) /\ ∀ (h : QQ × Unit), WfQ h.1 /\ True -> h.1 = rc (C1c r.1 f.1) -> h.1 = rc (rv x.1 + rv x.2.1)) /\ sh3 x.1 /\ ∀ (r : QQ × Unit), WfQ r.1 /\ True -> r.1 = rc (rv x.1) -> sh3 x.2.1 /\ ∀ (g : QQ × Unit), WfQ g.1 /\ True -> g.1 = rc (rv x.2.1) -> sh3 x.2.1 /\ ∀ (a : (Bool × List Int) × Unit), WfZ a.1 /\ True -> a.1 = ic (↑(rv x.2.1).den : Int) -> (sh1 r.1.1.2 /\ sh1 a.1.2) /\ ∀ (b : (Bool × List Int) × Unit), WfZ b.1 /\ True -> b.1 = ic (iv r.1.1 * iv a.1) -> sh3 x.1 /\ ∀ (r : (Bool × List Int) × Unit), WfZ r.1 /\ True -> r.1 = ic (↑(rv x.1).den : Int) -> (sh1 g.1.1.2 /\ sh1 r.1.2) /\ ∀ (c : (Bool × List Int) × Unit), WfZ c.1 /\ True -> c.1 = ic (iv g.1.1 * iv r.1) -> (sh1 b.1.2 /\ sh1 c.1.2) /\ ∀ (r : (Bool × List Int) × Unit), WfZ r.1 /\ True -> r.1 = ic (iv b.1 + iv c.1) -> sh3 x.1 /\ ∀ (d : (Bool × List Int) × Unit), WfZ d.1 /\ True -> d.1 = ic (↑(rv x.1).den : Int) -> sh3 x.2.1 /\ ∀ (e : (Bool × List Int) × Unit), WfZ e.1 /\ True -> e.1 = ic (↑(rv x.2.1).den : Int) -> (sh1 d.1.2 /\ sh1 e.1.2) /\ ∀ (f : (Bool × List Int) × Unit), WfZ f.1 /\ True -> f.1 = ic (iv d.1 * iv e.1) -> (sh2 r.1.2 /\ sh2 f.1.2) /\ ∀ (h : QQ × Unit), WfQ h.1 /\ True -> h.1 = rc (C1c r.1 f.1) -> h.1 = rc (rv x.1 + rv x.2.1)
theorem D6r (x : A7 A3a.args) : K8 Tryz.prog tys D3n E8s A3a Tryz.f32 x = C4p x := by kernel_rfl
theorem F6x {p : X5} (l1 : A9 p.1.2) (l2 : A9 p.2) (h : sh3 p) : (ic (rv p).num).2.length <= 2199023255552 /\ (ic ((rv p).den : Int)).2.length <= 2199023255552 := by
  have := B2v l1 l2 h.1 h.2 (by decide)
  exact ⟨this.1, by rw [A5n, Int.natAbs_natCast]; exact this.2⟩
theorem icm {x y : Int} {k : Nat} (hx : (ic x).2.length <= k) (hy : (ic y).2.length <= k) : (ic (x * y)).2.length <= 2 * k := by
  rw [A5n] at *
  rw [Int.natAbs_mul]
  have := B5f x.natAbs y.natAbs
  omega
theorem ica {x y : Int} {k : Nat} (hx : (ic x).2.length <= k) (hy : (ic y).2.length <= k) : (ic (x + y)).2.length <= k + 1 := by
  rw [A5n] at *
  have h1 := M5 (Int.natAbs_add_le x y)
  have := D3z x.natAbs y.natAbs
  omega
theorem D6y (x : A7 A3a.args) (hw : awf A3a.args x) (hp : A3a.pre x) : C4p x := by
  obtain ⟨p, q, _⟩ := x
  have lp1 : A9 p.1.2 := A5 hw.1.1.2.2
  have lp2 : A9 p.2 := A5 hw.1.2.2
  have lq1 : A9 q.1.2 := A5 hw.2.1.1.2.2
  have lq2 : A9 q.2 := A5 hw.2.1.2.2
  change X5 at p q
  obtain ⟨hp3, hq3⟩ : sh3 p /\ sh3 q := hp
  obtain ⟨a1, a2⟩ := F6x lp1 lp2 hp3
  obtain ⟨b1, b2⟩ := F6x lq1 lq2 hq3
  have m1 := icm a1 b2
  have m2 := icm b1 a2
  have m3 := icm a2 b2
  have m4 := ica m1 m2
  have fin : rc (C1c (ic ((rv p).num * ((rv q).den : Int) + (rv q).num * ((rv p).den : Int))) (ic (((rv p).den : Int) * ((rv q).den : Int)))) = rc (rv p + rv q) := by
    unfold C1c
    rw [A2i, A2i, E8k]
  have P1 : sh1 (ic (rv p).num).2 := by show _ <= _; omega
  have P2 : sh1 (ic ((rv p).den : Int)).2 := by show _ <= _; omega
  have Q1 : sh1 (ic (rv q).num).2 := by show _ <= _; omega
  have Q2 : sh1 (ic ((rv q).den : Int)).2 := by show _ <= _; omega
  have M1 : sh1 (ic ((rv p).num * ((rv q).den : Int))).2 := by show _ <= _; omega
  have M2 : sh1 (ic ((rv q).num * ((rv p).den : Int))).2 := by show _ <= _; omega
  have M3 : sh2 (ic (((rv p).den : Int) * ((rv q).den : Int))).2 := by show _ <= _; omega
  have M4 : sh2 (ic ((rv p).num * ((rv q).den : Int) + (rv q).num * ((rv p).den : Int))).2 := by show _ <= _; omega
  clear m1 m2 m3 m4 a1 a2 b1 b2
  have r1 : (rc (rv p)).1 = ic (rv p).num := rfl
  have r2 : (rc (rv q)).1 = ic (rv q).num := rfl
  simp only [C4p]
  repeat' first
    | assumption
    | apply And.intro
    | (rintro ⟨r, _⟩ _ h; simp only at h ⊢; subst h; try simp only [r1, r2, A2i])
theorem B1e (x : A7 I8.args) (hw : awf I8.args x) (_ : I8.pre x) : A0l x := by
  obtain ⟨a, b, _⟩ := x
  change Int at a b
  simp only [A0l]
  refine ⟨trivial, ?_⟩
  rintro ⟨r, _⟩ _ hr
  refine ⟨trivial, ?_⟩
  rintro ⟨s, _⟩ _ hs
  change Bool at r s
  simp only at hr hs
  rw [hr, hs]
  refine ⟨fun h => (by cases h), fun _ => ⟨fun h => (by cases h), fun _ => ⟨fun h => ?_, fun h => ⟨fun h2 => ?_, fun h2 => ?_⟩⟩⟩⟩
  . simp [C7b, of_decide_eq_true h]
  . simp [C7b, of_decide_eq_false h, of_decide_eq_true h2]
  . simp [C7b, of_decide_eq_false h, of_decide_eq_false h2]
theorem C1u (x : A7 P7.args) (hw : awf P7.args x) (hp : P7.pre x) : A6n x := by
  obtain ⟨p, _⟩ := x
  change D1g at p
  simp only [A6n]
  refine ⟨hp, ?_⟩
  rintro ⟨r, _⟩ _ hr
  simp only at hr ⊢
  refine ⟨trivial, ?_⟩
  rintro ⟨s, _⟩ _ hs
  simp only at hs ⊢
  rw [hs, hr]
  have h := F7g (neg := !p.1) (m := nv p.2)
  have e : iv (!p.1, nc (nv p.2)) = - iv p := by
    rw [F5z]
    congr 1
    unfold iv
    simp only [H2]
  rw [<- e, h]
  have : decide (nc (nv p.2) ≠ []) = decide (nv p.2 ≠ 0) := decide_eq_decide.2 (not_congr C4s)
  rw [this]
theorem D4h {a b : Int} (ha : -2147483647 <= a /\ a <= 2147483647) (hb : -2147483647 <= b /\ b <= 2147483647) : -4611686014132420609 <= a * b /\ a * b <= 4611686014132420609 := by
  have h : (a * b).natAbs <= 2147483647 * 2147483647 := by
    rw [Int.natAbs_mul]; exact Nat.mul_le_mul (by omega) (by omega)
  omega
theorem B8o (x : A7 J1.args) (hw : awf J1.args x) (hp : J1.pre x) : A4q x := by
  obtain ⟨p, q, _⟩ := x
  have lp1 : A9 p.1.2 := A5 hw.1.1.2.2
  have lp2 : A9 p.2 := A5 hw.1.2.2
  have lq1 : A9 q.1.2 := A5 hw.2.1.1.2.2
  have lq2 : A9 q.2 := A5 hw.2.1.2.2
  change X5 at p q
  obtain ⟨hp3, hq3⟩ : sh3 p /\ sh3 q := hp
  obtain ⟨hp1, hp2⟩ := hp3
  obtain ⟨hq1, hq2⟩ := hq3
  simp only [A4q]
  refine ⟨trivial, ?_⟩
  rintro ⟨an, ad, aok, _⟩ _ ⟨a1, a2⟩
  refine ⟨trivial, ?_⟩
  rintro ⟨bn, bd, bok, _⟩ _ ⟨b1, b2⟩
  change Int at an ad bn bd
  simp only at a1 a2 b1 b2 ⊢
  refine ⟨fun h => ?_, fun _ => ⟨trivial, ?_⟩⟩
  . rw [U2, Bool.and_eq_true] at h
    have sp : O4 p := Decidable.byContradiction fun hn => by have := a2 hn; rw [this] at h; exact absurd h.1 (by decide)
    have sq : O4 q := Decidable.byContradiction fun hn => by have := b2 hn; rw [this] at h; exact absurd h.2 (by decide)
    obtain ⟨ea, ed, _⟩ := a1 sp
    obtain ⟨eb, ee, _⟩ := b1 sq
    obtain ⟨x1, x2, x3, x4⟩ := B9a sp
    obtain ⟨y1, y2, y3, y4⟩ := B9a sq
    have h1 := D4h (a := an) (b := bn) (by omega) (by omega)
    have h2 := D4h (a := ad) (b := bd) (by omega) (by omega)
    have h4 : 0 < ad * bd := Int.mul_pos (by omega) (by omega)
    rw [wr (a := ad * bd) (by omega) (by omega), wr (a := an * bn) (by omega) (by omega)]
    refine ⟨h4, ?_⟩
    rintro ⟨r, _⟩ _ hr
    simp only at hr ⊢
    rw [hr, <- D0z p, <- D0z q, <- ea, <- ed, <- eb, <- ee, Rat.mkRat_mul_mkRat, Int.toNat_mul (by omega) (by omega)]
  . rintro ⟨n, d, _⟩ ⟨hwn, hwd, _⟩ h1
    refine ⟨trivial, ?_⟩
    rintro ⟨m, e, _⟩ ⟨hwm, hwe, _⟩ h2
    have ln : A9 n.2 := A5 hwn.2.2
    have ld : A9 d := A5 hwd.2
    have lm : A9 m.2 := A5 hwm.2.2
    have le : A9 e := A5 hwe.2
    change D1g at n m
    change List Int at d e
    simp only at h1 h2 ⊢
    obtain ⟨d0, hP⟩ := C0e h1
    obtain ⟨e0, hQ⟩ := C0e h2
    obtain ⟨n1, d1⟩ := B1v (k := 2199023255552) h1 hp1 hp2 (by decide)
    obtain ⟨m1, e1⟩ := B1v (k := 2199023255552) h2 hq1 hq2 (by decide)
    have x1 := C3n (x := n) (y := m) ln lm
    have x2 := C3m ld le
    rw [hP, hQ]
    refine ⟨⟨by show n.2.length <= _; omega, by show m.2.length <= _; omega⟩, ?_⟩
    rintro ⟨u, _⟩ _ hu
    refine ⟨⟨by show d.length <= _; omega, by show e.length <= _; omega⟩, ?_⟩
    rintro ⟨v, _⟩ _ hv
    simp only at hu hv ⊢
    refine ⟨⟨by rw [hv, H2]; exact Nat.mul_ne_zero d0 e0, by show u.2.length <= _; rw [hu]; omega, by show v.length <= _; rw [hv]; omega⟩, ?_⟩
    rintro ⟨r, _⟩ _ hr
    simp only at hr ⊢
    rw [hr, hu, hv, A2i, H2, Rat.mkRat_mul_mkRat]
theorem B7q (x : A7 O0.args) (hw : awf O0.args x) (hp : O0.pre x) : A4g x := by
  obtain ⟨p, _⟩ := x
  have lp1 : A9 p.1.2 := A5 hw.1.1.2.2
  have lp2 : A9 p.2 := A5 hw.1.2.2
  change X5 at p
  have hp3 : sh3 p := hp
  obtain ⟨a1, a2⟩ := B2v (k := 2199023255552) lp1 lp2 hp3.1 hp3.2 (by decide)
  simp only [A4g]
  refine ⟨hp3, ?_⟩
  rintro ⟨r, _⟩ _ hr
  simp only at hr ⊢
  subst hr
  refine ⟨by show (ic (rv p).num).2.length <= _; omega, ?_⟩
  rintro ⟨s, _⟩ _ hs
  simp only at hs ⊢
  rw [hs]
  show (ic (-iv (ic (rv p).num)), nc (rv p).den) = (ic (-(rv p)).num, nc (-(rv p)).den)
  rw [A2i, Rat.neg_num, Rat.neg_den]
theorem G1g {q : Rat} (h : q ≠ 0) : (((ic q.num).1, nc q.den), (ic q.num).2) = rc q⁻¹ := by
  have hn : q.num ≠ 0 := fun e => h (Rat.num_eq_zero.1 e)
  unfold rc ic
  rw [Rat.num_inv, Rat.den_inv, if_neg hn, Int.natAbs_mul, Int.natAbs_natCast, Int.natAbs_sign_of_ne_zero hn, Nat.one_mul]
  have hd : (0 : Int) < (q.den : Int) := by have := q.den_pos; omega
  have : (q.num.sign * (q.den : Int) < 0) ↔ q.num < 0 := by
    rcases Int.lt_trichotomy q.num 0 with h1 | h1 | h1
    . rw [Int.sign_eq_neg_one_of_neg h1]; omega
    . exact absurd h1 hn
    . rw [Int.sign_eq_one_of_pos h1]; omega
  simp only [this]
theorem B8u (x : A7 N6.args) (hw : awf N6.args x) (hp : N6.pre x) : A4a x := by
  obtain ⟨p, _⟩ := x
  change X5 at p
  have hp3 : sh3 p := hp
  simp only [A4a]
  refine ⟨trivial, ?_⟩
  rintro ⟨s, _⟩ _ hs
  simp only at hs ⊢
  refine ⟨fun h => ?_, fun h => ⟨hp3, ?_⟩⟩
  . have h0 := E0s (hs ▸ of_decide_eq_true h)
    exact ⟨fun _ => by trivial, fun hn => absurd h0 hn⟩
  . rintro ⟨r, _⟩ _ hr
    simp only at hr ⊢
    refine ⟨fun h0 => ?_, fun h0 => ⟨by rw [hr]; exact G1g h0, by trivial⟩⟩
    have h := of_decide_eq_false h
    rw [hs, h0] at h
    exact absurd rfl h
theorem E4u {a : Int} (h : IntKind.i64.min <= a /\ a <= IntKind.i64.max) : (ic a).2.length <= 2 := by
  have h1 : -9223372036854775808 <= a /\ a <= 9223372036854775807 := h
  exact A5i (by show a.natAbs < 4294967296 ^ 2; omega)
theorem E0y (x : A7 A5j.args) (hw : awf A5j.args x) (_ : A5j.pre x) : C9z x := by
  obtain ⟨a, b, _⟩ := x
  have ha : (ic a).2.length <= 2 := E4u hw.1
  have hb : (ic b).2.length <= 2 := E4u hw.2.1
  change Int at a b
  simp only [C9z]
  refine ⟨trivial, ?_⟩
  rintro ⟨r, _⟩ _ hr
  refine ⟨trivial, ?_⟩
  rintro ⟨s, _⟩ _ hs
  simp only at hr hs ⊢
  subst hr hs
  refine ⟨⟨by show (ic a).2.length <= _; omega, by show (ic b).2.length <= _; omega⟩, ?_⟩
  rintro ⟨t, _⟩ _ ht
  simp only at ht ⊢
  rw [ht]
  unfold C1c
  rw [A2i, A2i]
def B5z : An := { loop := [(2, ⟨[0], [], [(3, false, [.val (.int .i64)])], [], []⟩)], plan := [(4, [5, 10], [], true, (.p 0 (.p 1 (.p 2 (.p 3 (.p 4 (.q 5 (.p 6 (.p 7 (.p 8 (.p 9 (.q 10 (.p 11 .done)))))))))))))] }
def A4h : B6 := []
def C2l : An := { join := [(14, ⟨[3, 18, 19, 20], [], [(4, false, [.val (.int .i64)])], [], [(0, .row tE 94)]⟩)], loop := [(8, ⟨[3, 18, 19], [], [(4, false, [.val (.int .i64)]), (20, false, [.val (.int .i64)])], [], [(0, .row tE 94)]⟩)], plan := [(10, [8, 10], [], true, (.p 0 (.p 1 (.p 2 (.p 3 (.p 4 (.p 5 (.p 6 (.p 7 (.q 8 (.p 9 (.q 10 (.p 11 (.p 12 .done)))))))))))))), (11, [8, 10], [14], true, (.p 0 (.p 1 (.p 2 (.p 3 (.p 4 (.p 5 (.p 6 (.p 7 (.q 8 (.p 9 (.q 10 (.e 11 (.p 12 (.p 13 (.e 14 .done))))))))))))))))] }
def A7w : B6 := [(122, H4), (156, J6), (192, F3), (210, N7)]
def C9f : An := { join := [(13, ⟨[2, 7, 9, 10], [1], [(0, false, [.val (.sl tE)]), (1, false, [.val (.sl tE)]), (8, false, [.val (.int .i64)])], [(2, 31, [.val .bool, .val (.sl (.int .u32)), .val (.sl (.int .u32))]), (3, 31, [.val .bool, .val (.sl (.int .u32)), .val (.sl (.int .u32))])], []⟩)], loop := [(2, ⟨[2], [], [(0, false, [.val (.sl tE)]), (1, false, [.val (.sl tE)]), (7, false, [.own tE 94])], [], []⟩)], plan := [(5, [11, 15], [], true, (.p 0 (.p 1 (.p 2 (.p 3 (.p 4 (.p 5 (.p 6 (.p 7 (.p 8 (.p 9 (.p 10 (.q 11 (.p 12 (.p 13 (.p 14 (.q 15 (.p 16 (.p 17 (.p 18 .done)))))))))))))))))))), (6, [3, 7], [9], true, (.p 0 (.p 1 (.p 2 (.q 3 (.p 4 (.p 5 (.p 6 (.q 7 (.p 8 (.e 9 .done))))))))))), (11, [3, 7], [9], true, (.p 0 (.p 1 (.p 2 (.q 3 (.p 4 (.p 5 (.p 6 (.q 7 (.p 8 (.e 9 .done)))))))))))] }
def B0n : B6 := [(160, E2)]
def D0b : An := { loop := [(4, ⟨[1, 10, 11], [], [(12, false, [.val (.int .i64)])], [], []⟩)] }
def B1j : B6 := [(160, E2), (192, F3)]
def D5z : An := { join := [(7, ⟨[1, 4, 5, 9, 10, 11], [0], [], [(1, 31, [.val .bool, .val (.sl (.int .u32)), .val (.sl (.int .u32))])], []⟩)], loop := [(3, ⟨[1, 4, 5, 9, 10], [0], [(11, false, [.val (.int .i64)])], [(1, 31, [.val .bool, .val (.sl (.int .u32)), .val (.sl (.int .u32))])], []⟩)] }
def C1e : B6 := [(70, G5), (122, H4)]
def B0r : An := { plan := [(3, [0, 1, 2], [5], true, (.q 0 (.q 1 (.q 2 (.e 3 (.e 4 (.e 5 .done)))))))] }
def A2q : B6 := [(71, J1), (111, E1), (122, H4), (160, E2)]
def B6w : An := {}
def A5b : B6 := [(169, N9), (170, J7), (171, F1)]
def Y7 : A7 F3.args -> Prop := fun (x : List EE × Unit) => ∃ (I : Int × Unit -> Prop), ∃ (μ : Int × Unit -> Nat), I ((1 : Int), ()) /\ ∀ (p : Int × Unit), G2 p.1 /\ True -> I p -> (decide (p.1 < (x.1.length : Int)) = true -> ((0 : Int) <= IntKind.i64.wrap (p.1 - 1) /\ IntKind.i64.wrap (p.1 - 1) < (x.1.length : Int)) /\ (0 <= p.1 /\ p.1 < (x.1.length : Int)) /\ (decide ((gx dEE x.1 p.1).1 <= (gx dEE x.1 (IntKind.i64.wrap (p.1 - 1))).1) = true -> false = decide (asc x.1)) /\ (decide ((gx dEE x.1 p.1).1 <= (gx dEE x.1 (IntKind.i64.wrap (p.1 - 1))).1) = false -> I (IntKind.i64.wrap (p.1 + 1), ()) /\ μ (IntKind.i64.wrap (p.1 + 1), ()) < μ p)) /\ (decide (p.1 < (x.1.length : Int)) = false -> true = decide (asc x.1))
theorem A9z (x : A7 F3.args) : K8 Tryz.prog tys A4h B5z F3 Tryz.f192 x = Y7 x := by kernel_rfl
def A1x : A7 J7.args -> Prop := fun (x : List EE × Unit) => True /\ ∀ (r : Bool × Unit), True /\ True -> r.1 = decide (asc x.1) -> (r.1 = true -> x.1 = x.1) /\ (r.1 = false -> ((0 : Int) <= (x.1.length : Int) /\ (x.1.length : Int) <= (x.1.length : Int) /\ (↑(64 : Nat) : Int) * (x.1.length : Int) <= (281474976710656 : Int) /\ (x.1.length : Int) <= (9223372036854775807 : Int)) /\ ∃ (ok : EE × EE × Unit -> Prop), ∃ (φ : EE × EE × Unit -> Int), (∀ (y : EE × EE × Unit), tE.wf y.1 /\ tE.wf y.2.1 /\ True -> ok y -> True /\ ∀ (z : Int × Unit), G2 z.1 /\ True -> z.1 = C7b y.1.1 y.2.1.1 -> false = false /\ z.1 = φ y) /\ False /\ ∀ (b : Unit) (o : List EE × Unit), True -> tE.sl.wf o.1 /\ True -> True -> True -> ∃ (I : Int × Int × List EE × Unit -> Prop), ∃ (μ : Int × Int × List EE × Unit -> Nat), I ((0 : Int), (0 : Int), o) /\ ∀ (p : Int × Int × List EE × Unit), G2 p.1 /\ G2 p.2.1 /\ B8j p.2.2.1 /\ True -> I p -> (decide (p.2.1 < (↑o.1.length : Int)) = true -> ∃ (J : Int × List EE × Unit -> Prop), ((0 <= p.2.1 /\ p.2.1 < (p.2.2.1.length : Int)) /\ (decide (0 < p.1) = true -> (0 : Int) <= IntKind.i64.wrap (p.1 - 1) /\ IntKind.i64.wrap (p.1 - 1) < (p.2.2.1.length : Int)) /\ (sel (decide (0 < p.1)) (decide ((List.getD p.2.2.1 (IntKind.i64.wrap (p.1 - 1)).toNat dEE).1 = (List.getD p.2.2.1 (Int.toNat p.2.1) dEE).1)) false = true -> ((0 : Int) <= IntKind.i64.wrap (p.1 - 1) /\ IntKind.i64.wrap (p.1 - 1) < (p.2.2.1.length : Int)) /\ (sh3 (List.getD p.2.2.1 (IntKind.i64.wrap (p.1 - 1)).toNat dEE).2 /\ sh3 (List.getD p.2.2.1 (Int.toNat p.2.1) dEE).2) /\ ∀ (r : QQ × Unit), WfQ r.1 /\ True -> r.1 = rc (rv (List.getD p.2.2.1 (IntKind.i64.wrap (p.1 - 1)).toNat dEE).2 + rv (List.getD p.2.2.1 (Int.toNat p.2.1) dEE).2) -> ((0 : Int) <= IntKind.i64.wrap (p.1 - 1) /\ IntKind.i64.wrap (p.1 - 1) < (p.2.2.1.length : Int)) /\ J (p.1, List.set p.2.2.1 (IntKind.i64.wrap (p.1 - 1)).toNat ((List.getD p.2.2.1 (IntKind.i64.wrap (p.1 - 1)).toNat dEE).1, r.1), ())) /\ (sel (decide (0 < p.1)) (decide ((List.getD p.2.2.1 (IntKind.i64.wrap (p.1 - 1)).toNat dEE).1 = (List.getD p.2.2.1 (Int.toNat p.2.1) dEE).1)) false = false -> (0 <= p.1 /\ p.1 < (p.2.2.1.length : Int)) /\ J (IntKind.i64.wrap (p.1 + 1), List.set p.2.2.1 (Int.toNat p.1) (List.getD p.2.2.1 (Int.toNat p.2.1) dEE), ()))) /\ ∀ (a : Int × List EE × Unit), G2 a.1 /\ B8j a.2.1 /\ True -> J a -> I (a.1, IntKind.i64.wrap (p.2.1 + 1), a.2.1, ()) /\ μ (a.1, IntKind.i64.wrap (p.2.1 + 1), a.2.1, ()) < μ p) /\ (decide (p.2.1 < (↑o.1.length : Int)) = false -> ((0 : Int) <= (0 : Int) /\ 0 <= p.1 /\ p.1 <= (p.2.2.1.length : Int)) /\ List.drop (Int.toNat (0 : Int)) (List.take (Int.toNat p.1) p.2.2.1) = x.1))
theorem B3q (x : A7 J7.args) : K8 Tryz.prog tys A7w C2l J7 Tryz.f170 x = A1x x := by kernel_rfl
def A4d : A7 N9.args -> Prop := fun (x : List EE × List EE × ((QQ × QQ × Unit -> Prop) × (QQ × QQ × Unit -> (Bool × List Int) × List Int)) × Unit) => ((0 : Int) <= (0 : Int) /\ (0 : Int) <= Max.max (x.1.length : Int) (x.2.1.length : Int) /\ (↑(64 : Nat) : Int) * Max.max (x.1.length : Int) (x.2.1.length : Int) <= (281474976710656 : Int) /\ Max.max (x.1.length : Int) (x.2.1.length : Int) <= (9223372036854775807 : Int)) /\ ∃ (I : List EE × List EE × List EE × Unit -> Prop), ∃ (μ : List EE × List EE × List EE × Unit -> Nat), I (x.1, x.2.1, List.replicate (Int.toNat (0 : Int)) dEE, ()) /\ ∀ (p : List EE × List EE × List EE × Unit), B8j p.1 /\ B8j p.2.1 /\ B8j p.2.2.1 /\ True -> I p -> (sel (decide ((0 : Int) < (p.1.length : Int))) true (decide ((0 : Int) < (p.2.1.length : Int))) = true -> ∃ (J : List EE × List EE × Int × Bool × List Int × List Int × Bool × List Int × List Int × Unit -> Prop), ((decide ((0 : Int) < (p.1.length : Int)) = true /\ decide ((p.2.1.length : Int) = (0 : Int)) = false -> (0 : Int) <= (0 : Int) /\ (0 : Int) < (p.1.length : Int)) /\ (decide ((0 : Int) < (p.1.length : Int)) = true /\ decide ((p.2.1.length : Int) = (0 : Int)) = false -> (0 : Int) <= (0 : Int) /\ (0 : Int) < (p.2.1.length : Int)) /\ (sel (decide ((p.2.1.length : Int) = (0 : Int))) true (sel (decide ((0 : Int) < (p.1.length : Int))) (decide ((gx dEE p.1 (0 : Int)).1 <= (gx dEE p.2.1 (0 : Int)).1)) false) = true -> ((0 : Int) <= (0 : Int) /\ (0 : Int) < (p.1.length : Int)) /\ ((0 : Int) <= (0 : Int) /\ (0 : Int) < (p.1.length : Int)) /\ ((0 : Int) <= (1 : Int) /\ (1 : Int) <= (p.1.length : Int) /\ (p.1.length : Int) <= (p.1.length : Int)) /\ (decide ((0 : Int) < (p.2.1.length : Int)) = true -> (0 : Int) <= (0 : Int) /\ (0 : Int) < (p.2.1.length : Int)) /\ (sel (decide ((0 : Int) < (p.2.1.length : Int))) (decide ((gx dEE p.2.1 (0 : Int)).1 = (gx dEE p.1 (0 : Int)).1)) false = true -> ((0 : Int) <= (0 : Int) /\ (0 : Int) < (p.2.1.length : Int)) /\ ((0 : Int) <= (1 : Int) /\ (1 : Int) <= (p.2.1.length : Int) /\ (p.2.1.length : Int) <= (p.2.1.length : Int)) /\ J (List.drop (Int.toNat (1 : Int)) (List.take (p.1.length : Int).toNat p.1), List.drop (Int.toNat (1 : Int)) (List.take (p.2.1.length : Int).toNat p.2.1), (gx dEE p.1 (0 : Int)).1, (gx dEE p.1 (0 : Int)).2.1.1, (gx dEE p.1 (0 : Int)).2.1.2, (gx dEE p.1 (0 : Int)).2.2, (gx dEE p.2.1 (0 : Int)).2.1.1, (gx dEE p.2.1 (0 : Int)).2.1.2, (gx dEE p.2.1 (0 : Int)).2.2, ())) /\ (sel (decide ((0 : Int) < (p.2.1.length : Int))) (decide ((gx dEE p.2.1 (0 : Int)).1 = (gx dEE p.1 (0 : Int)).1)) false = false -> J (List.drop (Int.toNat (1 : Int)) (List.take (p.1.length : Int).toNat p.1), p.2.1, (gx dEE p.1 (0 : Int)).1, (gx dEE p.1 (0 : Int)).2.1.1, (gx dEE p.1 (0 : Int)).2.1.2, (gx dEE p.1 (0 : Int)).2.2, false, [], [], ()))) /\ (sel (decide ((p.2.1.length : Int) = (0 : Int))) true (sel (decide ((0 : Int) < (p.1.length : Int))) (decide ((gx dEE p.1 (0 : Int)).1 <= (gx dEE p.2.1 (0 : Int)).1)) false) = false -> ((0 : Int) <= (0 : Int) /\ (0 : Int) < (p.2.1.length : Int)) /\ ((0 : Int) <= (0 : Int) /\ (0 : Int) < (p.2.1.length : Int)) /\ ((0 : Int) <= (1 : Int) /\ (1 : Int) <= (p.2.1.length : Int) /\ (p.2.1.length : Int) <= (p.2.1.length : Int)) /\ J (p.1, List.drop (Int.toNat (1 : Int)) (List.take (p.2.1.length : Int).toNat p.2.1), (gx dEE p.2.1 (0 : Int)).1, false, [], [], (gx dEE p.2.1 (0 : Int)).2.1.1, (gx dEE p.2.1 (0 : Int)).2.1.2, (gx dEE p.2.1 (0 : Int)).2.2, ()))) /\ ∀ (a : List EE × List EE × Int × Bool × List Int × List Int × Bool × List Int × List Int × Unit), B8j a.1 /\ B8j a.2.1 /\ G2 a.2.2.1 /\ True /\ WfU a.2.2.2.2.1 /\ WfU a.2.2.2.2.2.1 /\ True /\ WfU a.2.2.2.2.2.2.2.1 /\ WfU a.2.2.2.2.2.2.2.2.1 /\ True -> J a -> Go.Proofs.Tryz.prog = Go.Proofs.Tryz.prog /\ x.2.2.1.1 (((a.2.2.2.1, a.2.2.2.2.1), a.2.2.2.2.2.1), ((a.2.2.2.2.2.2.1, a.2.2.2.2.2.2.2.1), a.2.2.2.2.2.2.2.2.1), ()) /\ (tQ.wf (x.2.2.1.2 (((a.2.2.2.1, a.2.2.2.2.1), a.2.2.2.2.2.1), ((a.2.2.2.2.2.2.1, a.2.2.2.2.2.2.2.1), a.2.2.2.2.2.2.2.2.1), ())) -> True /\ ∀ (r : Int × Unit), G2 r.1 /\ True -> r.1 = (rv (x.2.2.1.2 (((a.2.2.2.1, a.2.2.2.2.1), a.2.2.2.2.2.1), ((a.2.2.2.2.2.2.1, a.2.2.2.2.2.2.2.1), a.2.2.2.2.2.2.2.2.1), ()))).num.sign -> (decide (r.1 ≠ 0) = true -> ((List.length p.2.2.1 + [(a.2.2.1, x.2.2.1.2 (((a.2.2.2.1, a.2.2.2.2.1), a.2.2.2.2.2.1), ((a.2.2.2.2.2.2.1, a.2.2.2.2.2.2.2.1), a.2.2.2.2.2.2.2.2.1), ()))].length) * (64 : Nat) <= (140737488355328 : Nat) /\ List.length p.2.2.1 + [(a.2.2.1, x.2.2.1.2 (((a.2.2.2.1, a.2.2.2.2.1), a.2.2.2.2.2.1), ((a.2.2.2.2.2.2.1, a.2.2.2.2.2.2.2.1), a.2.2.2.2.2.2.2.2.1), ()))].length <= 9223372036854775807) /\ I (a.1, a.2.1, p.2.2.1 ++ [(a.2.2.1, x.2.2.1.2 (((a.2.2.2.1, a.2.2.2.2.1), a.2.2.2.2.2.1), ((a.2.2.2.2.2.2.1, a.2.2.2.2.2.2.2.1), a.2.2.2.2.2.2.2.2.1), ()))], ()) /\ μ (a.1, a.2.1, p.2.2.1 ++ [(a.2.2.1, x.2.2.1.2 (((a.2.2.2.1, a.2.2.2.2.1), a.2.2.2.2.2.1), ((a.2.2.2.2.2.2.1, a.2.2.2.2.2.2.2.1), a.2.2.2.2.2.2.2.2.1), ()))], ()) < μ p) /\ (decide (r.1 ≠ 0) = false -> I (a.1, a.2.1, p.2.2.1, ()) /\ μ (a.1, a.2.1, p.2.2.1, ()) < μ p))) /\ (sel (decide ((0 : Int) < (p.1.length : Int))) true (decide ((0 : Int) < (p.2.1.length : Int))) = false -> p.2.2.1 = M9 x.2.2.1.2 x.1 x.2.1)
theorem B7s (x : A7 N9.args) : K8 Tryz.prog tys B0n C9f N9 Tryz.f169 x = A4d x := by kernel_rfl
def A4s : A7 N5.args -> Prop := fun (x : List EE × Int × Unit) => True /\ ∀ (r : Bool × Unit), True /\ True -> r.1 = decide (asc x.1) -> ((!r.1) = true -> false = decide (V5 x.1 x.2.1)) /\ ((!r.1) = false -> ∃ (I : Int × Unit -> Prop), ∃ (μ : Int × Unit -> Nat), I ((0 : Int), ()) /\ ∀ (p : Int × Unit), G2 p.1 /\ True -> I p -> (decide (p.1 < (x.1.length : Int)) = true -> (0 <= p.1 /\ p.1 < (x.1.length : Int)) /\ (sel (decide ((gx dEE x.1 p.1).1 < (0 : Int))) true (decide (x.2.1 <= (gx dEE x.1 p.1).1)) = false -> True) /\ ∀ (r : Int × Unit), (sel (decide ((gx dEE x.1 p.1).1 < (0 : Int))) true (decide (x.2.1 <= (gx dEE x.1 p.1).1)) = false -> (G2 r.1 /\ True) /\ r.1 = (rv (gx dEE x.1 p.1).2).num.sign) -> (sel (sel (decide ((gx dEE x.1 p.1).1 < (0 : Int))) true (decide (x.2.1 <= (gx dEE x.1 p.1).1))) true (decide (r.1 = 0)) = true -> false = decide (V5 x.1 x.2.1)) /\ (sel (sel (decide ((gx dEE x.1 p.1).1 < (0 : Int))) true (decide (x.2.1 <= (gx dEE x.1 p.1).1))) true (decide (r.1 = 0)) = false -> I (IntKind.i64.wrap (p.1 + 1), ()) /\ μ (IntKind.i64.wrap (p.1 + 1), ()) < μ p)) /\ (decide (p.1 < (x.1.length : Int)) = false -> true = decide (V5 x.1 x.2.1)))
theorem B9x (x : A7 N5.args) : K8 Tryz.prog tys B1j D0b N5 Tryz.f151 x = A4s x := by kernel_rfl
def A8r : A7 S0.args -> Prop := fun (x : List EE × Int × Unit) => True /\ ∀ (r : QQ × Unit), WfQ r.1 /\ True -> r.1 = ri (0 : Int) -> ∃ (I : Int × Bool × List Int × List Int × Unit -> Prop), ∃ (μ : Int × Bool × List Int × List Int × Unit -> Nat), I ((0 : Int), r.1.1.1, r.1.1.2, r.1.2, ()) /\ ∀ (p : Int × Bool × List Int × List Int × Unit), G2 p.1 /\ True /\ WfU p.2.2.1 /\ WfU p.2.2.2.1 /\ True -> I p -> (decide (p.1 < (x.1.length : Int)) = true -> ∃ (J : Bool × List Int × List Int × Unit -> Prop), ((0 <= p.1 /\ p.1 < (x.1.length : Int)) /\ (decide ((gx dEE x.1 p.1).1 = x.2.1) = true -> (sh3 ((p.2.1, p.2.2.1), p.2.2.2.1) /\ sh3 (gx dEE x.1 p.1).2) /\ ∀ (r : QQ × Unit), WfQ r.1 /\ True -> r.1 = rc (rv ((p.2.1, p.2.2.1), p.2.2.2.1) + rv (gx dEE x.1 p.1).2) -> J (r.1.1.1, r.1.1.2, r.1.2, ())) /\ (decide ((gx dEE x.1 p.1).1 = x.2.1) = false -> J (p.2.1, p.2.2.1, p.2.2.2.1, ()))) /\ ∀ (a : Bool × List Int × List Int × Unit), True /\ WfU a.2.1 /\ WfU a.2.2.1 /\ True -> J a -> I (IntKind.i64.wrap (p.1 + 1), a.1, a.2.1, a.2.2.1, ()) /\ μ (IntKind.i64.wrap (p.1 + 1), a.1, a.2.1, a.2.2.1, ()) < μ p) /\ (decide (p.1 < (x.1.length : Int)) = false -> ((p.2.1, p.2.2.1), p.2.2.2.1) = rc (F2 x.1 x.2.1))
theorem C5z (x : A7 S0.args) : K8 Tryz.prog tys C1e D5z S0 Tryz.f118 x = A8r x := by kernel_rfl
def U6 : A7 F1.args -> Prop := fun (x : QQ × QQ × QQ × Unit) => True /\ ∀ (r : Int × Unit), G2 r.1 /\ True -> r.1 = (rv x.2.1).num.sign -> (decide (r.1 = 0) = true -> sh3 x.1 /\ ∀ (r : QQ × Unit), WfQ r.1 /\ True -> r.1 = rc (rv x.1) -> r.1 = rc (rv x.1 + rv x.2.2.1 * rv x.2.1)) /\ (decide (r.1 = 0) = false -> (sh3 x.2.2.1 /\ sh3 x.2.1) /\ ∀ (r : QQ × Unit), WfQ r.1 /\ True -> r.1 = rc (rv x.2.2.1 * rv x.2.1) -> (sh3 x.1 /\ sh3 r.1) /\ ∀ (a : QQ × Unit), WfQ a.1 /\ True -> a.1 = rc (rv x.1 + rv r.1) -> a.1 = rc (rv x.1 + rv x.2.2.1 * rv x.2.1))
theorem A7c (x : A7 F1.args) : K8 Tryz.prog tys A2q B0r F1 Tryz.f171 x = U6 x := by kernel_rfl
def Y5 : A7 F4.args -> Prop := fun (x : List EE × QQ × List EE × Unit) => asc x.1 /\ ∀ (r : List EE × Unit), B8j r.1 /\ True -> r.1 = x.1 -> asc x.2.2.1 /\ ∀ (a : List EE × Unit), B8j a.1 /\ True -> a.1 = x.2.2.1 -> ∃ (ok : QQ × QQ × Unit -> Prop), ∃ (φ : QQ × QQ × Unit -> (Bool × List Int) × List Int), (∀ (y : QQ × QQ × Unit), tQ.wf y.1 /\ tQ.wf y.2.1 /\ True -> ok y -> (sz K1 y.1 /\ sz K1 y.2.1 /\ sz K1 x.2.1) /\ ∀ (z : QQ × Unit), WfQ z.1 /\ True -> z.1 = rc (rv y.1 + rv x.2.1 * rv y.2.1) -> true = true /\ z.1 = φ y) /\ (List.length r.1 <= 100000 /\ List.length a.1 <= 100000 /\ ∀ (u v : X5), (u = zr \/ ∃ (e : EE), e ∈ r.1 /\ e.2 = u) -> (v = zr \/ ∃ (e : EE), e ∈ a.1 /\ e.2 = v) -> (ok, φ).1 (u, v, ())) /\ ∀ (b : List EE × Unit), B8j b.1 /\ True -> b.1 = M9 φ r.1 a.1 -> C5c b.1 /\ ∀ (i : Int), F2 b.1 i = F2 x.1 i + rv x.2.1 * F2 x.2.2.1 i
theorem B0e (x : A7 F4.args) : K8 Tryz.prog tys A5b B6w F4 Tryz.f119 x = Y5 x := by kernel_rfl
theorem D0l {l : List Ent} (h : ∀ x ∈ l, WfE x) : F6h l := fun e he => ⟨A5 (h e he).2.1.2.2, A5 (h e he).2.2.2⟩
theorem E4l {q : X5} (h : WfQ q) : G0c q := ⟨A5 h.1.2.2, A5 h.2.2⟩
theorem B0h (x : A7 F3.args) (hw : awf F3.args x) (_ : F3.pre x) : Y7 x := by
  obtain ⟨l, _⟩ := x
  have hl : l.length <= 9223372036854775807 := hw.1.1
  change List Ent at l
  simp only [Y7]
  refine ⟨fun p => 1 <= p.1 /\ ∀ s t : Nat, s < t -> t < p.1.toNat -> t < l.length -> (l.getD s dEE).1 < (l.getD t dEE).1, fun p => ((l.length : Int) - p.1).toNat, ⟨Int.le_refl _, fun s t h1 h2 => by simp at h2; omega⟩, ?_⟩
  rintro ⟨k, _⟩ _ ⟨h0, h1⟩
  change Int at k
  simp only at h0 h1 ⊢
  refine ⟨fun h => ?_, fun h => ?_⟩
  . have h := of_decide_eq_true h
    rw [wr (a := k - 1) (by omega) (by omega)]
    refine ⟨⟨by omega, by omega⟩, ⟨by omega, h⟩, fun hb => ?_, fun hb => ?_⟩
    . have hb := of_decide_eq_true hb
      refine (decide_eq_false fun hp => ?_).symm
      unfold asc at hp
      rw [List.pairwise_iff_getElem] at hp
      have := hp (k - 1).toNat k.toNat (by omega) (by omega) (by omega)
      have e1 := M7 (d := dEE) (l := l) (i := k) (by omega) h
      have e2 := M7 (d := dEE) (l := l) (i := k - 1) (by omega) (by omega)
      rw [List.getElem?_eq_getElem (by omega)] at e1 e2
      rw [Option.some.inj e1, Option.some.inj e2] at this
      omega
    . have hb := of_decide_eq_false hb
      rw [wr (a := k + 1) (by omega) (by omega)]
      rw [Y6 (by omega) h, Y6 (by omega) (by omega)] at hb
      refine ⟨⟨by omega, fun s t h2 h3 h4 => ?_⟩, by omega⟩
      by_cases ht : t = k.toNat
      . by_cases hs : s = (k - 1).toNat
        . rw [ht, hs]; omega
        . have := h1 s (k - 1).toNat (by omega) (by omega) (by omega)
          rw [ht]; omega
      . exact h1 s t h2 (by omega) h4
  . have h := of_decide_eq_false h
    refine (decide_eq_true ?_).symm
    unfold asc
    rw [List.pairwise_iff_getElem]
    intro i j hi hj hij
    have := h1 i j hij (by omega) hj
    rw [List.getD_eq_getElem?_getD, List.getElem?_eq_getElem hi, List.getD_eq_getElem?_getD, List.getElem?_eq_getElem hj] at this
    exact this
theorem B3x (x : A7 J7.args) (hw : awf J7.args x) (hp : J7.pre x) : A1x x := by
  obtain ⟨l, _⟩ := x
  have ha : asc l := hp
  simp only [A1x]
  refine ⟨trivial, ?_⟩
  rintro ⟨r, _⟩ _ hr
  simp only at hr ⊢
  refine ⟨fun _ => trivial, fun h => ?_⟩
  rw [hr, decide_eq_true ha] at h
  cases h
theorem F9s {α : Type} (e : α) (a : List α) : List.drop (Int.toNat 1) (List.take (((e :: a).length : Int)).toNat (e :: a)) = a := by
  rw [Int.toNat_natCast, List.take_length]; rfl
theorem B7u (x : A7 N9.args) (hw : awf N9.args x) (hp : N9.pre x) : A4d x := by
  obtain ⟨A, B, ⟨ok, φ⟩, _⟩ := x
  change List Ent at A B
  obtain ⟨hA, hB, hok⟩ : A.length <= 100000 /\ B.length <= 100000 /\ ∀ u v : X5, (u = zr \/ ∃ e ∈ A, e.2 = u) -> (v = zr \/ ∃ e ∈ B, e.2 = v) -> ok (u, v, ()) := hp
  simp only [A4d]
  have e0 : List.replicate (Int.toNat 0) dEE = [] := rfl
  rw [e0]
  refine ⟨⟨Int.le_refl _, by omega, by omega, by omega⟩, ?_⟩
  refine ⟨fun p => (∀ e ∈ p.1, e ∈ A) /\ (∀ e ∈ p.2.1, e ∈ B) /\ p.2.2.1 ++ M9 φ p.1 p.2.1 = M9 φ A B /\ p.2.2.1.length + (p.1.length + p.2.1.length) <= A.length + B.length, fun p => p.1.length + p.2.1.length, ⟨fun _ h => h, fun _ h => h, rfl, by simp⟩, ?_⟩
  rintro ⟨a, b, res, _⟩ _ ⟨ha, hb, hm, hl⟩
  change List Ent at a b res
  simp only at ha hb hm hl ⊢
  refine ⟨fun hc => ?_, fun hc => ?_⟩
  . refine ⟨fun q => (q.1.length + q.2.1.length < a.length + b.length) /\ (∀ e ∈ q.1, e ∈ A) /\ (∀ e ∈ q.2.1, e ∈ B) /\ (((q.2.2.2.1, q.2.2.2.2.1), q.2.2.2.2.2.1) = zr \/ ∃ e ∈ A, e.2 = ((q.2.2.2.1, q.2.2.2.2.1), q.2.2.2.2.2.1)) /\ (((q.2.2.2.2.2.2.1, q.2.2.2.2.2.2.2.1), q.2.2.2.2.2.2.2.2.1) = zr \/ ∃ e ∈ B, e.2 = ((q.2.2.2.2.2.2.1, q.2.2.2.2.2.2.2.1), q.2.2.2.2.2.2.2.2.1)) /\ M9 φ a b = put q.2.2.1 (φ (((q.2.2.2.1, q.2.2.2.2.1), q.2.2.2.2.2.1), ((q.2.2.2.2.2.2.1, q.2.2.2.2.2.2.2.1), q.2.2.2.2.2.2.2.2.1), ())) (M9 φ q.1 q.2.1), ⟨fun h => ⟨Int.le_refl _, of_decide_eq_true h.1⟩, fun h => ⟨Int.le_refl _, by have := of_decide_eq_false h.2; omega⟩, fun h => ?_, fun h => ?_⟩, ?_⟩
    . cases a with
      | nil =>
        cases b with
        | nil => simp [sel] at hc
        | cons f b => simp [sel] at h; omega
      | cons e a =>
        have hin : e ∈ A := ha e (List.mem_cons_self ..)
        have ha' : ∀ z ∈ a, z ∈ A := fun z hz => ha z (List.mem_cons_of_mem _ hz)
        have hl1 : (0 : Int) < ((e :: a).length : Int) := by simp only [List.length_cons]; omega
        rw [F9s]
        refine ⟨⟨Int.le_refl _, hl1⟩, ⟨Int.le_refl _, hl1⟩, ⟨by omega, by simp only [List.length_cons]; omega, Int.le_refl _⟩, fun h => ⟨Int.le_refl _, of_decide_eq_true h⟩, fun h2 => ?_, fun h2 => ?_⟩
        . cases b with
          | nil => simp [sel] at h2
          | cons f b =>
            rw [F9s]
            have hl2 : (0 : Int) < ((f :: b).length : Int) := by simp only [List.length_cons]; omega
            refine ⟨⟨Int.le_refl _, hl2⟩, ⟨by omega, by simp only [List.length_cons]; omega, Int.le_refl _⟩, by simp only [List.length_cons]; omega, ha', fun z hz => hb z (List.mem_cons_of_mem _ hz), .inr ⟨e, hin, rfl⟩, .inr ⟨f, hb f (List.mem_cons_self ..), rfl⟩, ?_⟩
            rw [U2, Bool.and_eq_true, decide_eq_true_eq, decide_eq_true_eq] at h2
            have h3 : f.1 = e.1 := h2.2
            show M9 φ (e :: a) (f :: b) = put e.1 (φ (e.2, f.2, ())) (M9 φ a b)
            rw [M9, if_neg (by omega), if_pos h3.symm]
        . refine ⟨by simp only [List.length_cons]; omega, ha', hb, .inr ⟨e, hin, rfl⟩, .inl rfl, ?_⟩
          show M9 φ (e :: a) b = put e.1 (φ (e.2, zr, ())) (M9 φ a b)
          cases b with
          | nil => rw [M9]
          | cons f b =>
            have h3 : ¬ f.1 = e.1 := by
              have : decide ((gx dEE (f :: b) 0).1 = (gx dEE (e :: a) 0).1) = false := by simpa [sel] using h2
              exact of_decide_eq_false this
            have h4 : e.1 <= f.1 := by
              have : decide ((gx dEE (e :: a) 0).1 <= (gx dEE (f :: b) 0).1) = true := by
                rw [Z6, U2] at h
                simp only [List.length_cons, Bool.or_eq_true, Bool.and_eq_true, decide_eq_true_eq] at h
                rcases h with h | h
                . omega
                . exact decide_eq_true h.2
              exact of_decide_eq_true this
            rw [M9, if_pos (by omega)]
    . rw [Z6, U2] at h
      simp only [Bool.or_eq_false_iff, Bool.and_eq_false_iff, decide_eq_false_iff_not] at h
      obtain ⟨hb0, h⟩ := h
      cases b with
      | nil => simp at hb0
      | cons f b =>
        have hl2 : (0 : Int) < ((f :: b).length : Int) := by simp only [List.length_cons]; omega
        rw [F9s]
        refine ⟨⟨Int.le_refl _, hl2⟩, ⟨Int.le_refl _, hl2⟩, ⟨by omega, by simp only [List.length_cons]; omega, Int.le_refl _⟩, by simp only [List.length_cons]; omega, ha, fun z hz => hb z (List.mem_cons_of_mem _ hz), .inl rfl, .inr ⟨f, hb f (List.mem_cons_self ..), rfl⟩, ?_⟩
        show M9 φ a (f :: b) = put f.1 (φ (zr, f.2, ())) (M9 φ a b)
        cases a with
        | nil => rw [M9]
        | cons e a =>
          have h3 : ¬ e.1 <= f.1 := by
            rcases h with h | h
            . simp at h
            . exact h
          rw [M9, if_neg (by omega), if_neg (by omega)]
    . rintro ⟨a', b', i, u1, u2, u3, v1, v2, v3, _⟩ _ ⟨j1, j2, j3, j4, j5, j6⟩
      change Int at i
      simp only at j1 j2 j3 j4 j5 j6 ⊢
      refine ⟨by trivial, hok _ _ j4 j5, fun _ => ⟨trivial, ?_⟩⟩
      rintro ⟨s, _⟩ _ hs
      simp only at hs ⊢
      generalize φ (((u1, u2), u3), ((v1, v2), v3), ()) = z at *
      have hlen : ∀ (α : Type) (l : List α) (y : α), (l ++ [y]).length = l.length + 1 := fun α l y => by simp
      refine ⟨fun h => ⟨⟨by simp only [List.length_singleton]; omega, by simp only [List.length_singleton]; omega⟩, ⟨j2, j3, ?_, ?_⟩, j1⟩, fun h => ⟨⟨j2, j3, ?_, by omega⟩, j1⟩⟩
      . have h := of_decide_eq_true h
        have hz : ¬ rv z = 0 := fun h0 => h (by rw [hs, h0]; rfl)
        rw [<- hm, j6, put, if_neg hz, List.append_assoc]; rfl
      . show (res ++ [(i, z)]).length + _ <= _
        rw [hlen]; omega
      . have h := of_decide_eq_false h
        have hz : rv z = 0 := E0s (by rw [<- hs]; exact Decidable.not_not.1 h)
        rw [<- hm, j6, put, if_pos hz]
  . rw [Z6] at hc
    simp only [Bool.or_eq_false_iff, decide_eq_false_iff_not] at hc
    have h1 : a = [] := List.eq_nil_of_length_eq_zero (by omega)
    have h2 : b = [] := List.eq_nil_of_length_eq_zero (by omega)
    subst h1 h2
    rw [M9, List.append_nil] at hm
    exact hm
theorem B8i (x : A7 N5.args) (hw : awf N5.args x) (_ : N5.pre x) : A4s x := by
  obtain ⟨l, n, _⟩ := x
  have hl : l.length <= 9223372036854775807 := hw.1.1
  change List Ent at l
  change Int at n
  simp only [A4s]
  refine ⟨trivial, ?_⟩
  rintro ⟨r, _⟩ _ hr
  simp only at hr ⊢
  refine ⟨fun h => ?_, fun h => ?_⟩
  . have : ¬ asc l := by
      rw [hr] at h; simpa using h
    exact (decide_eq_false fun hv => this hv.1).symm
  have ha : asc l := by
    rw [hr] at h; simpa using h
  refine ⟨fun p => 0 <= p.1 /\ ∀ e ∈ l.take p.1.toNat, 0 <= e.1 /\ e.1 < n /\ rv e.2 ≠ 0, fun p => ((l.length : Int) - p.1).toNat, ⟨Int.le_refl _, by simp⟩, ?_⟩
  rintro ⟨i, _⟩ _ ⟨h0, h1⟩
  change Int at i
  simp only at h0 h1 ⊢
  refine ⟨fun hi => ?_, fun hi => ?_⟩
  . have hi := of_decide_eq_true hi
    refine ⟨⟨h0, hi⟩, fun _ => trivial, ?_⟩
    rintro ⟨s, _⟩ hs
    simp only at hs ⊢
    simp only [Z6] at hs ⊢
    have hme : gx dEE l i ∈ l := T6 h0 hi
    refine ⟨fun hb => ?_, fun hb => ?_⟩
    . refine (decide_eq_false fun hv => ?_).symm
      have := hv.2 _ hme
      simp only [Bool.or_eq_true, decide_eq_true_eq] at hb
      rcases hb with (hb | hb) | hb
      . omega
      . omega
      . have h2 := (hs (by simp only [Bool.or_eq_false_iff, decide_eq_false_iff_not]; omega)).2
        exact this.2.2 (E0s (by rw [<- h2]; exact hb))
    . simp only [Bool.or_eq_false_iff, decide_eq_false_iff_not] at hb
      have h2 := (hs (by simp only [Bool.or_eq_false_iff, decide_eq_false_iff_not]; exact hb.1)).2
      rw [wr (by omega) (by omega)]
      refine ⟨⟨by omega, A8e (d := dEE) (q := fun e => 0 <= e.1 /\ e.1 < n /\ rv e.2 ≠ 0) h0 hi h1 ⟨by omega, by omega, fun h3 => hb.2 (by rw [h2, h3]; rfl)⟩⟩, by omega⟩
  . have hi := of_decide_eq_false hi
    rw [G7 (by omega)] at h1
    exact (decide_eq_true ⟨ha, h1⟩).symm
theorem F6g {k : Nat} {v : List Ent} (h : szV k v) {u : X5} (hu : u = zr \/ ∃ e ∈ v, e.2 = u) : sz k u := by
  rcases hu with rfl | ⟨e, he, rfl⟩
  . exact ⟨Nat.zero_le _, Nat.zero_le _⟩
  . exact h e he
theorem C6k (x : A7 S0.args) (hw : awf S0.args x) (hp : S0.pre x) : A8r x := by
  obtain ⟨v, k, _⟩ := x
  have hlv : F6h v := D0l hw.1.2
  have hll : v.length <= 9223372036854775807 := hw.1.1
  change List Ent at v
  change Int at k
  obtain ⟨ha, hs, hl⟩ : okV K1 v := hp
  simp only [A8r]
  refine ⟨trivial, ?_⟩
  rintro ⟨z, _⟩ _ hz
  simp only at hz ⊢
  have hz : z = rc 0 := by rw [hz, <- F0g]; rfl
  refine ⟨fun p => 0 <= p.1 /\ p.1 <= (v.length : Int) /\ ((p.2.1, p.2.2.1), p.2.2.2.1) = rc (F2 (v.take p.1.toNat) k), fun p => ((v.length : Int) - p.1).toNat, ⟨Int.le_refl _, Int.natCast_nonneg _, by rw [hz]; rfl⟩, ?_⟩
  rintro ⟨i, b, m, d, _⟩ _ ⟨h0, h1, h2⟩
  change Int at i
  simp only at h0 h1 h2 ⊢
  refine ⟨fun h => ?_, fun h => ?_⟩
  . have h := of_decide_eq_true h
    have hme : gx dEE v i ∈ v := T6 h0 h
    have hts : v.take (i + 1).toNat = v.take i.toNat ++ [gx dEE v i] := by
      rw [show (i + 1).toNat = i.toNat + 1 from by omega, List.take_add_one, M7 (d := dEE) h0 h]; rfl
    have hq := D0d (v := v.take i.toNat) (k := K1) (ha.take) (fun e he => hlv e (List.mem_of_mem_take he)) (fun e he => hs e (List.mem_of_mem_take he)) (by decide) k
    have hse := hs _ hme
    have hct : F2 (v.take (i + 1).toNat) k = F2 (v.take i.toNat) k + if (gx dEE v i).1 = k then rv (gx dEE v i).2 else 0 := by
      rw [hts, A4n]
      simp only [F2, Rat.add_zero]
    generalize gx dEE v i = e at *
    refine ⟨fun p => ((p.1, p.2.1), p.2.2.1) = rc (F2 (v.take (i + 1).toNat) k), ⟨⟨h0, h⟩, fun he => ⟨⟨?_, B1n (k := K1) hse (by decide)⟩, ?_⟩, fun he => ?_⟩, ?_⟩
    . rw [h2]; exact C0w hq (by decide)
    . have he := of_decide_eq_true he
      rintro ⟨r, _⟩ _ hr
      simp only at hr ⊢
      show r = _
      rw [hr, h2, A5e, hct, if_pos he]
    . have he := of_decide_eq_false he
      show ((b, m), d) = _
      rw [h2, hct, if_neg he, Rat.add_zero]
    . rintro ⟨b', m', d', _⟩ _ hr
      simp only at hr ⊢
      rw [wr (by omega) (by omega)]
      exact ⟨⟨by omega, by omega, hr⟩, by omega⟩
  . have h := of_decide_eq_false h
    rw [G7 (by omega)] at h2
    exact h2
theorem G2p {l : List X5} {i : Int} (h0 : 0 <= i) (h1 : i < (l.length : Int)) : gx dQ l i = l.getD i.toNat zr := Y6 (d := zr) h0 h1
theorem A7f (x : A7 F1.args) (hw : awf F1.args x) (hp : F1.pre x) : U6 x := by
  obtain ⟨p, q, f, _⟩ := x
  have lq : G0c q := E4l hw.2.1
  have lf : G0c f := E4l hw.2.2.1
  change X5 at p q f
  obtain ⟨hp', hq, hf⟩ : sz K1 p /\ sz K1 q /\ sz K1 f := hp
  simp only [U6]
  refine ⟨trivial, ?_⟩
  rintro ⟨s, _⟩ _ hs
  simp only at hs ⊢
  refine ⟨fun h => ⟨B1n hp' (by decide), ?_⟩, fun _ => ⟨⟨B1n hf (by decide), B1n hq (by decide)⟩, ?_⟩⟩
  . rintro ⟨r, _⟩ _ hr
    simp only at hr ⊢
    have h := of_decide_eq_true h
    rw [hs] at h
    rw [hr, E0s h, Rat.mul_zero, Rat.add_zero]
  . rintro ⟨r, _⟩ _ hr
    simp only at hr ⊢
    have hm := C5e (E0z lf hf (by decide)) (E0z lq hq (by decide))
    refine ⟨⟨B1n hp' (by decide), by rw [hr]; exact C0w hm (by decide)⟩, ?_⟩
    rintro ⟨t, _⟩ _ ht
    simp only at ht ⊢
    rw [ht, hr, A5e]
theorem B0c (x : A7 F4.args) (hw : awf F4.args x) (hp : F4.pre x) : Y5 x := by
  obtain ⟨a, f, b, _⟩ := x
  change List Ent at a b
  change X5 at f
  obtain ⟨⟨a1, a2, a3⟩, hf, b1, b2, b3⟩ : okV K1 a /\ sz K1 f /\ okV K1 b := hp
  simp only [Y5]
  refine ⟨a1, ?_⟩
  rintro ⟨r, _⟩ _ hr
  simp only at hr ⊢
  subst hr
  refine ⟨b1, ?_⟩
  rintro ⟨s, _⟩ _ hs
  simp only at hs ⊢
  subst hs
  refine ⟨fun y => sz K1 y.1 /\ sz K1 y.2.1, fun y => rc (rv y.1 + rv f * rv y.2.1), ?_, ⟨a3, b3, fun u v hu hv => ⟨F6g a2 hu, F6g b2 hv⟩⟩, ?_⟩
  . rintro ⟨u, v, _⟩ _ ⟨hu, hv⟩
    exact ⟨⟨hu, hv, hf⟩, fun z _ hz => ⟨by trivial, hz⟩⟩
  . rintro ⟨r, _⟩ _ hr
    simp only at hr ⊢
    rw [hr]
    obtain ⟨m1, _, m3⟩ := E3p (fun y => rc (rv y.1 + rv f * rv y.2.1)) (fun p q => p + rv f * q) (by rw [Rat.mul_zero, Rat.add_zero]) _ _ (fun _ _ _ _ => rfl) a1 b1
    exact ⟨m1, m3⟩
def E7v : An := { join := [(4, ⟨[0, 1, 4, 5, 6], [0], [], [(1, 31, [.val .bool, .val (.sl (.int .u32)), .val (.sl (.int .u32))])], []⟩)], loop := [(3, ⟨[0, 1, 4, 5], [0], [(6, false, [.val (.int .i64)])], [(1, 31, [.val .bool, .val (.sl (.int .u32)), .val (.sl (.int .u32))])], []⟩)], plan := [(6, [0, 5], [7], true, (.q 0 (.p 1 (.p 2 (.p 3 (.p 4 (.q 5 (.e 6 (.e 7 .done)))))))))] }
def D3s : B6 := [(32, A3a), (75, T8)]
def D3h : An := { join := [(7, ⟨[5, 6, 9, 10, 11], [], [(3, false, [.own (.int .i64) 3])], [], []⟩)], loop := [(9, ⟨[3, 5, 6, 9, 10, 11], [1], [(7, false, [.val (.int .i64)])], [], []⟩), (6, ⟨[5, 9, 10, 11], [], [(3, false, [.own (.int .i64) 3]), (6, false, [.val (.int .i64)])], [], []⟩), (3, ⟨[9, 10], [], [(3, false, [.own (.int .i64) 3]), (11, false, [.val (.int .i64)])], [], []⟩)], plan := [(9, [8, 13], [], true, (.p 0 (.p 1 (.p 2 (.p 3 (.p 4 (.p 5 (.p 6 (.p 7 (.q 8 (.p 9 (.p 10 (.p 11 (.p 12 (.q 13 (.p 14 (.p 15 .done))))))))))))))))), (11, [8, 13], [], true, (.p 0 (.p 1 (.p 2 (.p 3 (.p 4 (.p 5 (.p 6 (.p 7 (.q 8 (.p 9 (.p 10 (.p 11 (.p 12 (.q 13 (.p 14 (.p 15 .done)))))))))))))))))] }
def B5e : B6 := []
def E4a : An := { join := [(8, ⟨[0, 9, 10, 11], [], [(3, false, [.own tE 94])], [], []⟩)], loop := [(3, ⟨[0, 9, 10], [], [(3, false, [.own tE 94]), (11, false, [.val (.int .i64)])], [], []⟩)] }
def C8s : B6 := [(29, A0d), (120, A2x), (199, P9)]
def C5r : An := { loop := [(4, ⟨[0, 1], [], [(5, false, [.val (.int .i64)])], [], []⟩)], plan := [(6, [4, 9, 16, 25, 30], [], false, (.p 0 (.p 1 (.p 2 (.p 3 (.q 4 (.p 5 (.p 6 (.p 7 (.p 8 (.q 9 (.p 10 (.p 11 (.p 12 (.p 13 (.p 14 (.p 15 (.q 16 (.e 17 (.p 18 (.p 19 (.p 20 (.p 21 (.p 22 (.p 23 (.p 24 (.q 25 (.p 26 (.p 27 (.p 28 (.p 29 (.q 30 (.e 31 (.p 32 (.p 33 .done)))))))))))))))))))))))))))))))))))] }
def A9q : B6 := [(17, T5), (102, L5)]
def C6l : An := { loop := [(3, ⟨[0], [], [(3, false, [.own tE 94]), (4, false, [.val (.int .i64)])], [], []⟩)] }
def A9p : B6 := [(164, A0c)]
def C1h : A7 A2x.args -> Prop := fun (x : List EE × Int × Unit) => True /\ ∀ (r : QQ × Unit), WfQ r.1 /\ True -> r.1 = rc (0 : Rat) -> ∃ (I : Int × Bool × List Int × List Int × Unit -> Prop), ∃ (μ : Int × Bool × List Int × List Int × Unit -> Nat), I ((0 : Int), r.1.1.1, r.1.1.2, r.1.2, ()) /\ ∀ (p : Int × Bool × List Int × List Int × Unit), G2 p.1 /\ True /\ WfU p.2.2.1 /\ WfU p.2.2.2.1 /\ True -> I p -> (decide (p.1 < (x.1.length : Int)) = true -> ∃ (J : Bool × List Int × List Int × Unit -> Prop), ((0 <= p.1 /\ p.1 < (x.1.length : Int)) /\ (decide ((gx dEE x.1 p.1).1 = x.2.1) = true -> (0 <= p.1 /\ p.1 < (x.1.length : Int)) /\ (sh3 ((p.2.1, p.2.2.1), p.2.2.2.1) /\ sh3 (gx dEE x.1 p.1).2) /\ ∀ (r : QQ × Unit), WfQ r.1 /\ True -> r.1 = rc (rv ((p.2.1, p.2.2.1), p.2.2.2.1) + rv (gx dEE x.1 p.1).2) -> J (r.1.1.1, r.1.1.2, r.1.2, ())) /\ (decide ((gx dEE x.1 p.1).1 = x.2.1) = false -> J (p.2.1, p.2.2.1, p.2.2.2.1, ()))) /\ ∀ (a : Bool × List Int × List Int × Unit), True /\ WfU a.2.1 /\ WfU a.2.2.1 /\ True -> J a -> I (IntKind.i64.wrap (p.1 + 1), a.1, a.2.1, a.2.2.1, ()) /\ μ (IntKind.i64.wrap (p.1 + 1), a.1, a.2.1, a.2.2.1, ()) < μ p) /\ (decide (p.1 < (x.1.length : Int)) = false -> ((p.2.1, p.2.2.1), p.2.2.2.1) = rc (F2 x.1 x.2.1))
theorem D6k (x : A7 A2x.args) : K8 Tryz.prog tys D3s E7v A2x Tryz.f120 x = C1h x := by kernel_rfl
def A5x : A7 P9.args -> Prop := fun (x : List (List EE) × Unit) => ∃ (I : List Int × Int × Unit -> Prop), ∃ (μ : List Int × Int × Unit -> Nat), I ([], (0 : Int), ()) /\ ∀ (p : List Int × Int × Unit), WfI p.1 /\ G2 p.2.1 /\ True -> I p -> (decide (p.2.1 < (x.1.length : Int)) = true -> (0 <= p.2.1 /\ p.2.1 < (x.1.length : Int)) /\ ∃ (I_1 : List Int × Int × Unit -> Prop), ∃ (μ_1 : List Int × Int × Unit -> Nat), I_1 (p.1, (0 : Int), ()) /\ ∀ (a : List Int × Int × Unit), WfI a.1 /\ G2 a.2.1 /\ True -> I_1 a -> (decide (a.2.1 < (↑(gx [] x.1 p.2.1).length : Int)) = true -> ∃ (J : List Int × Unit -> Prop), (∃ (I : Int × Unit -> Prop), ∃ (μ : Int × Unit -> Nat), I ((0 : Int), ()) /\ ∀ (b : Int × Unit), G2 b.1 /\ True -> I b -> (decide (b.1 < (a.1.length : Int)) = true -> 0 <= b.1 /\ b.1 < (a.1.length : Int)) /\ (decide (b.1 < (a.1.length : Int)) = true -> 0 <= a.2.1 /\ a.2.1 < (↑(gx [] x.1 p.2.1).length : Int)) /\ (sel (decide (b.1 < (a.1.length : Int))) (decide (List.getD a.1 (Int.toNat b.1) (0 : Int) < (gx dEE (gx [] x.1 p.2.1) a.2.1).1)) false = true -> I (IntKind.i64.wrap (b.1 + 1), ()) /\ μ (IntKind.i64.wrap (b.1 + 1), ()) < μ b) /\ (sel (decide (b.1 < (a.1.length : Int))) (decide (List.getD a.1 (Int.toNat b.1) (0 : Int) < (gx dEE (gx [] x.1 p.2.1) a.2.1).1)) false = false -> (decide (b.1 < (a.1.length : Int)) = true -> 0 <= b.1 /\ b.1 < (a.1.length : Int)) /\ (decide (b.1 < (a.1.length : Int)) = true -> 0 <= a.2.1 /\ a.2.1 < (↑(gx [] x.1 p.2.1).length : Int)) /\ (sel (decide (b.1 < (a.1.length : Int))) (decide (List.getD a.1 (Int.toNat b.1) (0 : Int) = (gx dEE (gx [] x.1 p.2.1) a.2.1).1)) false = true -> J (a.1, ())) /\ (sel (decide (b.1 < (a.1.length : Int))) (decide (List.getD a.1 (Int.toNat b.1) (0 : Int) = (gx dEE (gx [] x.1 p.2.1) a.2.1).1)) false = false -> ((0 : Int) <= (0 : Int) /\ 0 <= b.1 /\ b.1 <= (a.1.length : Int)) /\ (((0 : Nat) + (List.drop (Int.toNat (0 : Int)) (List.take (Int.toNat b.1) a.1)).length) * (8 : Nat) <= (140737488355328 : Nat) /\ (0 : Nat) + (List.drop (Int.toNat (0 : Int)) (List.take (Int.toNat b.1) a.1)).length <= 9223372036854775807) /\ (0 <= a.2.1 /\ a.2.1 < (↑(gx [] x.1 p.2.1).length : Int)) /\ (((List.drop (Int.toNat (0 : Int)) (List.take (Int.toNat b.1) a.1)).length + [(gx dEE (gx [] x.1 p.2.1) a.2.1).1].length) * (8 : Nat) <= (140737488355328 : Nat) /\ (List.drop (Int.toNat (0 : Int)) (List.take (Int.toNat b.1) a.1)).length + [(gx dEE (gx [] x.1 p.2.1) a.2.1).1].length <= 9223372036854775807) /\ (0 <= b.1 /\ b.1 <= (a.1.length : Int) /\ (a.1.length : Int) <= (a.1.length : Int)) /\ (((List.drop (Int.toNat (0 : Int)) (List.take (Int.toNat b.1) a.1) ++ [(gx dEE (gx [] x.1 p.2.1) a.2.1).1]).length + (List.drop (Int.toNat b.1) (List.take (a.1.length : Int).toNat a.1)).length) * (8 : Nat) <= (140737488355328 : Nat) /\ (List.drop (Int.toNat (0 : Int)) (List.take (Int.toNat b.1) a.1) ++ [(gx dEE (gx [] x.1 p.2.1) a.2.1).1]).length + (List.drop (Int.toNat b.1) (List.take (a.1.length : Int).toNat a.1)).length <= 9223372036854775807) /\ J (List.drop (Int.toNat (0 : Int)) (List.take (Int.toNat b.1) a.1) ++ [(gx dEE (gx [] x.1 p.2.1) a.2.1).1] ++ List.drop (Int.toNat b.1) (List.take (a.1.length : Int).toNat a.1), ())))) /\ ∀ (p : List Int × Unit), WfI p.1 /\ True -> J p -> I_1 (p.1, IntKind.i64.wrap (a.2.1 + 1), ()) /\ μ_1 (p.1, IntKind.i64.wrap (a.2.1 + 1), ()) < μ_1 a) /\ (decide (a.2.1 < (↑(gx [] x.1 p.2.1).length : Int)) = false -> I (a.1, IntKind.i64.wrap (p.2.1 + 1), ()) /\ μ (a.1, IntKind.i64.wrap (p.2.1 + 1), ()) < μ p)) /\ (decide (p.2.1 < (x.1.length : Int)) = false -> List.Pairwise (fun (x1 x2 : Int) => x1 < x2) p.1 /\ ∀ (i : Int), i ∈ p.1 ↔ ∃ (v : List EE), v ∈ x.1 /\ ∃ (e : EE), e ∈ v /\ e.1 = i)
theorem C1v (x : A7 P9.args) : K8 Tryz.prog tys B5e D3h P9 Tryz.f199 x = A5x x := by kernel_rfl
def B7i : A7 A0c.args -> Prop := fun (x : List EE × Unit) => ([x.1].length <= (4 : Nat) /\ ∀ (v : List EE), v ∈ [x.1] -> v.length <= (100000 : Nat)) /\ ∀ (r : List Int × Unit), WfI r.1 /\ True -> (List.Pairwise (fun (x1 x2 : Int) => x1 < x2) r.1 /\ ∀ (i : Int), i ∈ r.1 ↔ ∃ (v : List EE), v ∈ [x.1] /\ ∃ (e : EE), e ∈ v /\ e.1 = i) -> ∃ (I : List EE × Int × Unit -> Prop), ∃ (μ : List EE × Int × Unit -> Nat), I ([], (0 : Int), ()) /\ ∀ (p : List EE × Int × Unit), B8j p.1 /\ G2 p.2.1 /\ True -> I p -> (decide (p.2.1 < (r.1.length : Int)) = true -> ∃ (J : List EE × Unit -> Prop), ((0 <= p.2.1 /\ p.2.1 < (r.1.length : Int)) /\ okV K1 x.1 /\ ∀ (a : QQ × Unit), WfQ a.1 /\ True -> a.1 = rc (F2 x.1 (gx (0 : Int) r.1 p.2.1)) -> sh3 a.1 /\ ∀ (b : Int × Unit), G2 b.1 /\ True -> b.1 = (rv a.1).num.sign -> (decide (b.1 ≠ 0) = true -> ((List.length p.1 + [(gx (0 : Int) r.1 p.2.1, a.1)].length) * (64 : Nat) <= (140737488355328 : Nat) /\ List.length p.1 + [(gx (0 : Int) r.1 p.2.1, a.1)].length <= 9223372036854775807) /\ J (p.1 ++ [(gx (0 : Int) r.1 p.2.1, a.1)], ())) /\ (decide (b.1 ≠ 0) = false -> J (p.1, ()))) /\ ∀ (c : List EE × Unit), B8j c.1 /\ True -> J c -> I (c.1, IntKind.i64.wrap (p.2.1 + 1), ()) /\ μ (c.1, IntKind.i64.wrap (p.2.1 + 1), ()) < μ p) /\ (decide (p.2.1 < (r.1.length : Int)) = false -> C5c p.1 /\ ∀ (i : Int), F2 p.1 i = F2 x.1 i)
theorem D1h (x : A7 A0c.args) : K8 Tryz.prog tys C8s E4a A0c Tryz.f164 x = B7i x := by kernel_rfl
def A3f : A7 M0.args -> Prop := fun (x : List EE × List EE × Unit) => (decide ((x.1.length : Int) ≠ (x.2.1.length : Int)) = true -> false = decide (x.1 = x.2.1 /\ ∀ (e : EE), e ∈ x.1 -> e.2 = rc (rv e.2))) /\ (decide ((x.1.length : Int) ≠ (x.2.1.length : Int)) = false -> ∃ (I : Int × Unit -> Prop), ∃ (μ : Int × Unit -> Nat), I ((0 : Int), ()) /\ ∀ (p : Int × Unit), G2 p.1 /\ True -> I p -> (decide (p.1 < (x.1.length : Int)) = true -> (0 <= p.1 /\ p.1 < (x.1.length : Int)) /\ (0 <= p.1 /\ p.1 < (x.2.1.length : Int)) /\ (decide ((gx dEE x.1 p.1).1 ≠ (gx dEE x.2.1 p.1).1) = false -> 0 <= p.1 /\ p.1 < (x.1.length : Int)) /\ (decide ((gx dEE x.1 p.1).1 ≠ (gx dEE x.2.1 p.1).1) = false -> sh3 (gx dEE x.1 p.1).2) /\ ∀ (r : Bool × Unit), (decide ((gx dEE x.1 p.1).1 ≠ (gx dEE x.2.1 p.1).1) = false -> (True /\ True) /\ r.1 = decide ((gx dEE x.1 p.1).2 = rc (rv (gx dEE x.1 p.1).2))) -> ((sel (decide ((gx dEE x.1 p.1).1 ≠ (gx dEE x.2.1 p.1).1)) true !r.1) = false -> 0 <= p.1 /\ p.1 < (x.1.length : Int)) /\ ((sel (decide ((gx dEE x.1 p.1).1 ≠ (gx dEE x.2.1 p.1).1)) true !r.1) = false -> 0 <= p.1 /\ p.1 < (x.2.1.length : Int)) /\ ((sel (decide ((gx dEE x.1 p.1).1 ≠ (gx dEE x.2.1 p.1).1)) true !r.1) = false -> True) /\ ∀ (a : Bool × Unit), ((sel (decide ((gx dEE x.1 p.1).1 ≠ (gx dEE x.2.1 p.1).1)) true !r.1) = false -> (True /\ True) /\ a.1 = decide ((gx dEE x.1 p.1).2 = (gx dEE x.2.1 p.1).2)) -> ((sel (sel (decide ((gx dEE x.1 p.1).1 ≠ (gx dEE x.2.1 p.1).1)) true !r.1) true !a.1) = true -> false = decide (x.1 = x.2.1 /\ ∀ (e : EE), e ∈ x.1 -> e.2 = rc (rv e.2))) /\ ((sel (sel (decide ((gx dEE x.1 p.1).1 ≠ (gx dEE x.2.1 p.1).1)) true !r.1) true !a.1) = false -> I (IntKind.i64.wrap (p.1 + 1), ()) /\ μ (IntKind.i64.wrap (p.1 + 1), ()) < μ p)) /\ (decide (p.1 < (x.1.length : Int)) = false -> true = decide (x.1 = x.2.1 /\ ∀ (e : EE), e ∈ x.1 -> e.2 = rc (rv e.2))))
theorem B6e (x : A7 M0.args) : K8 Tryz.prog tys A9q C5r M0 Tryz.f126 x = A3f x := by kernel_rfl
def A3l : A7 L9.args -> Prop := fun (x : List QQ × Unit) => ∃ (I : List EE × Int × Unit -> Prop), ∃ (μ : List EE × Int × Unit -> Nat), I ([], (0 : Int), ()) /\ ∀ (p : List EE × Int × Unit), B8j p.1 /\ G2 p.2.1 /\ True -> I p -> (decide (p.2.1 < (x.1.length : Int)) = true -> (0 <= p.2.1 /\ p.2.1 < (x.1.length : Int)) /\ ((List.length p.1 + [(p.2.1, gx dQ x.1 p.2.1)].length) * (64 : Nat) <= (140737488355328 : Nat) /\ List.length p.1 + [(p.2.1, gx dQ x.1 p.2.1)].length <= 9223372036854775807) /\ I (p.1 ++ [(p.2.1, gx dQ x.1 p.2.1)], IntKind.i64.wrap (p.2.1 + 1), ()) /\ μ (p.1 ++ [(p.2.1, gx dQ x.1 p.2.1)], IntKind.i64.wrap (p.2.1 + 1), ()) < μ p) /\ (decide (p.2.1 < (x.1.length : Int)) = false -> okV K1 p.1 /\ ∀ (r : List EE × Unit), B8j r.1 /\ True -> isC (F2 p.1) r.1 -> C5c r.1 /\ (∀ (e : Ent), e ∈ r.1 -> 0 <= e.1 /\ e.1 < (↑x.1.length : Int)) /\ ∀ (j : Nat), j < x.1.length -> F2 r.1 (↑j : Int) = rv (x.1.getD j zr))
theorem B6g (x : A7 L9.args) : K8 Tryz.prog tys A9p C6l L9 Tryz.f105 x = A3l x := by kernel_rfl
end Go.Proofs.YtkdmjgcjpmcjjaaGreat
