/- Parts: TPN, Tl, TPO, Tm, TPP, Tn, TPQ, OkC, OkE. -/
import Derived.Test.YtppgpdigopffbaaGreatK10F
namespace Go.Proofs.YtppgpdigopffbaaGreat
open Go.Vc Go.Gw
theorem vc_r03_Make_ok (x : dens s_r03_Make.args) (hw : awf s_r03_Make.args x) (hp : s_r03_Make.pre x) : vc_r03_Make x := by
  obtain ⟨a, b, _⟩ := x
  obtain ⟨h01, p1, p2⟩ : (iv b = 0 ∨ iv b = 1) ∧ a.2.length ≤ 100000000 ∧ b.2.length ≤ 100000000 := hp
  have q1 : sh1 a.2 := by unfold sh1; omega
  have q2 : sh1 b.2 := by unfold sh1; omega
  simp only [vc_r03_Make]
  refine ⟨q2, ?_⟩
  rintro ⟨r, _⟩ _ hr
  simp only at hr ⊢
  refine ⟨fun h => ⟨trivial, ?_⟩, fun h => ⟨q2, ?_⟩⟩
  · have h := of_decide_eq_true h
    rw [hr, Int.sign_eq_zero_iff_zero] at h
    rintro ⟨s, _⟩ _ hs
    simp only at hs ⊢
    rw [hs, divI_zero h]
  · have h := of_decide_eq_false h
    have h1 : iv b = 1 := by
      rcases h01 with h0 | h0
      · rw [h0] at hr; exact absurd hr h
      · exact h0
    rintro ⟨s, _⟩ _ hs
    simp only at hs ⊢
    rw [h1, ic_one] at hs
    subst hs
    refine ⟨fun _ => trivial, ?_⟩
    rintro ⟨t, _⟩ ht
    have ht := (ht rfl).2
    simp only at ht
    have ht : t = true := by rw [ht]; simp
    refine ⟨fun _ => ⟨q1, ?_⟩, fun h => ?_⟩
    · rintro ⟨u, _⟩ _ hu
      simp only at hu ⊢
      rw [hu, divI_one h1, rc_int]; rfl
    · simp only [ht, sel] at h
      cases h
theorem vc_r03_Zero_ok (x : dens s_r03_Zero.args) (hw : awf s_r03_Zero.args x) (_ : s_r03_Zero.pre x) : vc_r03_Zero x := by
  simp only [vc_r03_Zero]
  exact rc_zero.symm
theorem vc_r03_Norm_ok (x : dens s_r03_Norm.args) (hw : awf s_r03_Norm.args x) (hp : s_r03_Norm.pre x) : vc_r03_Norm x := by
  obtain ⟨a, _⟩ := x
  obtain ⟨⟨p1, p2⟩, p3⟩ : (a.1.2.length ≤ 1000000 ∧ a.2.length ≤ 1000000) ∧ nv a.2 ≤ 1 := hp
  simp only [vc_r03_Norm]
  refine ⟨⟨?_, by unfold sh2; omega, by unfold sh2; omega⟩, ?_⟩
  · rw [iv_pos]; omega
  · rintro ⟨r, _⟩ _ hr
    simp only at hr ⊢
    rw [hr, rv_divI]
theorem vc_r03_Equal_ok (x : dens s_r03_Equal.args) (hw : awf s_r03_Equal.args x) (hp : s_r03_Equal.pre x) : vc_r03_Equal x := by
  obtain ⟨⟨a, l⟩, ⟨b, m⟩, _⟩ := x
  simp only [vc_r03_Equal]
  refine ⟨trivial, ?_⟩
  rintro ⟨r, _⟩ _ hr
  refine ⟨fun _ => trivial, ?_⟩
  rintro ⟨s, _⟩ hs
  simp only at hr hs ⊢
  by_cases h : a = b
  · subst h
    have hr : r = true := by rw [hr]; simp
    have := (hs hr).2
    rw [this, hr]
    simp [sel]
  · have hr : r = false := by rw [hr]; simp [h]
    rw [hr]
    simp [sel, h]
theorem vc_r03_Canonical_ok (x : dens s_r03_Canonical.args) (hw : awf s_r03_Canonical.args x) (hp : s_r03_Canonical.pre x) : vc_r03_Canonical x := by
  obtain ⟨a, _⟩ := x
  simp only [vc_r03_Canonical]
  refine ⟨hp, ?_⟩
  rintro ⟨r, _⟩ _ hr
  refine ⟨trivial, ?_⟩
  rintro ⟨s, _⟩ _ hs
  simp only at hr hs ⊢
  rw [hs, hr]
theorem vc_r03_den_ok (x : dens s_r03_den.args) (hw : awf s_r03_den.args x) (hp : s_r03_den.pre x) : vc_r03_den x := by
  obtain ⟨a, _⟩ := x
  simp only [vc_r03_den]
  refine ⟨hp, ?_⟩
  rintro ⟨r, _⟩ _ hr
  simp only at hr ⊢
  rw [hr]
  unfold rc ic
  simp
theorem vc_r03_FromInt_ok (x : dens s_r03_FromInt.args) (hw : awf s_r03_FromInt.args x) (_ : s_r03_FromInt.pre x) : vc_r03_FromInt x := by
  obtain ⟨v, _⟩ := x
  change Int at v
  have hv : IntKind.i64.min ≤ v ∧ v ≤ IntKind.i64.max := hw.1
  rw [i64_min, i64_max] at hv
  simp only [vc_r03_FromInt]
  refine ⟨trivial, ?_⟩
  rintro ⟨r, _⟩ _ hr
  refine ⟨trivial, ?_⟩
  rintro ⟨s, _⟩ _ hs
  simp only at hr hs ⊢
  subst hr hs
  have h2 : (ic v).2.length ≤ 2 := by rw [ic_len]; exact nc_len (by omega)
  refine ⟨⟨.inr (iv_ic 1), by unfold sh2; omega, by rw [ic_one]; show 1 ≤ _; decide⟩, ?_⟩
  rintro ⟨t, _⟩ _ ht
  simp only at ht ⊢
  rw [ht, divI_one (iv_ic 1), iv_ic, rc_int]
theorem rat_limbs {x : RatV} (hw : (Ty.pair (Ty.pair .bool (.sl (.int .u32))) (.sl (.int .u32))).wf x) : limbs x.1.2 := limbs_of hw.1.2.2
theorem vc_r03_Sign_ok (x : dens s_r03_Sign.args) (hw : awf s_r03_Sign.args x) (hp : s_r03_Sign.pre x) : vc_r03_Sign x := by
  obtain ⟨a, _⟩ := x
  obtain ⟨p, e, hp1, _⟩ := whole_int (rat_limbs hw.1) hp
  simp only [vc_r03_Sign]
  refine ⟨hp, ?_⟩
  rintro ⟨r, _⟩ _ hr
  simp only at hr ⊢
  rw [e] at hr ⊢
  subst hr
  refine ⟨?_, ?_⟩
  · show (nc p.natAbs).length ≤ _; omega
  · rintro ⟨s, _⟩ _ hs
    simp only at hs ⊢
    rw [hs]; show (iv (ic _)).sign = _
    rw [iv_ic]
theorem int_add_len {p q : Int} (h1 : (nc p.natAbs).length ≤ 1000000) (h2 : (nc q.natAbs).length ≤ 1000000) : (nc (p + q).natAbs).length ≤ 1000001 := by
  have h3 := nc_add p.natAbs q.natAbs
  have h4 := nc_mono (show (p + q).natAbs ≤ p.natAbs + q.natAbs by omega)
  omega
set_option maxHeartbeats 1000000 in
theorem vc_r03_Add_ok (x : dens s_r03_Add.args) (hw : awf s_r03_Add.args x) (hp : s_r03_Add.pre x) : vc_r03_Add x := by
  obtain ⟨a, b, _⟩ := x
  obtain ⟨ha, hb⟩ : whole a ∧ whole b := hp
  obtain ⟨p, e, hp1, _⟩ := whole_int (rat_limbs hw.1) ha
  obtain ⟨q, f, hq1, _⟩ := whole_int (rat_limbs hw.2.1) hb
  have hs := int_add_len hp1 hq1
  have k1 : sh2 (rc (p : Rat)).1.2 := by show (nc p.natAbs).length ≤ _; omega
  have k2 : sh2 (rc (q : Rat)).1.2 := by show (nc q.natAbs).length ≤ _; omega
  have k3 : sh2 (ic (((p : Rat).den : Nat) : Int)).2 := by show sh2 (ic 1).2; rw [ic_one]; show 1 ≤ _; decide
  have k4 : sh2 (ic (((q : Rat).den : Nat) : Int)).2 := k3
  have i1 : iv (rc (p : Rat)).1 = p := iv_ic p
  have i2 : iv (rc (q : Rat)).1 = q := iv_ic q
  have i3 : iv (ic (((p : Rat).den : Nat) : Int)) = 1 := iv_ic 1
  have i4 : iv (ic (((q : Rat).den : Nat) : Int)) = 1 := iv_ic 1
  have k5 : sh2 (ic p).2 := k1
  have k6 : sh2 (ic q).2 := k2
  have k7 : sh2 (ic (p + q)).2 := by show (nc (p + q).natAbs).length ≤ _; omega
  have k8 : sh2 (ic 1).2 := k3
  have i5 : iv (ic 1) = 0 ∨ iv (ic 1) = 1 := .inr (iv_ic 1)
  have i6 : rc (divI (ic (p + q)) (ic 1)) = rc ((p : Rat) + (q : Rat)) := by rw [divI_one (iv_ic 1), iv_ic, Rat.intCast_add]
  simp only [vc_r03_Add, e, f]
  repeat' first
    | exact ha
    | exact hb
    | assumption
    | (rintro ⟨r, _⟩ _ hr; simp only [i1, i2, i3, i4, iv_ic, Int.mul_one, Int.one_mul] at hr ⊢; subst hr)
    | refine ⟨?_, ?_⟩
end Go.Proofs.YtppgpdigopffbaaGreat
namespace Go.Proofs.YtppgpdigopffbaaGreat
open Go.Vc Go.Gw
def an_r06_Get : An := { join := [(4, ⟨[0, 1, 4, 5, 6], [0], [], [(1, 44, [.val .bool, .val (.sl (.int .u32)), .val (.sl (.int .u32))])], []⟩)], loop := [(3, ⟨[0, 1, 4, 5], [0], [(6, false, [.val (.int .i64)])], [(1, 44, [.val .bool, .val (.sl (.int .u32)), .val (.sl (.int .u32))])], []⟩)], plan := [(6, [0, 5], [7], true, (.q 0 (.p 1 (.p 2 (.p 3 (.p 4 (.q 5 (.e 6 (.e 7 .done)))))))))] }
def sp_r06_Get : Specs := [(19, s_r03_Add), (21, s_r03_Zero)]
def an_r06_Indices : An := { join := [(7, ⟨[5, 6, 9, 10, 11], [], [(3, false, [.own (.int .i64) 3])], [], []⟩)], loop := [(9, ⟨[3, 5, 6, 9, 10, 11], [1], [(7, false, [.val (.int .i64)])], [], []⟩), (6, ⟨[5, 9, 10, 11], [], [(3, false, [.own (.int .i64) 3]), (6, false, [.val (.int .i64)])], [], []⟩), (3, ⟨[9, 10], [], [(3, false, [.own (.int .i64) 3]), (11, false, [.val (.int .i64)])], [], []⟩)], plan := [(9, [8, 13], [], true, (.p 0 (.p 1 (.p 2 (.p 3 (.p 4 (.p 5 (.p 6 (.p 7 (.q 8 (.p 9 (.p 10 (.p 11 (.p 12 (.q 13 (.p 14 (.p 15 .done))))))))))))))))), (11, [8, 13], [], true, (.p 0 (.p 1 (.p 2 (.p 3 (.p 4 (.p 5 (.p 6 (.p 7 (.q 8 (.p 9 (.p 10 (.p 11 (.p 12 (.q 13 (.p 14 (.p 15 .done)))))))))))))))))] }
def sp_r06_Indices : Specs := []
def an_r06_Norm : An := { join := [(8, ⟨[0, 9, 10, 11], [], [(3, false, [.own (.pair (.int .i64) (.pair (.pair .bool (.sl (.int .u32))) (.sl (.int .u32)))) 49])], [], []⟩)], loop := [(3, ⟨[0, 9, 10], [], [(3, false, [.own (.pair (.int .i64) (.pair (.pair .bool (.sl (.int .u32))) (.sl (.int .u32)))) 49]), (11, false, [.val (.int .i64)])], [], []⟩)] }
def sp_r06_Norm : Specs := [(17, s_r06_Get), (22, s_r03_Sign), (101, s_r06_Indices)]
def an_r06_Identical : An := { loop := [(4, ⟨[0, 1], [], [(5, false, [.val (.int .i64)])], [], []⟩)], plan := [(6, [4, 9, 16, 25, 30], [], false, (.p 0 (.p 1 (.p 2 (.p 3 (.q 4 (.p 5 (.p 6 (.p 7 (.p 8 (.q 9 (.p 10 (.p 11 (.p 12 (.p 13 (.p 14 (.p 15 (.q 16 (.e 17 (.p 18 (.p 19 (.p 20 (.p 21 (.p 22 (.p 23 (.p 24 (.q 25 (.p 26 (.p 27 (.p 28 (.p 29 (.q 30 (.e 31 (.p 32 (.p 33 .done)))))))))))))))))))))))))))))))))))] }
def sp_r06_Identical : Specs := [(16, s_r03_Equal), (61, s_r03_Canonical)]
def vc_r06_Get : dens s_r06_Get.args → Prop := fun (x : List EE × Int × Unit) => True ∧ ∀ (r : QQ × Unit), WfQ r.fst ∧ True → r.fst = rc (0 : Rat) → ∃ (I : Int × Bool × List Int × List Int × Unit → Prop), ∃ (μ : Int × Bool × List Int × List Int × Unit → Nat), I ((0 : Int), r.fst.fst.fst, r.fst.fst.snd, r.fst.snd, ()) ∧ ∀ (p : Int × Bool × List Int × List Int × Unit), In64 p.fst ∧ True ∧ WfU p.snd.snd.fst ∧ WfU p.snd.snd.snd.fst ∧ True → I p → (decide (p.fst < (↑(List.length x.fst) : Int)) = true → ∃ (J : Bool × List Int × List Int × Unit → Prop), (((0 : Int) ≤ p.fst ∧ p.fst < (↑(List.length x.fst) : Int)) ∧ (decide ((gx dEE x.fst p.fst).fst = x.snd.fst) = true → ((0 : Int) ≤ p.fst ∧ p.fst < (↑(List.length x.fst) : Int)) ∧ (whole ((p.snd.fst, p.snd.snd.fst), p.snd.snd.snd.fst) ∧ whole (gx dEE x.fst p.fst).snd) ∧ ∀ (r : QQ × Unit), WfQ r.fst ∧ True → r.fst = rc (rv ((p.snd.fst, p.snd.snd.fst), p.snd.snd.snd.fst) + rv (gx dEE x.fst p.fst).snd) → J (r.fst.fst.fst, r.fst.fst.snd, r.fst.snd, ())) ∧ (decide ((gx dEE x.fst p.fst).fst = x.snd.fst) = false → J (p.snd.fst, p.snd.snd.fst, p.snd.snd.snd.fst, ()))) ∧ ∀ (p_1 : Bool × List Int × List Int × Unit), True ∧ WfU p_1.snd.fst ∧ WfU p_1.snd.snd.fst ∧ True → J p_1 → I (IntKind.i64.wrap (p.fst + (1 : Int)), p_1.fst, p_1.snd.fst, p_1.snd.snd.fst, ()) ∧ μ (IntKind.i64.wrap (p.fst + (1 : Int)), p_1.fst, p_1.snd.fst, p_1.snd.snd.fst, ()) < μ p) ∧ (decide (p.fst < (↑(List.length x.fst) : Int)) = false → ((p.snd.fst, p.snd.snd.fst), p.snd.snd.snd.fst) = ri (isum x.fst x.snd.fst))
theorem vc_r06_Get_eq (x : dens s_r06_Get.args) : semF ⟨Tryz.prog, tys⟩ sp_r06_Get an_r06_Get s_r06_Get Tryz.f17.results.toList (Tryz.f17.body.getD .skip) x = vc_r06_Get x := by kernel_rfl
theorem m_r06_Get (hsp : SpOk Tryz.prog sp_r06_Get) (h : ∀ x, awf s_r06_Get.args x → s_r06_Get.pre x → vc_r06_Get x) : Meets Tryz.prog 17 s_r06_Get := meets_vc (cx := ⟨Tryz.prog, tys⟩) (sp := sp_r06_Get) (an := an_r06_Get) (s := s_r06_Get) (fn := Tryz.f17) (c := Tryz.f17.body.getD .skip) Tryz.func17 (by kernel_rfl) (Nat.le_of_ble_eq_true (by kernel_rfl)) (by kernel_rfl) tys_ok hsp vc_r06_Get_eq h
def vc_r06_Indices : dens s_r06_Indices.args → Prop := fun (x : List (List EE) × Unit) => ∃ (I : List Int × Int × Unit → Prop), ∃ (μ : List Int × Int × Unit → Nat), I ([], (0 : Int), ()) ∧ ∀ (p : List Int × Int × Unit), WfI p.fst ∧ In64 p.snd.fst ∧ True → I p → (decide (p.snd.fst < (↑(List.length x.fst) : Int)) = true → ((0 : Int) ≤ p.snd.fst ∧ p.snd.fst < (↑(List.length x.fst) : Int)) ∧ ∃ (I_1 : List Int × Int × Unit → Prop), ∃ (μ_1 : List Int × Int × Unit → Nat), I_1 (p.fst, (0 : Int), ()) ∧ ∀ (p_1 : List Int × Int × Unit), WfI p_1.fst ∧ In64 p_1.snd.fst ∧ True → I_1 p_1 → (decide (p_1.snd.fst < (↑(gx [] x.fst p.snd.fst).length : Int)) = true → ∃ (J : List Int × Unit → Prop), (∃ (I : Int × Unit → Prop), ∃ (μ : Int × Unit → Nat), I ((0 : Int), ()) ∧ ∀ (p_2 : Int × Unit), In64 p_2.fst ∧ True → I p_2 → (decide (p_2.fst < (↑(List.length p_1.fst) : Int)) = true → (0 : Int) ≤ p_2.fst ∧ p_2.fst < (↑(List.length p_1.fst) : Int)) ∧ (decide (p_2.fst < (↑(List.length p_1.fst) : Int)) = true → (0 : Int) ≤ p_1.snd.fst ∧ p_1.snd.fst < (↑(gx [] x.fst p.snd.fst).length : Int)) ∧ (sel (decide (p_2.fst < (↑(List.length p_1.fst) : Int))) (decide (List.getD p_1.fst (Int.toNat p_2.fst) (0 : Int) < (gx dEE (gx [] x.fst p.snd.fst) p_1.snd.fst).fst)) false = true → I (IntKind.i64.wrap (p_2.fst + (1 : Int)), ()) ∧ μ (IntKind.i64.wrap (p_2.fst + (1 : Int)), ()) < μ p_2) ∧ (sel (decide (p_2.fst < (↑(List.length p_1.fst) : Int))) (decide (List.getD p_1.fst (Int.toNat p_2.fst) (0 : Int) < (gx dEE (gx [] x.fst p.snd.fst) p_1.snd.fst).fst)) false = false → (decide (p_2.fst < (↑(List.length p_1.fst) : Int)) = true → (0 : Int) ≤ p_2.fst ∧ p_2.fst < (↑(List.length p_1.fst) : Int)) ∧ (decide (p_2.fst < (↑(List.length p_1.fst) : Int)) = true → (0 : Int) ≤ p_1.snd.fst ∧ p_1.snd.fst < (↑(gx [] x.fst p.snd.fst).length : Int)) ∧ (sel (decide (p_2.fst < (↑(List.length p_1.fst) : Int))) (decide (List.getD p_1.fst (Int.toNat p_2.fst) (0 : Int) = (gx dEE (gx [] x.fst p.snd.fst) p_1.snd.fst).fst)) false = true → J (p_1.fst, ())) ∧ (sel (decide (p_2.fst < (↑(List.length p_1.fst) : Int))) (decide (List.getD p_1.fst (Int.toNat p_2.fst) (0 : Int) = (gx dEE (gx [] x.fst p.snd.fst) p_1.snd.fst).fst)) false = false → ((0 : Int) ≤ (0 : Int) ∧ (0 : Int) ≤ p_2.fst ∧ p_2.fst ≤ (↑(List.length p_1.fst) : Int)) ∧ (((0 : Nat) + (List.drop (Int.toNat (0 : Int)) (List.take (Int.toNat p_2.fst) p_1.fst)).length) * (8 : Nat) ≤ (140737488355328 : Nat) ∧ (0 : Nat) + (List.drop (Int.toNat (0 : Int)) (List.take (Int.toNat p_2.fst) p_1.fst)).length ≤ 9223372036854775807) ∧ ((0 : Int) ≤ p_1.snd.fst ∧ p_1.snd.fst < (↑(gx [] x.fst p.snd.fst).length : Int)) ∧ (((List.drop (Int.toNat (0 : Int)) (List.take (Int.toNat p_2.fst) p_1.fst)).length + [(gx dEE (gx [] x.fst p.snd.fst) p_1.snd.fst).fst].length) * (8 : Nat) ≤ (140737488355328 : Nat) ∧ (List.drop (Int.toNat (0 : Int)) (List.take (Int.toNat p_2.fst) p_1.fst)).length + [(gx dEE (gx [] x.fst p.snd.fst) p_1.snd.fst).fst].length ≤ 9223372036854775807) ∧ ((0 : Int) ≤ p_2.fst ∧ p_2.fst ≤ (↑(List.length p_1.fst) : Int) ∧ (↑(List.length p_1.fst) : Int) ≤ (↑(List.length p_1.fst) : Int)) ∧ (((List.drop (Int.toNat (0 : Int)) (List.take (Int.toNat p_2.fst) p_1.fst) ++ [(gx dEE (gx [] x.fst p.snd.fst) p_1.snd.fst).fst]).length + (List.drop (Int.toNat p_2.fst) (List.take (↑(List.length p_1.fst) : Int).toNat p_1.fst)).length) * (8 : Nat) ≤ (140737488355328 : Nat) ∧ (List.drop (Int.toNat (0 : Int)) (List.take (Int.toNat p_2.fst) p_1.fst) ++ [(gx dEE (gx [] x.fst p.snd.fst) p_1.snd.fst).fst]).length + (List.drop (Int.toNat p_2.fst) (List.take (↑(List.length p_1.fst) : Int).toNat p_1.fst)).length ≤ 9223372036854775807) ∧ J (List.drop (Int.toNat (0 : Int)) (List.take (Int.toNat p_2.fst) p_1.fst) ++ [(gx dEE (gx [] x.fst p.snd.fst) p_1.snd.fst).fst] ++ List.drop (Int.toNat p_2.fst) (List.take (↑(List.length p_1.fst) : Int).toNat p_1.fst), ())))) ∧ ∀ (p : List Int × Unit), WfI p.fst ∧ True → J p → I_1 (p.fst, IntKind.i64.wrap (p_1.snd.fst + (1 : Int)), ()) ∧ μ_1 (p.fst, IntKind.i64.wrap (p_1.snd.fst + (1 : Int)), ()) < μ_1 p_1) ∧ (decide (p_1.snd.fst < (↑(gx [] x.fst p.snd.fst).length : Int)) = false → I (p_1.fst, IntKind.i64.wrap (p.snd.fst + (1 : Int)), ()) ∧ μ (p_1.fst, IntKind.i64.wrap (p.snd.fst + (1 : Int)), ()) < μ p)) ∧ (decide (p.snd.fst < (↑(List.length x.fst) : Int)) = false → List.Pairwise (fun (x1 x2 : Int) => x1 < x2) p.fst ∧ ∀ (i : Int), i ∈ p.fst ↔ ∃ (v : List EE), v ∈ x.fst ∧ ∃ (e : Int × (Bool × List Int) × List Int), e ∈ v ∧ e.fst = i)
theorem vc_r06_Indices_eq (x : dens s_r06_Indices.args) : semF ⟨Tryz.prog, tys⟩ sp_r06_Indices an_r06_Indices s_r06_Indices Tryz.f101.results.toList (Tryz.f101.body.getD .skip) x = vc_r06_Indices x := by kernel_rfl
theorem m_r06_Indices (hsp : SpOk Tryz.prog sp_r06_Indices) (h : ∀ x, awf s_r06_Indices.args x → s_r06_Indices.pre x → vc_r06_Indices x) : Meets Tryz.prog 101 s_r06_Indices := meets_vc (cx := ⟨Tryz.prog, tys⟩) (sp := sp_r06_Indices) (an := an_r06_Indices) (s := s_r06_Indices) (fn := Tryz.f101) (c := Tryz.f101.body.getD .skip) Tryz.func101 (by kernel_rfl) (Nat.le_of_ble_eq_true (by kernel_rfl)) (by kernel_rfl) tys_ok hsp vc_r06_Indices_eq h
def vc_r06_Norm : dens s_r06_Norm.args → Prop := fun (x : List EE × Unit) => ([x.fst].length ≤ (4 : Nat) ∧ ∀ (v : List EE), v ∈ [x.fst] → v.length ≤ (1000 : Nat)) ∧ ∀ (r : List Int × Unit), WfI r.fst ∧ True → (List.Pairwise (fun (x1 x2 : Int) => x1 < x2) r.fst ∧ ∀ (i : Int), i ∈ r.fst ↔ ∃ (v : List EE), v ∈ [x.fst] ∧ ∃ (e : Int × (Bool × List Int) × List Int), e ∈ v ∧ e.fst = i) → ∃ (I : List EE × Int × Unit → Prop), ∃ (μ : List EE × Int × Unit → Nat), I ([], (0 : Int), ()) ∧ ∀ (p : List EE × Int × Unit), WfEs p.fst ∧ In64 p.snd.fst ∧ True → I p → (decide (p.snd.fst < (↑(List.length r.fst) : Int)) = true → ∃ (J : List EE × Unit → Prop), (((0 : Int) ≤ p.snd.fst ∧ p.snd.fst < (↑(List.length r.fst) : Int)) ∧ (pm x.fst ∧ List.length x.fst ≤ (1000 : Nat)) ∧ ∀ (r_1 : QQ × Unit), WfQ r_1.fst ∧ True → r_1.fst = ri (isum x.fst (gx (0 : Int) r.fst p.snd.fst)) → whole r_1.fst ∧ ∀ (r_2 : Int × Unit), In64 r_2.fst ∧ True → r_2.fst = (rv r_1.fst).num.sign → (decide (r_2.fst ≠ (0 : Int)) = true → ((List.length p.fst + [(gx (0 : Int) r.fst p.snd.fst, r_1.fst)].length) * (64 : Nat) ≤ (140737488355328 : Nat) ∧ List.length p.fst + [(gx (0 : Int) r.fst p.snd.fst, r_1.fst)].length ≤ 9223372036854775807) ∧ J (p.fst ++ [(gx (0 : Int) r.fst p.snd.fst, r_1.fst)], ())) ∧ (decide (r_2.fst ≠ (0 : Int)) = false → J (p.fst, ()))) ∧ ∀ (p_1 : List EE × Unit), WfEs p_1.fst ∧ True → J p_1 → I (p_1.fst, IntKind.i64.wrap (p.snd.fst + (1 : Int)), ()) ∧ μ (p_1.fst, IntKind.i64.wrap (p.snd.fst + (1 : Int)), ()) < μ p) ∧ (decide (p.snd.fst < (↑(List.length r.fst) : Int)) = false → List.Perm p.fst x.fst ∧ byIx p.fst)
theorem vc_r06_Norm_eq (x : dens s_r06_Norm.args) : semF ⟨Tryz.prog, tys⟩ sp_r06_Norm an_r06_Norm s_r06_Norm Tryz.f80.results.toList (Tryz.f80.body.getD .skip) x = vc_r06_Norm x := by kernel_rfl
theorem m_r06_Norm (hsp : SpOk Tryz.prog sp_r06_Norm) (h : ∀ x, awf s_r06_Norm.args x → s_r06_Norm.pre x → vc_r06_Norm x) : Meets Tryz.prog 80 s_r06_Norm := meets_vc (cx := ⟨Tryz.prog, tys⟩) (sp := sp_r06_Norm) (an := an_r06_Norm) (s := s_r06_Norm) (fn := Tryz.f80) (c := Tryz.f80.body.getD .skip) Tryz.func80 (by kernel_rfl) (Nat.le_of_ble_eq_true (by kernel_rfl)) (by kernel_rfl) tys_ok hsp vc_r06_Norm_eq h
def vc_r06_Identical : dens s_r06_Identical.args → Prop := fun (x : List EE × List EE × Unit) => (decide ((↑(List.length x.fst) : Int) ≠ (↑(List.length x.snd.fst) : Int)) = true → false = decide (x.fst = x.snd.fst ∧ ∀ (e : Int × (Bool × List Int) × List Int), e ∈ x.fst → e.snd = rc (rv e.snd))) ∧ (decide ((↑(List.length x.fst) : Int) ≠ (↑(List.length x.snd.fst) : Int)) = false → ∃ (I : Int × Unit → Prop), ∃ (μ : Int × Unit → Nat), I ((0 : Int), ()) ∧ ∀ (p : Int × Unit), In64 p.fst ∧ True → I p → (decide (p.fst < (↑(List.length x.fst) : Int)) = true → ((0 : Int) ≤ p.fst ∧ p.fst < (↑(List.length x.fst) : Int)) ∧ ((0 : Int) ≤ p.fst ∧ p.fst < (↑(List.length x.snd.fst) : Int)) ∧ (decide ((gx dEE x.fst p.fst).fst ≠ (gx dEE x.snd.fst p.fst).fst) = false → (0 : Int) ≤ p.fst ∧ p.fst < (↑(List.length x.fst) : Int)) ∧ (decide ((gx dEE x.fst p.fst).fst ≠ (gx dEE x.snd.fst p.fst).fst) = false → whole (gx dEE x.fst p.fst).snd) ∧ ∀ (r : Bool × Unit), (decide ((gx dEE x.fst p.fst).fst ≠ (gx dEE x.snd.fst p.fst).fst) = false → (True ∧ True) ∧ r.fst = decide ((gx dEE x.fst p.fst).snd = rc (rv (gx dEE x.fst p.fst).snd))) → ((sel (decide ((gx dEE x.fst p.fst).fst ≠ (gx dEE x.snd.fst p.fst).fst)) true !r.fst) = false → (0 : Int) ≤ p.fst ∧ p.fst < (↑(List.length x.fst) : Int)) ∧ ((sel (decide ((gx dEE x.fst p.fst).fst ≠ (gx dEE x.snd.fst p.fst).fst)) true !r.fst) = false → (0 : Int) ≤ p.fst ∧ p.fst < (↑(List.length x.snd.fst) : Int)) ∧ ((sel (decide ((gx dEE x.fst p.fst).fst ≠ (gx dEE x.snd.fst p.fst).fst)) true !r.fst) = false → True) ∧ ∀ (r_1 : Bool × Unit), ((sel (decide ((gx dEE x.fst p.fst).fst ≠ (gx dEE x.snd.fst p.fst).fst)) true !r.fst) = false → (True ∧ True) ∧ r_1.fst = decide ((gx dEE x.fst p.fst).snd = (gx dEE x.snd.fst p.fst).snd)) → ((sel (sel (decide ((gx dEE x.fst p.fst).fst ≠ (gx dEE x.snd.fst p.fst).fst)) true !r.fst) true !r_1.fst) = true → false = decide (x.fst = x.snd.fst ∧ ∀ (e : Int × (Bool × List Int) × List Int), e ∈ x.fst → e.snd = rc (rv e.snd))) ∧ ((sel (sel (decide ((gx dEE x.fst p.fst).fst ≠ (gx dEE x.snd.fst p.fst).fst)) true !r.fst) true !r_1.fst) = false → I (IntKind.i64.wrap (p.fst + (1 : Int)), ()) ∧ μ (IntKind.i64.wrap (p.fst + (1 : Int)), ()) < μ p)) ∧ (decide (p.fst < (↑(List.length x.fst) : Int)) = false → true = decide (x.fst = x.snd.fst ∧ ∀ (e : Int × (Bool × List Int) × List Int), e ∈ x.fst → e.snd = rc (rv e.snd))))
theorem vc_r06_Identical_eq (x : dens s_r06_Identical.args) : semF ⟨Tryz.prog, tys⟩ sp_r06_Identical an_r06_Identical s_r06_Identical Tryz.f35.results.toList (Tryz.f35.body.getD .skip) x = vc_r06_Identical x := by kernel_rfl
theorem m_r06_Identical (hsp : SpOk Tryz.prog sp_r06_Identical) (h : ∀ x, awf s_r06_Identical.args x → s_r06_Identical.pre x → vc_r06_Identical x) : Meets Tryz.prog 35 s_r06_Identical := meets_vc (cx := ⟨Tryz.prog, tys⟩) (sp := sp_r06_Identical) (an := an_r06_Identical) (s := s_r06_Identical) (fn := Tryz.f35) (c := Tryz.f35.body.getD .skip) Tryz.func35 (by kernel_rfl) (Nat.le_of_ble_eq_true (by kernel_rfl)) (by kernel_rfl) tys_ok hsp vc_r06_Identical_eq h
end Go.Proofs.YtppgpdigopffbaaGreat
namespace Go.Proofs.YtppgpdigopffbaaGreat
open Go.Vc Go.Gw
theorem isum_append (a b : List Ent) (k : Int) : isum (a ++ b) k = isum a k + isum b k := by
  induction a with
  | nil => simp [isum]
  | cons e a ih => simp only [List.cons_append, isum, ih]; omega
theorem pm_val {v : List Ent} (h : pm v) {e : Ent} (he : e ∈ v) : e.2 = ri (rsgn e.2) ∧ (rsgn e.2).natAbs = 1 := by
  rcases h e he with h1 | h1 <;> rw [h1, rsgn_ri] <;> exact ⟨rfl, rfl⟩
theorem isum_abs {v : List Ent} (h : pm v) (k : Int) : (isum v k).natAbs ≤ v.length := by
  induction v with
  | nil => simp [isum]
  | cons e v ih =>
    have ih := ih fun x hx => h x (List.mem_cons_of_mem _ hx)
    have h1 := (pm_val h (e := e) (by simp)).2
    simp only [isum, List.length_cons]
    split <;> omega
theorem pm_take {v : List Ent} (h : pm v) (n : Nat) : pm (v.take n) := fun e he => h e (List.mem_of_mem_take he)
theorem vc_r06_Get_ok (x : dens s_r06_Get.args) (hw : awf s_r06_Get.args x) (hp : s_r06_Get.pre x) : vc_r06_Get x := by
  obtain ⟨v, k, _⟩ := x
  change List (Int × (Bool × List Int) × List Int) at v
  change Int at k
  obtain ⟨hpm, hl⟩ : pm v ∧ v.length ≤ 1000 := hp
  simp only [vc_r06_Get]
  refine ⟨trivial, ?_⟩
  rintro ⟨z, _⟩ _ hz
  simp only at hz ⊢
  have hz : z = ri 0 := by rw [hz, ← rc_int]; rfl
  refine ⟨fun p => 0 ≤ p.1 ∧ p.1 ≤ (v.length : Int) ∧ ((p.2.1, p.2.2.1), p.2.2.2.1) = ri (isum (v.take p.1.toNat) k), fun p => ((v.length : Int) - p.1).toNat, ⟨Int.le_refl _, Int.natCast_nonneg _, by rw [hz]; rfl⟩, ?_⟩
  rintro ⟨i, b, m, d, _⟩ _ ⟨h0, h1, h2⟩
  change Int at i
  simp only at h0 h1 h2 ⊢
  refine ⟨fun h => ?_, fun h => ?_⟩
  · have h := of_decide_eq_true h
    have hme : gx dEE v i ∈ v := gx_mem h0 h
    have hts : v.take (i + 1).toNat = v.take i.toNat ++ [gx dEE v i] := by
      rw [show (i + 1).toNat = i.toNat + 1 from by omega, List.take_add_one, gx_get (d := dEE) h0 h]; rfl
    obtain ⟨hv, hab⟩ := pm_val hpm hme
    generalize gx dEE v i = e at *
    have hb := isum_abs (pm_take hpm i.toNat) k
    rw [List.length_take] at hb
    refine ⟨fun p => ((p.1, p.2.1), p.2.2.1) = ri (isum (v.take (i + 1).toNat) k), ⟨⟨h0, h⟩, fun he => ⟨⟨h0, h⟩, ⟨?_, ?_⟩, ?_⟩, fun he => ?_⟩, ?_⟩
    · rw [h2]; exact whole_ri (by omega)
    · rw [hv]; exact whole_ri (by omega)
    · have he := of_decide_eq_true he
      rintro ⟨r, _⟩ _ hr
      simp only at hr ⊢
      rw [hr, h2, hv, rv_ri, rv_ri, ← Rat.intCast_add, rc_int, hts, isum_append]
      simp only [isum]
      rw [if_pos he, Int.add_zero]
    · have he := of_decide_eq_false he
      show ((b, m), d) = _
      rw [h2, hts, isum_append]
      simp only [isum]
      rw [if_neg he, Int.add_zero, Int.add_zero]
    · rintro ⟨b', m', d', _⟩ _ hr
      simp only at hr ⊢
      rw [wr (by omega) (by omega)]
      exact ⟨⟨by omega, by omega, hr⟩, by omega⟩
  · have h := of_decide_eq_false h
    rw [take_all (by omega)] at h2
    exact h2
theorem sorted_insert {l : List Int} {v : Int} {a : Nat} (hs : l.Pairwise (· < ·)) (h1 : ∀ y ∈ l.take a, y < v) (h2 : ∀ y, l[a]? = some y → v < y) : (l.take a ++ [v] ++ l.drop a).Pairwise (· < ·) := by
  have hd : ∀ y ∈ l.drop a, v < y := fun y hy => by
    rw [← List.take_append_drop a l, List.pairwise_append] at hs
    cases hc : l.drop a with
    | nil => rw [hc] at hy; cases hy
    | cons z r =>
      have hz : v < z := h2 z (by rw [← List.head?_drop, hc]; rfl)
      rw [hc] at hy
      rcases List.mem_cons.1 hy with rfl | hy
      · exact hz
      · have := hs.2.1
        rw [hc, List.pairwise_cons] at this
        have := this.1 y hy
        omega
  rw [List.pairwise_append, List.pairwise_append]
  refine ⟨⟨hs.take, List.pairwise_singleton _ _, fun y hy z hz => ?_⟩, hs.drop, fun y hy z hz => ?_⟩
  · rw [List.mem_singleton.1 hz]; exact h1 y hy
  · rcases List.mem_append.1 hy with hy | hy
    · have := h1 y hy; have := hd z hz; omega
    · rw [List.mem_singleton.1 hy]; exact hd z hz
theorem vc_r06_Indices_ok (x : dens s_r06_Indices.args) (hw : awf s_r06_Indices.args x) (hp : s_r06_Indices.pre x) : vc_r06_Indices x := by
  obtain ⟨ls, _⟩ := x
  change List (List (Int × (Bool × List Int) × List Int)) at ls
  obtain ⟨hl, hv⟩ : ls.length ≤ 4 ∧ ∀ v ∈ ls, v.length ≤ 1000 := hp
  simp only [vc_r06_Indices]
  refine ⟨fun p => 0 ≤ p.2.1 ∧ p.2.1 ≤ (ls.length : Int) ∧ p.1.length ≤ 1000 * p.2.1.toNat ∧ p.1.Pairwise (· < ·) ∧ ∀ i, i ∈ p.1 ↔ ∃ v ∈ ls.take p.2.1.toNat, ∃ e ∈ v, e.1 = i, fun p => ((ls.length : Int) - p.2.1).toNat, ⟨Int.le_refl _, Int.natCast_nonneg _, by simp, List.Pairwise.nil, fun i => by simp⟩, ?_⟩
  rintro ⟨out, j, _⟩ _ ⟨h0, h1, h2, h3, h4⟩
  change Int at j
  change List Int at out
  simp only at h0 h1 h2 h3 h4 ⊢
  refine ⟨fun h => ?_, fun h => ?_⟩
  · have h := of_decide_eq_true h
    have hvl := hv _ (gx_mem (d := ([] : List (Int × (Bool × List Int) × List Int))) h0 h)
    have hts : ls.take (j + 1).toNat = ls.take j.toNat ++ [gx [] ls j] := by
      rw [show (j + 1).toNat = j.toNat + 1 from by omega, List.take_add_one, gx_get (d := ([] : List (Int × (Bool × List Int) × List Int))) h0 h]; rfl
    generalize gx ([] : List (Int × (Bool × List Int) × List Int)) ls j = v at *
    refine ⟨⟨h0, h⟩, fun p => 0 ≤ p.2.1 ∧ p.2.1 ≤ (v.length : Int) ∧ p.1.length ≤ 1000 * j.toNat + p.2.1.toNat ∧ p.1.Pairwise (· < ·) ∧ ∀ i, i ∈ p.1 ↔ (∃ v ∈ ls.take j.toNat, ∃ e ∈ v, e.1 = i) ∨ ∃ e ∈ v.take p.2.1.toNat, e.1 = i, fun p => ((v.length : Int) - p.2.1).toNat, ⟨Int.le_refl _, Int.natCast_nonneg _, by simpa using h2, h3, fun i => by rw [h4]; simp⟩, ?_⟩
    rintro ⟨o, k, _⟩ _ ⟨g0, g1, g2, g3, g4⟩
    change Int at k
    change List Int at o
    simp only at g0 g1 g2 g3 g4 ⊢
    refine ⟨fun hk => ?_, fun hk => ?_⟩
    · have hk := of_decide_eq_true hk
      have hvs : v.take (k + 1).toNat = v.take k.toNat ++ [gx dEE v k] := by
        rw [show (k + 1).toNat = k.toNat + 1 from by omega, List.take_add_one, gx_get (d := dEE) g0 hk]; rfl
      have hmem : ∀ i, ((∃ v ∈ ls.take j.toNat, ∃ e ∈ v, e.1 = i) ∨ ∃ e ∈ v.take (k + 1).toNat, e.1 = i) ↔ (i ∈ o ∨ (gx dEE v k).1 = i) := fun i => by
        rw [g4 i, hvs]
        constructor
        · rintro (h | ⟨e, he, rfl⟩)
          · exact .inl (.inl h)
          · rcases List.mem_append.1 he with he | he
            · exact .inl (.inr ⟨e, he, rfl⟩)
            · rw [List.mem_singleton.1 he]; exact .inr rfl
        · rintro ((h | ⟨e, he, rfl⟩) | rfl)
          · exact .inl h
          · exact .inr ⟨e, List.mem_append.2 (.inl he), rfl⟩
          · exact .inr ⟨_, List.mem_append.2 (.inr (by simp)), rfl⟩
      generalize gx dEE v k = e at *
      refine ⟨fun p => p.1.length ≤ 1000 * j.toNat + k.toNat + 1 ∧ p.1.Pairwise (· < ·) ∧ ∀ i, i ∈ p.1 ↔ (∃ v ∈ ls.take j.toNat, ∃ e ∈ v, e.1 = i) ∨ ∃ e ∈ v.take (k + 1).toNat, e.1 = i, ?_, ?_⟩
      · refine ⟨fun p => 0 ≤ p.1 ∧ p.1 ≤ (o.length : Int) ∧ ∀ y ∈ o.take p.1.toNat, y < e.1, fun p => ((o.length : Int) - p.1).toNat, ⟨Int.le_refl _, Int.natCast_nonneg _, by simp⟩, ?_⟩
        rintro ⟨a, _⟩ _ ⟨a0, a1, a2⟩
        change Int at a
        simp only at a0 a1 a2 ⊢
        refine ⟨fun ha => ⟨a0, of_decide_eq_true ha⟩, fun _ => ⟨g0, hk⟩, fun ha => ?_, fun ha => ⟨fun ha => ⟨a0, of_decide_eq_true ha⟩, fun _ => ⟨g0, hk⟩, fun hb => ?_, fun hb => ?_⟩⟩
        · rw [sel_and] at ha
          simp only [Bool.and_eq_true, decide_eq_true_eq] at ha
          rw [wr (by omega) (by omega)]
          refine ⟨⟨by omega, by omega, before_step (d := (0 : Int)) a0 ha.1 a2 ?_⟩, by omega⟩
          rw [gx_getD a0 ha.1]; exact ha.2
        · rw [sel_and] at hb
          simp only [Bool.and_eq_true, decide_eq_true_eq] at hb
          refine ⟨by show o.length ≤ _; omega, g3, fun i => ?_⟩
          rw [hmem i]
          constructor
          · exact .inl
          · rintro (hi | rfl)
            · exact hi
            · have := gx_mem (d := (0 : Int)) a0 hb.1
              rw [gx_getD a0 hb.1, hb.2] at this
              exact this
        · rw [sel_and] at ha hb
          simp only [Bool.and_eq_false_iff, decide_eq_false_iff_not] at ha hb
          have e1 : (o.take a.toNat).drop (Int.toNat 0) = o.take a.toNat := rfl
          have e2 : o.take ((o.length : Int)).toNat = o := by rw [Int.toNat_natCast, List.take_length]
          rw [e1, e2]
          have l1 : (o.take a.toNat).length ≤ o.length := by rw [List.length_take]; omega
          have l2 : (o.drop a.toNat).length ≤ o.length := by rw [List.length_drop]; omega
          have l3 : (o.take a.toNat ++ [e.1] ++ o.drop a.toNat).length = o.length + 1 := by
            simp only [List.length_append, List.length_take, List.length_drop, List.length_singleton]; omega
          refine ⟨⟨Int.le_refl _, a0, a1⟩, ⟨by omega, by omega⟩, ⟨g0, hk⟩, ⟨by simp only [List.length_singleton]; omega, by simp only [List.length_singleton]; omega⟩, ⟨a0, a1, Int.le_refl _⟩, ⟨?_, ?_⟩, ⟨by show (o.take a.toNat ++ [e.1] ++ o.drop a.toNat).length ≤ _; omega, ?_, fun i => ?_⟩⟩
          · simp only [List.length_append, List.length_singleton]; omega
          · simp only [List.length_append, List.length_singleton]; omega
          · refine sorted_insert g3 a2 fun y hy => ?_
            have hlt : a.toNat < o.length := by
              rcases Nat.lt_or_ge a.toNat o.length with h | h
              · exact h
              · rw [List.getElem?_eq_none h] at hy; cases hy
            have hy2 : o.getD a.toNat 0 = y := by rw [List.getD_eq_getElem?_getD, hy]; rfl
            rw [hy2] at ha hb
            omega
          · rw [hmem i]
            simp only [List.mem_append, List.mem_singleton]
            have hsplit : i ∈ o ↔ i ∈ o.take a.toNat ∨ i ∈ o.drop a.toNat := by
              conv => lhs; rw [← List.take_append_drop a.toNat o]
              exact List.mem_append
            rw [hsplit]
            constructor
            · rintro ((h | h) | h)
              · exact .inl (.inl h)
              · exact .inr h.symm
              · exact .inl (.inr h)
            · rintro ((h | h) | h)
              · exact .inl (.inl h)
              · exact .inr h
              · exact .inl (.inr h.symm)
      · rintro ⟨o2, _⟩ _ ⟨k1, k2, k3⟩
        simp only at k1 k2 k3 ⊢
        rw [wr (by omega) (by omega)]
        exact ⟨⟨by omega, by omega, by omega, k2, k3⟩, by omega⟩
    · have hk := of_decide_eq_false hk
      rw [wr (by omega) (by omega)]
      rw [take_all (l := v) (i := k) (by omega)] at g4
      refine ⟨⟨by omega, by omega, by omega, g3, fun i => ?_⟩, by omega⟩
      rw [g4 i, hts]
      simp only [List.mem_append, List.mem_singleton]
      constructor
      · rintro (⟨w, h1, h2⟩ | h)
        · exact ⟨w, .inl h1, h2⟩
        · exact ⟨v, .inr rfl, h⟩
      · rintro ⟨w, h1 | rfl, h2⟩
        · exact .inl ⟨w, h1, h2⟩
        · exact .inr h2
  · have h := of_decide_eq_false h
    rw [take_all (by omega)] at h4
    exact ⟨h3, h4⟩
theorem isum_none {v : List Ent} {i : Int} (h : ∀ e ∈ v, e.1 ≠ i) : isum v i = 0 := by
  induction v with
  | nil => rfl
  | cons e v ih =>
    simp only [isum]
    rw [if_neg (h e (by simp)), ih fun x hx => h x (List.mem_cons_of_mem _ hx)]; rfl
theorem isum_one : ∀ {v : List Ent}, (v.map (·.1)).Nodup → ∀ {e : Ent}, e ∈ v → isum v e.1 = rsgn e.2
  | [], _, e, he => by cases he
  | a :: v, hn, e, he => by
    rw [List.map_cons, List.nodup_cons] at hn
    simp only [isum]
    rcases List.mem_cons.1 he with rfl | he
    · rw [if_pos rfl, isum_none fun x hx hxe => hn.1 (by rw [← hxe]; exact List.mem_map_of_mem (f := fun e : Ent => e.1) hx)]; omega
    · rw [if_neg fun h => hn.1 (by rw [h]; exact List.mem_map_of_mem he), isum_one hn.2 he]; omega
theorem vc_r06_Norm_ok (x : dens s_r06_Norm.args) (hw : awf s_r06_Norm.args x) (hp : s_r06_Norm.pre x) : vc_r06_Norm x := by
  obtain ⟨v, _⟩ := x
  change List (Int × (Bool × List Int) × List Int) at v
  obtain ⟨hl, hn, hpm⟩ : v.length ≤ 1000 ∧ (v.map fun e : Int × (Bool × List Int) × List Int => e.1).Nodup ∧ pm v := hp
  simp only [vc_r06_Norm]
  refine ⟨⟨by simp, fun w hw => by rw [List.mem_singleton.1 hw]; exact hl⟩, ?_⟩
  rintro ⟨r, _⟩ ⟨⟨hrl, _⟩, _⟩ ⟨r1, r2⟩
  change List Int at r
  simp only at r1 r2 hrl ⊢
  have r3 : ∀ i, i ∈ r ↔ ∃ e ∈ v, e.1 = i := fun i => by
    rw [r2 i]
    constructor
    · rintro ⟨w, hw, he⟩; rw [List.mem_singleton.1 hw] at he; exact he
    · intro he; exact ⟨v, by simp, he⟩
  have hrd : r.Nodup := r1.imp fun h e => by omega
  have hlen : r.length ≤ 1000 := by
    have h2 : ∀ i ∈ r, i ∈ v.map fun e : Int × (Bool × List Int) × List Int => e.1 := fun i hi => by
      obtain ⟨e, he, rfl⟩ := (r3 i).1 hi
      exact List.mem_map_of_mem he
    have := nodup_len hrd h2
    rw [List.length_map] at this; omega
  refine ⟨fun p => 0 ≤ p.2.1 ∧ p.2.1 ≤ (r.length : Int) ∧ p.1 = (r.take p.2.1.toNat).map fun i => (i, ri (isum v i)), fun p => ((r.length : Int) - p.2.1).toNat, ⟨Int.le_refl _, Int.natCast_nonneg _, rfl⟩, ?_⟩
  rintro ⟨out, j, _⟩ _ ⟨h0, h1, h2⟩
  change Int at j
  change List (Int × (Bool × List Int) × List Int) at out
  simp only at h0 h1 h2 ⊢
  refine ⟨fun h => ?_, fun h => ?_⟩
  · have h := of_decide_eq_true h
    have hts : r.take (j + 1).toNat = r.take j.toNat ++ [gx 0 r j] := by
      rw [show (j + 1).toNat = j.toNat + 1 from by omega, List.take_add_one, gx_get (d := (0 : Int)) h0 h]; rfl
    obtain ⟨e, he, hei⟩ := (r3 _).1 (gx_mem (d := (0 : Int)) h0 h)
    have hs := isum_one hn he
    rw [hei] at hs
    obtain ⟨e1, e2⟩ := pm_val hpm he
    have hol : out.length = j.toNat := by rw [h2, List.length_map, List.length_take]; omega
    generalize gx 0 r j = i at *
    refine ⟨fun p => p.1 = (r.take (j + 1).toNat).map fun i => (i, ri (isum v i)), ⟨⟨h0, h⟩, ⟨hpm, hl⟩, ?_⟩, ?_⟩
    · rintro ⟨q, _⟩ _ hq
      simp only at hq ⊢
      subst hq
      refine ⟨whole_ri (by omega), ?_⟩
      rintro ⟨s, _⟩ _ hsg
      simp only at hsg ⊢
      rw [rv_ri, Rat.num_intCast] at hsg
      refine ⟨fun _ => ⟨⟨by simp only [List.length_singleton]; omega, by simp only [List.length_singleton]; omega⟩, ?_⟩, fun hz => ?_⟩
      · rw [hts, List.map_append, ← h2]; rfl
      · have hz : s = 0 := by simpa using hz
        rw [hz] at hsg
        have := Int.sign_eq_zero_iff_zero.1 hsg.symm
        omega
    · rintro ⟨o, _⟩ _ ho
      simp only at ho ⊢
      rw [wr (by omega) (by omega)]
      exact ⟨⟨by omega, by omega, ho⟩, by omega⟩
  · have h := of_decide_eq_false h
    rw [take_all (by omega)] at h2
    subst h2
    refine ⟨?_, ?_⟩
    · have hvd : v.Nodup := List.Pairwise.of_map (fun e : Int × (Bool × List Int) × List Int => e.1) (fun a b hab e => hab (by rw [e])) hn
      have hod : (r.map fun i => ((i, ri (isum v i)) : Int × (Bool × List Int) × List Int)).Nodup := by
        unfold List.Nodup
        rw [List.pairwise_map]
        exact hrd.imp fun hab e => hab (congrArg Prod.fst e)
      refine (List.perm_ext_iff_of_nodup hod hvd).2 fun e => ?_
      rw [List.mem_map]
      constructor
      · rintro ⟨i, hi, rfl⟩
        obtain ⟨f, hf, rfl⟩ := (r3 i).1 hi
        rw [isum_one hn hf, ← (pm_val hpm hf).1]; exact hf
      · intro he
        refine ⟨e.1, (r3 _).2 ⟨e, he, rfl⟩, ?_⟩
        rw [isum_one hn he, ← (pm_val hpm he).1]
    · unfold byIx
      rw [List.pairwise_map]
      exact r1
theorem vc_r06_Identical_ok (x : dens s_r06_Identical.args) (hw : awf s_r06_Identical.args x) (hp : s_r06_Identical.pre x) : vc_r06_Identical x := by
  obtain ⟨a, b, _⟩ := x
  have hl : a.length ≤ 9223372036854775807 := hw.1.1
  change List (Int × (Bool × List Int) × List Int) at a b
  have hwh : ∀ e ∈ a, whole e.2 := hp
  simp only [vc_r06_Identical]
  refine ⟨fun h => ?_, fun h => ?_⟩
  · have h := of_decide_eq_true h
    exact (decide_eq_false fun e => h (by rw [e.1])).symm
  · have hlen : a.length = b.length := by have := of_decide_eq_false h; omega
    refine ⟨fun p => 0 ≤ p.1 ∧ p.1 ≤ (a.length : Int) ∧ a.take p.1.toNat = b.take p.1.toNat ∧ ∀ e ∈ a.take p.1.toNat, e.2 = rc (rv e.2), fun p => ((a.length : Int) - p.1).toNat, ⟨Int.le_refl _, Int.natCast_nonneg _, by simp, by simp⟩, ?_⟩
    rintro ⟨i, _⟩ _ ⟨h0, h1, h2, h3⟩
    change Int at i
    simp only at h0 h1 h2 h3 ⊢
    refine ⟨fun h => ?_, fun h => ?_⟩
    · have h := of_decide_eq_true h
      have ma := gx_mem (d := dEE) h0 h
      have ga := gx_get (d := dEE) h0 h
      have gb := gx_get (d := dEE) (l := b) h0 (by omega)
      have hta : a.take (i + 1).toNat = a.take i.toNat ++ [gx dEE a i] := by
        rw [show (i + 1).toNat = i.toNat + 1 from by omega, List.take_add_one, ga]; rfl
      have htb : b.take (i + 1).toNat = b.take i.toNat ++ [gx dEE b i] := by
        rw [show (i + 1).toNat = i.toNat + 1 from by omega, List.take_add_one, gb]; rfl
      generalize gx dEE a i = e at *
      generalize gx dEE b i = f at *
      obtain ⟨ei, ev⟩ := e
      obtain ⟨fi, fv⟩ := f
      simp only at ma ga gb hta htb ⊢
      refine ⟨⟨h0, h⟩, ⟨h0, by omega⟩, fun _ => ⟨h0, h⟩, fun _ => hwh _ ma, ?_⟩
      rintro ⟨r, _⟩ hr
      refine ⟨fun _ => ⟨h0, h⟩, fun _ => ⟨h0, by omega⟩, fun _ => trivial, ?_⟩
      rintro ⟨s, _⟩ hs
      change Bool at r s
      simp only at hr hs ⊢
      rw [sel_or] at hs
      rw [sel_or, sel_or]
      have key : (decide (ei ≠ fi) || !r || !s) = false ↔ ei = fi ∧ ev = rc (rv ev) ∧ ev = fv := by
        by_cases hi : ei = fi
        · have hr := (hr (by simp [hi])).2
          by_cases hc : ev = rc (rv ev)
          · have hr : r = true := by rw [hr]; exact decide_eq_true hc
            have hs := (hs (by simp [hi, hr])).2
            rw [hs, hr]
            simp [hi, ← hc]
          · have hr : r = false := by rw [hr]; exact decide_eq_false hc
            rw [hr]; simp [hc]
        · simp [hi]
      refine ⟨fun hb => ?_, fun hb => ?_⟩
      · refine (decide_eq_false fun hall => ?_).symm
        obtain ⟨hab, hcan⟩ := hall
        subst hab
        rw [ga] at gb
        have gb := Option.some.inj gb
        rw [Prod.mk.injEq] at gb
        have := key.2 ⟨gb.1, hcan _ ma, gb.2⟩
        rw [this] at hb; cases hb
      · obtain ⟨k1, k2, k3⟩ := key.1 hb
        rw [wr (by omega) (by omega)]
        refine ⟨⟨by omega, by omega, ?_, ?_⟩, by omega⟩
        · rw [hta, htb, h2, k1, k3]
        · rw [hta]
          intro y hy
          rcases List.mem_append.1 hy with hy | hy
          · exact h3 y hy
          · rw [List.mem_singleton.1 hy]; exact k2
    · have h := of_decide_eq_false h
      rw [take_all (by omega), take_all (by omega)] at h2
      rw [take_all (by omega)] at h3
      exact (decide_eq_true ⟨h2, h3⟩).symm
end Go.Proofs.YtppgpdigopffbaaGreat
namespace Go.Proofs.YtppgpdigopffbaaGreat
open Go.Vc Go.Gw
noncomputable def sp_topology_Loop_102 : Specs := [(41, s_rational_FromInt)]
def an_topology_Loop_102 : An := { join := [(3, ⟨[0, 3], [0, 2, 4, 5], [(6, false, [.val (.int .i64)])], [], []⟩)], plan := [(3, [0], [6, 7], false, (.q 0 (.p 1 (.p 2 (.e 3 (.p 4 (.e 5 (.e 6 (.e 7 .done)))))))))] }
noncomputable def sp_topology_Loop_119 : Specs := [(41, s_rational_FromInt)]
def an_topology_Loop_119 : An := { join := [(3, ⟨[0, 3], [0, 2, 4, 5], [(6, false, [.val (.int .i64)])], [], []⟩)], plan := [(3, [0], [6, 7], false, (.q 0 (.p 1 (.p 2 (.e 3 (.p 4 (.e 5 (.e 6 (.e 7 .done)))))))))] }
def an_topology_Loop : An := { loop := [(13, ⟨[2, 4, 14, 15, 56, 57], [0], [(58, false, [.val (.int .i64)])], [], [(2, .row (.int .i64) 3)]⟩), (20, ⟨[14, 15, 18, 19], [0, 2], [(20, false, [.val (.int .i64)]), (21, false, [.val (.int .i64)])], [(4, 34, [.own (.pair (.int .i64) (.pair (.pair .bool (.sl (.int .u32))) (.sl (.int .u32)))) 49])], []⟩)], plan := [(19, [0, 4, 5, 9], [], true, (.q 0 (.p 1 (.p 2 (.p 3 (.q 4 (.q 5 (.p 6 (.p 7 (.p 8 (.q 9 (.p 10 (.p 11 .done))))))))))))), (21, [3, 7], [], true, (.p 0 (.p 1 (.p 2 (.q 3 (.p 4 (.p 5 (.p 6 (.q 7 (.p 8 .done)))))))))), (24, [5, 10], [11], false, (.p 0 (.p 1 (.p 2 (.p 3 (.p 4 (.q 5 (.p 6 (.p 7 (.p 8 (.p 9 (.q 10 (.e 11 .done)))))))))))))] }
noncomputable def sp_topology_Loop : Specs := [(30, s_topology_check), (31, s_topology_tree), (36, s_topology_roots), (38, s_slices_BinarySearch_Sint_int), (41, s_rational_FromInt), (43, s_vector_Norm), (42, inlSpec (mkInl ⟨Tryz.prog, tys⟩ [(102, sp_topology_Loop_102, an_topology_Loop_102), (119, sp_topology_Loop_119, an_topology_Loop_119)] Tryz.f42.results.toList (Tryz.f42.body.getD .skip) Tryz.f42.ntmps))]
def an_r19_path : An := { join := [(14, ⟨[0, 1, 2, 3, 4, 13, 14, 17, 23, 24, 25], [], [], [], []⟩)], loop := [(8, ⟨[0, 1, 2, 3, 4, 13, 23, 24, 25, 29, 30], [], [(14, false, [.val .bool]), (31, false, [.val (.int .i64)])], [], []⟩), (13, ⟨[0, 1, 2, 3, 4, 13, 14, 23, 24, 25], [], [(17, false, [.val (.int .i64)])], [], []⟩), (4, ⟨[0, 1, 2, 3, 4, 23, 24], [], [(25, false, [.val (.int .i64)])], [], []⟩)], plan := [(16, [], [12, 15], false, (.p 0 (.p 1 (.p 2 (.p 3 (.p 4 (.p 5 (.p 6 (.p 7 (.p 9 (.p 11 (.p 13 (.or 8 (.or 10 (.or 12 (.e 14 (.e 15 (.e 16 (.p 17 (.p 18 (.p 19 (.p 20 (.p 21 .done)))))))) (.e 14 (.e 12 (.e 15 (.e 16 (.p 17 (.p 18 (.p 19 (.p 20 (.p 21 .done)))))))))) (.e 14 (.e 10 (.e 12 (.e 15 (.e 16 (.p 17 (.p 18 (.p 19 (.p 20 (.p 21 .done))))))))))) (.or 10 (.or 8 (.or 12 (.e 14 (.e 15 (.e 16 (.p 17 (.p 18 (.p 19 (.p 20 (.p 21 .done)))))))) (.e 14 (.e 12 (.e 15 (.e 16 (.p 17 (.p 18 (.p 19 (.p 20 (.p 21 .done)))))))))) (.or 12 (.or 8 (.e 14 (.e 15 (.e 16 (.p 17 (.p 18 (.p 19 (.p 20 (.p 21 .done)))))))) (.e 14 (.or 8 (.e 15 (.e 16 (.p 17 (.p 18 (.p 19 (.p 20 (.p 21 .done))))))) (.e 15 (.e 8 (.e 16 (.p 17 (.p 18 (.p 19 (.p 20 (.p 21 .done))))))))))) (.e 14 (.or 8 (.e 12 (.e 15 (.e 16 (.p 17 (.p 18 (.p 19 (.p 20 (.p 21 .done)))))))) (.e 12 (.or 8 (.e 15 (.e 16 (.p 17 (.p 18 (.p 19 (.p 20 (.p 21 .done))))))) (.e 15 (.e 8 (.e 16 (.p 17 (.p 18 (.p 19 (.p 20 (.p 21 .done)))))))))))))) (.e 14 (.or 8 (.e 10 (.e 12 (.e 15 (.e 16 (.p 17 (.p 18 (.p 19 (.p 20 (.p 21 .done))))))))) (.e 10 (.or 8 (.e 12 (.e 15 (.e 16 (.p 17 (.p 18 (.p 19 (.p 20 (.p 21 .done)))))))) (.e 12 (.or 8 (.e 15 (.e 16 (.p 17 (.p 18 (.p 19 (.p 20 (.p 21 .done))))))) (.e 15 (.e 8 (.e 16 (.p 17 (.p 18 (.p 19 (.p 20 (.p 21 .done))))))))))))))))))))))))))))] }
def sp_r19_path (n : Nat) : Specs := [(18, s_r03_FromInt), (79, s_r19_pathn n)]
def an_r19_Loop : An := { loop := [(5, ⟨[1, 2, 8, 24, 25], [], [(26, false, [.val (.int .i64)])], [], []⟩)], plan := [(10, [6, 11], [], true, (.p 0 (.p 1 (.p 2 (.p 3 (.p 4 (.p 5 (.q 6 (.p 7 (.p 8 (.p 9 (.p 10 (.q 11 (.e 12 (.p 13 (.p 14 (.p 15 (.p 16 (.p 17 .done)))))))))))))))))))] }
def sp_r19_Loop : Specs := [(18, s_r03_FromInt), (57, s_r19_Forest), (79, s_r19_path), (80, s_r06_Norm)]
def vc_topology_Loop : dens s_topology_Loop.args → Prop := fun (x : Int × List (Int × Int) × Int × Unit) => True ∧ ∀ (r : Int × Unit), In64 r.fst ∧ True → r.fst = netE x.fst x.snd.fst → (decide (r.fst ≠ (0 : Int)) = true → (netE x.fst x.snd.fst ≠ (0 : Int) → nilL EE = [] ∧ r.fst = netE x.fst x.snd.fst) ∧ (netE x.fst x.snd.fst = (0 : Int) → nilL EE = loopP x.fst x.snd.fst x.snd.snd.fst ∧ r.fst = loopE x.fst x.snd.fst x.snd.snd.fst)) ∧ (decide (r.fst ≠ (0 : Int)) = false → (sel (decide (x.snd.snd.fst < (0 : Int))) true (decide ((↑(List.length x.snd.fst) : Int) ≤ x.snd.snd.fst)) = true → (netE x.fst x.snd.fst ≠ (0 : Int) → nilL EE = [] ∧ (12 : Int) = netE x.fst x.snd.fst) ∧ (netE x.fst x.snd.fst = (0 : Int) → nilL EE = loopP x.fst x.snd.fst x.snd.snd.fst ∧ (12 : Int) = loopE x.fst x.snd.fst x.snd.snd.fst)) ∧ (sel (decide (x.snd.snd.fst < (0 : Int))) true (decide ((↑(List.length x.snd.fst) : Int) ≤ x.snd.snd.fst)) = false → netOk x.fst x.snd.fst ∧ ∀ (r_1 : List Int × List (List (Int × Int)) × Unit), WfI r_1.fst ∧ (List.length r_1.snd.fst ≤ 9223372036854775807 ∧ ∀ (x : List (Int × Int)), x ∈ r_1.snd.fst → x.length ≤ 9223372036854775807 ∧ ∀ (x_1 : Int × Int), x_1 ∈ x → In64 x_1.fst ∧ In64 x_1.snd) ∧ True → r_1.fst = forestF x.fst x.snd.fst ∧ r_1.snd.fst = nextT x.fst x.snd.fst → (List.Pairwise (fun (x1 x2 : Int) => x1 < x2) r_1.fst ∧ List.length r_1.fst ≤ (100000 : Nat)) ∧ ∀ (r_2 : Int × Bool × Unit), In64 r_2.fst ∧ True ∧ True → r_2.snd.fst = decide (x.snd.snd.fst ∈ r_1.fst) → (r_2.snd.fst = true → (netE x.fst x.snd.fst ≠ (0 : Int) → nilL EE = [] ∧ (20 : Int) = netE x.fst x.snd.fst) ∧ (netE x.fst x.snd.fst = (0 : Int) → nilL EE = loopP x.fst x.snd.fst x.snd.snd.fst ∧ (20 : Int) = loopE x.fst x.snd.fst x.snd.snd.fst)) ∧ (r_2.snd.fst = false → (∃ (n : Int), ∃ (ls : List Ln), netOk n ls ∧ r_1.snd.fst = nextT n ls) ∧ ∀ (r_3 : List Int × List (Int × Int) × Unit), WfI r_3.fst ∧ (List.length r_3.snd.fst ≤ 9223372036854775807 ∧ ∀ (x : Int × Int), x ∈ r_3.snd.fst → In64 x.fst ∧ In64 x.snd) ∧ True → (∀ (n : Int) (ls : List Ln), netOk n ls → r_1.snd.fst = nextT n ls → rootsP n ls r_3.fst r_3.snd.fst) → ((0 : Int) ≤ x.fst ∧ x.fst ≤ x.fst ∧ (↑(8 : Nat) : Int) * x.fst ≤ (281474976710656 : Int) ∧ x.fst ≤ (9223372036854775807 : Int)) ∧ ∃ (I : Int × List Int × Unit → Prop), ∃ (μ : Int × List Int × Unit → Nat), I ((0 : Int), List.replicate (Int.toNat x.fst) (0 : Int), ()) ∧ ∀ (p : Int × List Int × Unit), In64 p.fst ∧ WfI p.snd.fst ∧ True → I p → (decide (p.fst < (↑(List.length r_3.fst) : Int)) = true → ((0 : Int) ≤ p.fst ∧ p.fst < (↑(List.length r_3.fst) : Int)) ∧ ((0 : Int) ≤ gx (0 : Int) r_3.fst p.fst ∧ gx (0 : Int) r_3.fst p.fst < (↑(List.length p.snd.fst) : Int)) ∧ I (IntKind.i64.wrap (p.fst + (1 : Int)), List.set p.snd.fst (gx (0 : Int) r_3.fst p.fst).toNat p.fst, ()) ∧ μ (IntKind.i64.wrap (p.fst + (1 : Int)), List.set p.snd.fst (gx (0 : Int) r_3.fst p.fst).toNat p.fst, ()) < μ p) ∧ (decide (p.fst < (↑(List.length r_3.fst) : Int)) = false → True ∧ ∀ (r_4 : QQ × Unit), WfQ r_4.fst ∧ True → r_4.fst = ri (1 : Int) → ((0 : Int) ≤ x.snd.snd.fst ∧ x.snd.snd.fst < (↑(List.length x.snd.fst) : Int)) ∧ ((0 : Int) ≤ (1 : Int) ∧ (1 : Int) < (↑(2 : Nat) : Int)) ∧ ((0 : Int) ≤ x.snd.snd.fst ∧ x.snd.snd.fst < (↑(List.length x.snd.fst) : Int)) ∧ ((0 : Int) ≤ (0 : Int) ∧ (0 : Int) < (↑(2 : Nat) : Int)) ∧ ∃ (I : Int × Int × List EE × Unit → Prop), ∃ (μ : Int × Int × List EE × Unit → Nat), I ((gx ((0 : Int), (0 : Int)) x.snd.fst x.snd.snd.fst).snd, (gx ((0 : Int), (0 : Int)) x.snd.fst x.snd.snd.fst).fst, [(x.snd.snd.fst, r_4.fst)], ()) ∧ ∀ (p_1 : Int × Int × List EE × Unit), In64 p_1.fst ∧ In64 p_1.snd.fst ∧ WfEs p_1.snd.snd.fst ∧ True → I p_1 → (decide (p_1.fst ≠ p_1.snd.fst) = true → ((0 : Int) ≤ p_1.fst ∧ p_1.fst < (↑(List.length p.snd.fst) : Int)) ∧ ((0 : Int) ≤ p_1.snd.fst ∧ p_1.snd.fst < (↑(List.length p.snd.fst) : Int)) ∧ (decide (List.getD p.snd.fst (Int.toNat p_1.snd.fst) (0 : Int) < List.getD p.snd.fst (Int.toNat p_1.fst) (0 : Int)) = true → ((0 : Int) ≤ p_1.fst ∧ p_1.fst < (↑(List.length r_3.snd.fst) : Int)) ∧ ((0 : Int) ≤ (0 : Int) ∧ (0 : Int) < (↑(2 : Nat) : Int)) ∧ ∃ (J : Int × Unit → Prop), (((0 : Int) ≤ (gx ((0 : Int), (0 : Int)) r_3.snd.fst p_1.fst).fst ∧ (gx ((0 : Int), (0 : Int)) r_3.snd.fst p_1.fst).fst < (↑(List.length x.snd.fst) : Int)) ∧ ((0 : Int) ≤ (0 : Int) ∧ (0 : Int) < (↑(2 : Nat) : Int)) ∧ (decide ((gx ((0 : Int), (0 : Int)) x.snd.fst (gx ((0 : Int), (0 : Int)) r_3.snd.fst p_1.fst).fst).fst = p_1.fst) = true → J ((1 : Int), ())) ∧ (decide ((gx ((0 : Int), (0 : Int)) x.snd.fst (gx ((0 : Int), (0 : Int)) r_3.snd.fst p_1.fst).fst).fst = p_1.fst) = false → J ((-1 : Int), ()))) ∧ ∀ (p : Int × Unit), In64 p.fst ∧ True → J p → True ∧ ∀ (r : QQ × Unit), WfQ r.fst ∧ True → r.fst = ri p.fst → ((List.length p_1.snd.snd.fst + [((gx ((0 : Int), (0 : Int)) r_3.snd.fst p_1.fst).fst, r.fst)].length) * (64 : Nat) ≤ (140737488355328 : Nat) ∧ List.length p_1.snd.snd.fst + [((gx ((0 : Int), (0 : Int)) r_3.snd.fst p_1.fst).fst, r.fst)].length ≤ 9223372036854775807) ∧ ((0 : Int) ≤ p_1.fst ∧ p_1.fst < (↑(List.length r_3.snd.fst) : Int)) ∧ ((0 : Int) ≤ (1 : Int) ∧ (1 : Int) < (↑(2 : Nat) : Int)) ∧ I ((gx ((0 : Int), (0 : Int)) r_3.snd.fst p_1.fst).snd, p_1.snd.fst, p_1.snd.snd.fst ++ [((gx ((0 : Int), (0 : Int)) r_3.snd.fst p_1.fst).fst, r.fst)], ()) ∧ μ ((gx ((0 : Int), (0 : Int)) r_3.snd.fst p_1.fst).snd, p_1.snd.fst, p_1.snd.snd.fst ++ [((gx ((0 : Int), (0 : Int)) r_3.snd.fst p_1.fst).fst, r.fst)], ()) < μ p_1) ∧ (decide (List.getD p.snd.fst (Int.toNat p_1.snd.fst) (0 : Int) < List.getD p.snd.fst (Int.toNat p_1.fst) (0 : Int)) = false → ((0 : Int) ≤ p_1.snd.fst ∧ p_1.snd.fst < (↑(List.length r_3.snd.fst) : Int)) ∧ ((0 : Int) ≤ (0 : Int) ∧ (0 : Int) < (↑(2 : Nat) : Int)) ∧ ((0 : Int) ≤ p_1.snd.fst ∧ p_1.snd.fst < (↑(List.length r_3.snd.fst) : Int)) ∧ ((0 : Int) ≤ (1 : Int) ∧ (1 : Int) < (↑(2 : Nat) : Int)) ∧ ∃ (J : Int × Unit → Prop), (((0 : Int) ≤ (gx ((0 : Int), (0 : Int)) r_3.snd.fst p_1.snd.fst).fst ∧ (gx ((0 : Int), (0 : Int)) r_3.snd.fst p_1.snd.fst).fst < (↑(List.length x.snd.fst) : Int)) ∧ ((0 : Int) ≤ (0 : Int) ∧ (0 : Int) < (↑(2 : Nat) : Int)) ∧ (decide ((gx ((0 : Int), (0 : Int)) x.snd.fst (gx ((0 : Int), (0 : Int)) r_3.snd.fst p_1.snd.fst).fst).fst = (gx ((0 : Int), (0 : Int)) r_3.snd.fst p_1.snd.fst).snd) = true → J ((1 : Int), ())) ∧ (decide ((gx ((0 : Int), (0 : Int)) x.snd.fst (gx ((0 : Int), (0 : Int)) r_3.snd.fst p_1.snd.fst).fst).fst = (gx ((0 : Int), (0 : Int)) r_3.snd.fst p_1.snd.fst).snd) = false → J ((-1 : Int), ()))) ∧ ∀ (p : Int × Unit), In64 p.fst ∧ True → J p → True ∧ ∀ (r : QQ × Unit), WfQ r.fst ∧ True → r.fst = ri p.fst → ((List.length p_1.snd.snd.fst + [((gx ((0 : Int), (0 : Int)) r_3.snd.fst p_1.snd.fst).fst, r.fst)].length) * (64 : Nat) ≤ (140737488355328 : Nat) ∧ List.length p_1.snd.snd.fst + [((gx ((0 : Int), (0 : Int)) r_3.snd.fst p_1.snd.fst).fst, r.fst)].length ≤ 9223372036854775807) ∧ ((0 : Int) ≤ p_1.snd.fst ∧ p_1.snd.fst < (↑(List.length r_3.snd.fst) : Int)) ∧ ((0 : Int) ≤ (1 : Int) ∧ (1 : Int) < (↑(2 : Nat) : Int)) ∧ I (p_1.fst, (gx ((0 : Int), (0 : Int)) r_3.snd.fst p_1.snd.fst).snd, p_1.snd.snd.fst ++ [((gx ((0 : Int), (0 : Int)) r_3.snd.fst p_1.snd.fst).fst, r.fst)], ()) ∧ μ (p_1.fst, (gx ((0 : Int), (0 : Int)) r_3.snd.fst p_1.snd.fst).snd, p_1.snd.snd.fst ++ [((gx ((0 : Int), (0 : Int)) r_3.snd.fst p_1.snd.fst).fst, r.fst)], ()) < μ p_1)) ∧ (decide (p_1.fst ≠ p_1.snd.fst) = false → (List.length p_1.snd.snd.fst ≤ (20 : Nat) ∧ (List.map (fun (x : Int × (Bool × List Int) × List Int) => x.fst) p_1.snd.snd.fst).Nodup ∧ ∀ (e : Int × (Bool × List Int) × List Int), e ∈ p_1.snd.snd.fst → e.snd = ri (1 : Int) ∨ e.snd = ri (-1 : Int)) ∧ ∀ (r : List EE × Unit), WfEs r.fst ∧ True → r.fst.Perm p_1.snd.snd.fst ∧ byIx r.fst → (netE x.fst x.snd.fst ≠ (0 : Int) → r.fst = [] ∧ (0 : Int) = netE x.fst x.snd.fst) ∧ (netE x.fst x.snd.fst = (0 : Int) → r.fst = loopP x.fst x.snd.fst x.snd.snd.fst ∧ (0 : Int) = loopE x.fst x.snd.fst x.snd.snd.fst))))))
theorem vc_topology_Loop_eq (x : dens s_topology_Loop.args) : semF ⟨Tryz.prog, tys⟩ sp_topology_Loop an_topology_Loop s_topology_Loop Tryz.f13.results.toList (Tryz.f13.body.getD .skip) x = vc_topology_Loop x := by kernel_rfl
theorem m_topology_Loop (hsp : SpOk Tryz.prog sp_topology_Loop) (h : ∀ x, awf s_topology_Loop.args x → s_topology_Loop.pre x → vc_topology_Loop x) : Meets Tryz.prog 13 s_topology_Loop := meets_vc (cx := ⟨Tryz.prog, tys⟩) (sp := sp_topology_Loop) (an := an_topology_Loop) (s := s_topology_Loop) (fn := Tryz.f13) (c := Tryz.f13.body.getD .skip) Tryz.func13 (by kernel_rfl) (Nat.le_of_ble_eq_true (by kernel_rfl)) (by kernel_rfl) tys_ok hsp vc_topology_Loop_eq h
def vc_r19_path : Nat → dens s_r19_path.args → Prop := fun (n : Nat) (x : List (Int × Int) × List Int × Int × Int × List Int × Unit) => (decide (x.snd.snd.fst = x.snd.snd.snd.fst) = true → (true = true → ∃ (p : List (Int × Int)), free x.fst x.snd.fst x.snd.snd.snd.snd.fst x.snd.snd.fst x.snd.snd.snd.fst p ∧ nilL EE = (List.map ent p).reverse) ∧ (true = false → ∀ (p : List (Int × Int)), ¬free x.fst x.snd.fst x.snd.snd.snd.snd.fst x.snd.snd.fst x.snd.snd.snd.fst p)) ∧ (decide (x.snd.snd.fst = x.snd.snd.snd.fst) = false → ∃ (I : Int × Unit → Prop), ∃ (μ : Int × Unit → Nat), I ((0 : Int), ()) ∧ ∀ (p : Int × Unit), In64 p.fst ∧ True → I p → (decide (p.fst < (↑(List.length x.snd.fst) : Int)) = true → ((0 : Int) ≤ p.fst ∧ p.fst < (↑(List.length x.snd.fst) : Int)) ∧ ∃ (I_1 : Bool × Int × Unit → Prop), ∃ (μ_1 : Bool × Int × Unit → Nat), I_1 (false, (0 : Int), ()) ∧ ∀ (p_1 : Bool × Int × Unit), True ∧ In64 p_1.snd.fst ∧ True → I_1 p_1 → (decide (p_1.snd.fst < (↑(List.length x.snd.snd.snd.snd.fst) : Int)) = true → ((0 : Int) ≤ p_1.snd.fst ∧ p_1.snd.fst < (↑(List.length x.snd.snd.snd.snd.fst) : Int)) ∧ I_1 (sel p_1.fst true (decide (gx (0 : Int) x.snd.snd.snd.snd.fst p_1.snd.fst = gx (0 : Int) x.snd.fst p.fst)), IntKind.i64.wrap (p_1.snd.fst + (1 : Int)), ()) ∧ μ_1 (sel p_1.fst true (decide (gx (0 : Int) x.snd.snd.snd.snd.fst p_1.snd.fst = gx (0 : Int) x.snd.fst p.fst)), IntKind.i64.wrap (p_1.snd.fst + (1 : Int)), ()) < μ_1 p_1) ∧ (decide (p_1.snd.fst < (↑(List.length x.snd.snd.snd.snd.fst) : Int)) = false → ∃ (I_2 : Int × Unit → Prop), ∃ (μ_2 : Int × Unit → Nat), I_2 ((0 : Int), ()) ∧ ∀ (p_2 : Int × Unit), In64 p_2.fst ∧ True → I_2 p_2 → (sel (decide (p_2.fst < (2 : Int))) (!p_1.fst) false = true → ∃ (J : Unit → Prop), (((0 : Int) ≤ gx (0 : Int) x.snd.fst p.fst ∧ gx (0 : Int) x.snd.fst p.fst < (↑(List.length x.fst) : Int)) ∧ ((0 : Int) ≤ p_2.fst ∧ p_2.fst < (↑(2 : Nat) : Int)) ∧ (decide (Bool.rec (gx ((0 : Int), (0 : Int)) x.fst (gx (0 : Int) x.snd.fst p.fst)).snd (gx ((0 : Int), (0 : Int)) x.fst (gx (0 : Int) x.snd.fst p.fst)).fst (decide (p_2.fst = (0 : Int))) ≠ x.snd.snd.fst) = true → J ()) ∧ (decide (Bool.rec (gx ((0 : Int), (0 : Int)) x.fst (gx (0 : Int) x.snd.fst p.fst)).snd (gx ((0 : Int), (0 : Int)) x.fst (gx (0 : Int) x.snd.fst p.fst)).fst (decide (p_2.fst = (0 : Int))) ≠ x.snd.snd.fst) = false → ((0 : Int) ≤ gx (0 : Int) x.snd.fst p.fst ∧ gx (0 : Int) x.snd.fst p.fst < (↑(List.length x.fst) : Int)) ∧ ((0 : Int) ≤ IntKind.i64.wrap ((1 : Int) - p_2.fst) ∧ IntKind.i64.wrap ((1 : Int) - p_2.fst) < (↑(2 : Nat) : Int)) ∧ ((((((0 : Nat) + List.length x.snd.snd.snd.snd.fst) * (8 : Nat) ≤ (140737488355328 : Nat) ∧ (0 : Nat) + List.length x.snd.snd.snd.snd.fst ≤ 9223372036854775807) ∧ ((List.length x.snd.snd.snd.snd.fst + [gx (0 : Int) x.snd.fst p.fst].length) * (8 : Nat) ≤ (140737488355328 : Nat) ∧ List.length x.snd.snd.snd.snd.fst + [gx (0 : Int) x.snd.fst p.fst].length ≤ 9223372036854775807) ∧ ((List.Nodup x.snd.fst ∧ (∀ (i : Int), i ∈ x.snd.fst → (0 : Int) ≤ i ∧ i < (↑(List.length x.fst) : Int)) ∧ (x.snd.snd.snd.snd.fst ++ [gx (0 : Int) x.snd.fst p.fst]).length + (List.filter (fun (i : Int) => decide ¬i ∈ x.snd.snd.snd.snd.fst ++ [gx (0 : Int) x.snd.fst p.fst]) x.snd.fst).length ≤ (1000 : Nat)) ∧ (List.filter (fun (i : Int) => decide ¬i ∈ x.snd.snd.snd.snd.fst ++ [gx (0 : Int) x.snd.fst p.fst]) x.snd.fst).length < n) ∧ ∀ (r : List EE × Bool × Unit), WfEs r.fst ∧ True ∧ True → (r.snd.fst = true → ∃ (p_3 : List (Int × Int)), free x.fst x.snd.fst (x.snd.snd.snd.snd.fst ++ [gx (0 : Int) x.snd.fst p.fst]) (Bool.rec (gx ((0 : Int), (0 : Int)) x.fst (gx (0 : Int) x.snd.fst p.fst)).snd (gx ((0 : Int), (0 : Int)) x.fst (gx (0 : Int) x.snd.fst p.fst)).fst (decide (IntKind.i64.wrap ((1 : Int) - p_2.fst) = (0 : Int)))) x.snd.snd.snd.fst p_3 ∧ r.fst = (List.map ent p_3).reverse) ∧ (r.snd.fst = false → ∀ (p_3 : List (Int × Int)), ¬free x.fst x.snd.fst (x.snd.snd.snd.snd.fst ++ [gx (0 : Int) x.snd.fst p.fst]) (Bool.rec (gx ((0 : Int), (0 : Int)) x.fst (gx (0 : Int) x.snd.fst p.fst)).snd (gx ((0 : Int), (0 : Int)) x.fst (gx (0 : Int) x.snd.fst p.fst)).fst (decide (IntKind.i64.wrap ((1 : Int) - p_2.fst) = (0 : Int)))) x.snd.snd.snd.fst p_3) → (r.snd.fst = true → True ∧ ∀ (r_1 : QQ × Unit), WfQ r_1.fst ∧ True → r_1.fst = ri (IntKind.i64.wrap ((1 : Int) - IntKind.i64.wrap ((2 : Int) * p_2.fst))) → ((List.length r.fst + [(gx (0 : Int) x.snd.fst p.fst, r_1.fst)].length) * (64 : Nat) ≤ (140737488355328 : Nat) ∧ List.length r.fst + [(gx (0 : Int) x.snd.fst p.fst, r_1.fst)].length ≤ 9223372036854775807) ∧ (true = true → ∃ (p_3 : List (Int × Int)), free x.fst x.snd.fst x.snd.snd.snd.snd.fst x.snd.snd.fst x.snd.snd.snd.fst p_3 ∧ r.fst ++ [(gx (0 : Int) x.snd.fst p.fst, r_1.fst)] = (List.map ent p_3).reverse) ∧ (true = false → ∀ (p : List (Int × Int)), ¬free x.fst x.snd.fst x.snd.snd.snd.snd.fst x.snd.snd.fst x.snd.snd.snd.fst p)) ∧ (r.snd.fst = false → J ())) ∧ (((0 : Nat) + List.length x.snd.snd.snd.snd.fst) * (8 : Nat) ≤ (140737488355328 : Nat) ∧ (0 : Nat) + List.length x.snd.snd.snd.snd.fst ≤ 9223372036854775807) ∧ ((List.length x.snd.snd.snd.snd.fst + [gx (0 : Int) x.snd.fst p.fst].length) * (8 : Nat) ≤ (140737488355328 : Nat) ∧ List.length x.snd.snd.snd.snd.fst + [gx (0 : Int) x.snd.fst p.fst].length ≤ 9223372036854775807) ∧ ((List.Nodup x.snd.fst ∧ (∀ (i : Int), i ∈ x.snd.fst → (0 : Int) ≤ i ∧ i < (↑(List.length x.fst) : Int)) ∧ (x.snd.snd.snd.snd.fst ++ [gx (0 : Int) x.snd.fst p.fst]).length + (List.filter (fun (i : Int) => decide ¬i ∈ x.snd.snd.snd.snd.fst ++ [gx (0 : Int) x.snd.fst p.fst]) x.snd.fst).length ≤ (1000 : Nat)) ∧ (List.filter (fun (i : Int) => decide ¬i ∈ x.snd.snd.snd.snd.fst ++ [gx (0 : Int) x.snd.fst p.fst]) x.snd.fst).length < n) ∧ ∀ (r : List EE × Bool × Unit), WfEs r.fst ∧ True ∧ True → (r.snd.fst = true → ∃ (p_3 : List (Int × Int)), free x.fst x.snd.fst (x.snd.snd.snd.snd.fst ++ [gx (0 : Int) x.snd.fst p.fst]) (Bool.rec (gx ((0 : Int), (0 : Int)) x.fst (gx (0 : Int) x.snd.fst p.fst)).snd (gx ((0 : Int), (0 : Int)) x.fst (gx (0 : Int) x.snd.fst p.fst)).fst (decide (IntKind.i64.wrap ((1 : Int) - p_2.fst) = (0 : Int)))) x.snd.snd.snd.fst p_3 ∧ r.fst = (List.map ent p_3).reverse) ∧ (r.snd.fst = false → ∀ (p_3 : List (Int × Int)), ¬free x.fst x.snd.fst (x.snd.snd.snd.snd.fst ++ [gx (0 : Int) x.snd.fst p.fst]) (Bool.rec (gx ((0 : Int), (0 : Int)) x.fst (gx (0 : Int) x.snd.fst p.fst)).snd (gx ((0 : Int), (0 : Int)) x.fst (gx (0 : Int) x.snd.fst p.fst)).fst (decide (IntKind.i64.wrap ((1 : Int) - p_2.fst) = (0 : Int)))) x.snd.snd.snd.fst p_3) → (r.snd.fst = true → True ∧ ∀ (r_1 : QQ × Unit), WfQ r_1.fst ∧ True → r_1.fst = ri (IntKind.i64.wrap ((1 : Int) - IntKind.i64.wrap ((2 : Int) * p_2.fst))) → ((List.length r.fst + [(gx (0 : Int) x.snd.fst p.fst, r_1.fst)].length) * (64 : Nat) ≤ (140737488355328 : Nat) ∧ List.length r.fst + [(gx (0 : Int) x.snd.fst p.fst, r_1.fst)].length ≤ 9223372036854775807) ∧ (true = true → ∃ (p_3 : List (Int × Int)), free x.fst x.snd.fst x.snd.snd.snd.snd.fst x.snd.snd.fst x.snd.snd.snd.fst p_3 ∧ r.fst ++ [(gx (0 : Int) x.snd.fst p.fst, r_1.fst)] = (List.map ent p_3).reverse) ∧ (true = false → ∀ (p : List (Int × Int)), ¬free x.fst x.snd.fst x.snd.snd.snd.snd.fst x.snd.snd.fst x.snd.snd.snd.fst p)) ∧ (r.snd.fst = false → J ())) ∧ (((0 : Nat) + List.length x.snd.snd.snd.snd.fst) * (8 : Nat) ≤ (140737488355328 : Nat) ∧ (0 : Nat) + List.length x.snd.snd.snd.snd.fst ≤ 9223372036854775807) ∧ ((List.length x.snd.snd.snd.snd.fst + [gx (0 : Int) x.snd.fst p.fst].length) * (8 : Nat) ≤ (140737488355328 : Nat) ∧ List.length x.snd.snd.snd.snd.fst + [gx (0 : Int) x.snd.fst p.fst].length ≤ 9223372036854775807) ∧ ((List.Nodup x.snd.fst ∧ (∀ (i : Int), i ∈ x.snd.fst → (0 : Int) ≤ i ∧ i < (↑(List.length x.fst) : Int)) ∧ (x.snd.snd.snd.snd.fst ++ [gx (0 : Int) x.snd.fst p.fst]).length + (List.filter (fun (i : Int) => decide ¬i ∈ x.snd.snd.snd.snd.fst ++ [gx (0 : Int) x.snd.fst p.fst]) x.snd.fst).length ≤ (1000 : Nat)) ∧ (List.filter (fun (i : Int) => decide ¬i ∈ x.snd.snd.snd.snd.fst ++ [gx (0 : Int) x.snd.fst p.fst]) x.snd.fst).length < n) ∧ ∀ (r : List EE × Bool × Unit), WfEs r.fst ∧ True ∧ True → (r.snd.fst = true → ∃ (p_3 : List (Int × Int)), free x.fst x.snd.fst (x.snd.snd.snd.snd.fst ++ [gx (0 : Int) x.snd.fst p.fst]) (Bool.rec (gx ((0 : Int), (0 : Int)) x.fst (gx (0 : Int) x.snd.fst p.fst)).snd (gx ((0 : Int), (0 : Int)) x.fst (gx (0 : Int) x.snd.fst p.fst)).fst (decide (IntKind.i64.wrap ((1 : Int) - p_2.fst) = (0 : Int)))) x.snd.snd.snd.fst p_3 ∧ r.fst = (List.map ent p_3).reverse) ∧ (r.snd.fst = false → ∀ (p_3 : List (Int × Int)), ¬free x.fst x.snd.fst (x.snd.snd.snd.snd.fst ++ [gx (0 : Int) x.snd.fst p.fst]) (Bool.rec (gx ((0 : Int), (0 : Int)) x.fst (gx (0 : Int) x.snd.fst p.fst)).snd (gx ((0 : Int), (0 : Int)) x.fst (gx (0 : Int) x.snd.fst p.fst)).fst (decide (IntKind.i64.wrap ((1 : Int) - p_2.fst) = (0 : Int)))) x.snd.snd.snd.fst p_3) → (r.snd.fst = true → True ∧ ∀ (r_1 : QQ × Unit), WfQ r_1.fst ∧ True → r_1.fst = ri (IntKind.i64.wrap ((1 : Int) - IntKind.i64.wrap ((2 : Int) * p_2.fst))) → ((List.length r.fst + [(gx (0 : Int) x.snd.fst p.fst, r_1.fst)].length) * (64 : Nat) ≤ (140737488355328 : Nat) ∧ List.length r.fst + [(gx (0 : Int) x.snd.fst p.fst, r_1.fst)].length ≤ 9223372036854775807) ∧ (true = true → ∃ (p_3 : List (Int × Int)), free x.fst x.snd.fst x.snd.snd.snd.snd.fst x.snd.snd.fst x.snd.snd.snd.fst p_3 ∧ r.fst ++ [(gx (0 : Int) x.snd.fst p.fst, r_1.fst)] = (List.map ent p_3).reverse) ∧ (true = false → ∀ (p : List (Int × Int)), ¬free x.fst x.snd.fst x.snd.snd.snd.snd.fst x.snd.snd.fst x.snd.snd.snd.fst p)) ∧ (r.snd.fst = false → J ())) ∧ ((((((0 : Nat) + List.length x.snd.snd.snd.snd.fst) * (8 : Nat) ≤ (140737488355328 : Nat) ∧ (0 : Nat) + List.length x.snd.snd.snd.snd.fst ≤ 9223372036854775807) ∧ ((List.length x.snd.snd.snd.snd.fst + [gx (0 : Int) x.snd.fst p.fst].length) * (8 : Nat) ≤ (140737488355328 : Nat) ∧ List.length x.snd.snd.snd.snd.fst + [gx (0 : Int) x.snd.fst p.fst].length ≤ 9223372036854775807) ∧ ((List.Nodup x.snd.fst ∧ (∀ (i : Int), i ∈ x.snd.fst → (0 : Int) ≤ i ∧ i < (↑(List.length x.fst) : Int)) ∧ (x.snd.snd.snd.snd.fst ++ [gx (0 : Int) x.snd.fst p.fst]).length + (List.filter (fun (i : Int) => decide ¬i ∈ x.snd.snd.snd.snd.fst ++ [gx (0 : Int) x.snd.fst p.fst]) x.snd.fst).length ≤ (1000 : Nat)) ∧ (List.filter (fun (i : Int) => decide ¬i ∈ x.snd.snd.snd.snd.fst ++ [gx (0 : Int) x.snd.fst p.fst]) x.snd.fst).length < n) ∧ ∀ (r : List EE × Bool × Unit), WfEs r.fst ∧ True ∧ True → (r.snd.fst = true → ∃ (p_3 : List (Int × Int)), free x.fst x.snd.fst (x.snd.snd.snd.snd.fst ++ [gx (0 : Int) x.snd.fst p.fst]) (Bool.rec (gx ((0 : Int), (0 : Int)) x.fst (gx (0 : Int) x.snd.fst p.fst)).snd (gx ((0 : Int), (0 : Int)) x.fst (gx (0 : Int) x.snd.fst p.fst)).fst (decide (IntKind.i64.wrap ((1 : Int) - p_2.fst) = (0 : Int)))) x.snd.snd.snd.fst p_3 ∧ r.fst = (List.map ent p_3).reverse) ∧ (r.snd.fst = false → ∀ (p_3 : List (Int × Int)), ¬free x.fst x.snd.fst (x.snd.snd.snd.snd.fst ++ [gx (0 : Int) x.snd.fst p.fst]) (Bool.rec (gx ((0 : Int), (0 : Int)) x.fst (gx (0 : Int) x.snd.fst p.fst)).snd (gx ((0 : Int), (0 : Int)) x.fst (gx (0 : Int) x.snd.fst p.fst)).fst (decide (IntKind.i64.wrap ((1 : Int) - p_2.fst) = (0 : Int)))) x.snd.snd.snd.fst p_3) → (r.snd.fst = true → True ∧ ∀ (r_1 : QQ × Unit), WfQ r_1.fst ∧ True → r_1.fst = ri (IntKind.i64.wrap ((1 : Int) - IntKind.i64.wrap ((2 : Int) * p_2.fst))) → ((List.length r.fst + [(gx (0 : Int) x.snd.fst p.fst, r_1.fst)].length) * (64 : Nat) ≤ (140737488355328 : Nat) ∧ List.length r.fst + [(gx (0 : Int) x.snd.fst p.fst, r_1.fst)].length ≤ 9223372036854775807) ∧ (true = true → ∃ (p_3 : List (Int × Int)), free x.fst x.snd.fst x.snd.snd.snd.snd.fst x.snd.snd.fst x.snd.snd.snd.fst p_3 ∧ r.fst ++ [(gx (0 : Int) x.snd.fst p.fst, r_1.fst)] = (List.map ent p_3).reverse) ∧ (true = false → ∀ (p : List (Int × Int)), ¬free x.fst x.snd.fst x.snd.snd.snd.snd.fst x.snd.snd.fst x.snd.snd.snd.fst p)) ∧ (r.snd.fst = false → J ())) ∧ (((0 : Nat) + List.length x.snd.snd.snd.snd.fst) * (8 : Nat) ≤ (140737488355328 : Nat) ∧ (0 : Nat) + List.length x.snd.snd.snd.snd.fst ≤ 9223372036854775807) ∧ ((List.length x.snd.snd.snd.snd.fst + [gx (0 : Int) x.snd.fst p.fst].length) * (8 : Nat) ≤ (140737488355328 : Nat) ∧ List.length x.snd.snd.snd.snd.fst + [gx (0 : Int) x.snd.fst p.fst].length ≤ 9223372036854775807) ∧ ((List.Nodup x.snd.fst ∧ (∀ (i : Int), i ∈ x.snd.fst → (0 : Int) ≤ i ∧ i < (↑(List.length x.fst) : Int)) ∧ (x.snd.snd.snd.snd.fst ++ [gx (0 : Int) x.snd.fst p.fst]).length + (List.filter (fun (i : Int) => decide ¬i ∈ x.snd.snd.snd.snd.fst ++ [gx (0 : Int) x.snd.fst p.fst]) x.snd.fst).length ≤ (1000 : Nat)) ∧ (List.filter (fun (i : Int) => decide ¬i ∈ x.snd.snd.snd.snd.fst ++ [gx (0 : Int) x.snd.fst p.fst]) x.snd.fst).length < n) ∧ ∀ (r : List EE × Bool × Unit), WfEs r.fst ∧ True ∧ True → (r.snd.fst = true → ∃ (p_3 : List (Int × Int)), free x.fst x.snd.fst (x.snd.snd.snd.snd.fst ++ [gx (0 : Int) x.snd.fst p.fst]) (Bool.rec (gx ((0 : Int), (0 : Int)) x.fst (gx (0 : Int) x.snd.fst p.fst)).snd (gx ((0 : Int), (0 : Int)) x.fst (gx (0 : Int) x.snd.fst p.fst)).fst (decide (IntKind.i64.wrap ((1 : Int) - p_2.fst) = (0 : Int)))) x.snd.snd.snd.fst p_3 ∧ r.fst = (List.map ent p_3).reverse) ∧ (r.snd.fst = false → ∀ (p_3 : List (Int × Int)), ¬free x.fst x.snd.fst (x.snd.snd.snd.snd.fst ++ [gx (0 : Int) x.snd.fst p.fst]) (Bool.rec (gx ((0 : Int), (0 : Int)) x.fst (gx (0 : Int) x.snd.fst p.fst)).snd (gx ((0 : Int), (0 : Int)) x.fst (gx (0 : Int) x.snd.fst p.fst)).fst (decide (IntKind.i64.wrap ((1 : Int) - p_2.fst) = (0 : Int)))) x.snd.snd.snd.fst p_3) → (r.snd.fst = true → True ∧ ∀ (r_1 : QQ × Unit), WfQ r_1.fst ∧ True → r_1.fst = ri (IntKind.i64.wrap ((1 : Int) - IntKind.i64.wrap ((2 : Int) * p_2.fst))) → ((List.length r.fst + [(gx (0 : Int) x.snd.fst p.fst, r_1.fst)].length) * (64 : Nat) ≤ (140737488355328 : Nat) ∧ List.length r.fst + [(gx (0 : Int) x.snd.fst p.fst, r_1.fst)].length ≤ 9223372036854775807) ∧ (true = true → ∃ (p_3 : List (Int × Int)), free x.fst x.snd.fst x.snd.snd.snd.snd.fst x.snd.snd.fst x.snd.snd.snd.fst p_3 ∧ r.fst ++ [(gx (0 : Int) x.snd.fst p.fst, r_1.fst)] = (List.map ent p_3).reverse) ∧ (true = false → ∀ (p : List (Int × Int)), ¬free x.fst x.snd.fst x.snd.snd.snd.snd.fst x.snd.snd.fst x.snd.snd.snd.fst p)) ∧ (r.snd.fst = false → J ())) ∧ ((((0 : Nat) + List.length x.snd.snd.snd.snd.fst) * (8 : Nat) ≤ (140737488355328 : Nat) ∧ (0 : Nat) + List.length x.snd.snd.snd.snd.fst ≤ 9223372036854775807) ∧ (((List.length x.snd.snd.snd.snd.fst + [gx (0 : Int) x.snd.fst p.fst].length) * (8 : Nat) ≤ (140737488355328 : Nat) ∧ List.length x.snd.snd.snd.snd.fst + [gx (0 : Int) x.snd.fst p.fst].length ≤ 9223372036854775807) ∧ ((List.Nodup x.snd.fst ∧ (∀ (i : Int), i ∈ x.snd.fst → (0 : Int) ≤ i ∧ i < (↑(List.length x.fst) : Int)) ∧ (x.snd.snd.snd.snd.fst ++ [gx (0 : Int) x.snd.fst p.fst]).length + (List.filter (fun (i : Int) => decide ¬i ∈ x.snd.snd.snd.snd.fst ++ [gx (0 : Int) x.snd.fst p.fst]) x.snd.fst).length ≤ (1000 : Nat)) ∧ (List.filter (fun (i : Int) => decide ¬i ∈ x.snd.snd.snd.snd.fst ++ [gx (0 : Int) x.snd.fst p.fst]) x.snd.fst).length < n) ∧ ∀ (r : List EE × Bool × Unit), WfEs r.fst ∧ True ∧ True → (r.snd.fst = true → ∃ (p_3 : List (Int × Int)), free x.fst x.snd.fst (x.snd.snd.snd.snd.fst ++ [gx (0 : Int) x.snd.fst p.fst]) (Bool.rec (gx ((0 : Int), (0 : Int)) x.fst (gx (0 : Int) x.snd.fst p.fst)).snd (gx ((0 : Int), (0 : Int)) x.fst (gx (0 : Int) x.snd.fst p.fst)).fst (decide (IntKind.i64.wrap ((1 : Int) - p_2.fst) = (0 : Int)))) x.snd.snd.snd.fst p_3 ∧ r.fst = (List.map ent p_3).reverse) ∧ (r.snd.fst = false → ∀ (p_3 : List (Int × Int)), ¬free x.fst x.snd.fst (x.snd.snd.snd.snd.fst ++ [gx (0 : Int) x.snd.fst p.fst]) (Bool.rec (gx ((0 : Int), (0 : Int)) x.fst (gx (0 : Int) x.snd.fst p.fst)).snd (gx ((0 : Int), (0 : Int)) x.fst (gx (0 : Int) x.snd.fst p.fst)).fst (decide (IntKind.i64.wrap ((1 : Int) - p_2.fst) = (0 : Int)))) x.snd.snd.snd.fst p_3) → (r.snd.fst = true → True ∧ ∀ (r_1 : QQ × Unit), WfQ r_1.fst ∧ True → r_1.fst = ri (IntKind.i64.wrap ((1 : Int) - IntKind.i64.wrap ((2 : Int) * p_2.fst))) → ((List.length r.fst + [(gx (0 : Int) x.snd.fst p.fst, r_1.fst)].length) * (64 : Nat) ≤ (140737488355328 : Nat) ∧ List.length r.fst + [(gx (0 : Int) x.snd.fst p.fst, r_1.fst)].length ≤ 9223372036854775807) ∧ (true = true → ∃ (p_3 : List (Int × Int)), free x.fst x.snd.fst x.snd.snd.snd.snd.fst x.snd.snd.fst x.snd.snd.snd.fst p_3 ∧ r.fst ++ [(gx (0 : Int) x.snd.fst p.fst, r_1.fst)] = (List.map ent p_3).reverse) ∧ (true = false → ∀ (p : List (Int × Int)), ¬free x.fst x.snd.fst x.snd.snd.snd.snd.fst x.snd.snd.fst x.snd.snd.snd.fst p)) ∧ (r.snd.fst = false → J ())) ∧ (((List.length x.snd.snd.snd.snd.fst + [gx (0 : Int) x.snd.fst p.fst].length) * (8 : Nat) ≤ (140737488355328 : Nat) ∧ List.length x.snd.snd.snd.snd.fst + [gx (0 : Int) x.snd.fst p.fst].length ≤ 9223372036854775807) ∧ ((List.Nodup x.snd.fst ∧ (∀ (i : Int), i ∈ x.snd.fst → (0 : Int) ≤ i ∧ i < (↑(List.length x.fst) : Int)) ∧ (x.snd.snd.snd.snd.fst ++ [gx (0 : Int) x.snd.fst p.fst]).length + (List.filter (fun (i : Int) => decide ¬i ∈ x.snd.snd.snd.snd.fst ++ [gx (0 : Int) x.snd.fst p.fst]) x.snd.fst).length ≤ (1000 : Nat)) ∧ (List.filter (fun (i : Int) => decide ¬i ∈ x.snd.snd.snd.snd.fst ++ [gx (0 : Int) x.snd.fst p.fst]) x.snd.fst).length < n) ∧ ∀ (r : List EE × Bool × Unit), WfEs r.fst ∧ True ∧ True → (r.snd.fst = true → ∃ (p_3 : List (Int × Int)), free x.fst x.snd.fst (x.snd.snd.snd.snd.fst ++ [gx (0 : Int) x.snd.fst p.fst]) (Bool.rec (gx ((0 : Int), (0 : Int)) x.fst (gx (0 : Int) x.snd.fst p.fst)).snd (gx ((0 : Int), (0 : Int)) x.fst (gx (0 : Int) x.snd.fst p.fst)).fst (decide (IntKind.i64.wrap ((1 : Int) - p_2.fst) = (0 : Int)))) x.snd.snd.snd.fst p_3 ∧ r.fst = (List.map ent p_3).reverse) ∧ (r.snd.fst = false → ∀ (p_3 : List (Int × Int)), ¬free x.fst x.snd.fst (x.snd.snd.snd.snd.fst ++ [gx (0 : Int) x.snd.fst p.fst]) (Bool.rec (gx ((0 : Int), (0 : Int)) x.fst (gx (0 : Int) x.snd.fst p.fst)).snd (gx ((0 : Int), (0 : Int)) x.fst (gx (0 : Int) x.snd.fst p.fst)).fst (decide (IntKind.i64.wrap ((1 : Int) - p_2.fst) = (0 : Int)))) x.snd.snd.snd.fst p_3) → (r.snd.fst = true → True ∧ ∀ (r_1 : QQ × Unit), WfQ r_1.fst ∧ True → r_1.fst = ri (IntKind.i64.wrap ((1 : Int) - IntKind.i64.wrap ((2 : Int) * p_2.fst))) → ((List.length r.fst + [(gx (0 : Int) x.snd.fst p.fst, r_1.fst)].length) * (64 : Nat) ≤ (140737488355328 : Nat) ∧ List.length r.fst + [(gx (0 : Int) x.snd.fst p.fst, r_1.fst)].length ≤ 9223372036854775807) ∧ (true = true → ∃ (p_3 : List (Int × Int)), free x.fst x.snd.fst x.snd.snd.snd.snd.fst x.snd.snd.fst x.snd.snd.snd.fst p_3 ∧ r.fst ++ [(gx (0 : Int) x.snd.fst p.fst, r_1.fst)] = (List.map ent p_3).reverse) ∧ (true = false → ∀ (p : List (Int × Int)), ¬free x.fst x.snd.fst x.snd.snd.snd.snd.fst x.snd.snd.fst x.snd.snd.snd.fst p)) ∧ (r.snd.fst = false → J ())) ∧ ((List.length x.snd.snd.snd.snd.fst + [gx (0 : Int) x.snd.fst p.fst].length) * (8 : Nat) ≤ (140737488355328 : Nat) ∧ List.length x.snd.snd.snd.snd.fst + [gx (0 : Int) x.snd.fst p.fst].length ≤ 9223372036854775807) ∧ ((List.Nodup x.snd.fst ∧ (∀ (i : Int), i ∈ x.snd.fst → (0 : Int) ≤ i ∧ i < (↑(List.length x.fst) : Int)) ∧ (x.snd.snd.snd.snd.fst ++ [gx (0 : Int) x.snd.fst p.fst]).length + (List.filter (fun (i : Int) => decide ¬i ∈ x.snd.snd.snd.snd.fst ++ [gx (0 : Int) x.snd.fst p.fst]) x.snd.fst).length ≤ (1000 : Nat)) ∧ (List.filter (fun (i : Int) => decide ¬i ∈ x.snd.snd.snd.snd.fst ++ [gx (0 : Int) x.snd.fst p.fst]) x.snd.fst).length < n) ∧ ∀ (r : List EE × Bool × Unit), WfEs r.fst ∧ True ∧ True → (r.snd.fst = true → ∃ (p_3 : List (Int × Int)), free x.fst x.snd.fst (x.snd.snd.snd.snd.fst ++ [gx (0 : Int) x.snd.fst p.fst]) (Bool.rec (gx ((0 : Int), (0 : Int)) x.fst (gx (0 : Int) x.snd.fst p.fst)).snd (gx ((0 : Int), (0 : Int)) x.fst (gx (0 : Int) x.snd.fst p.fst)).fst (decide (IntKind.i64.wrap ((1 : Int) - p_2.fst) = (0 : Int)))) x.snd.snd.snd.fst p_3 ∧ r.fst = (List.map ent p_3).reverse) ∧ (r.snd.fst = false → ∀ (p_3 : List (Int × Int)), ¬free x.fst x.snd.fst (x.snd.snd.snd.snd.fst ++ [gx (0 : Int) x.snd.fst p.fst]) (Bool.rec (gx ((0 : Int), (0 : Int)) x.fst (gx (0 : Int) x.snd.fst p.fst)).snd (gx ((0 : Int), (0 : Int)) x.fst (gx (0 : Int) x.snd.fst p.fst)).fst (decide (IntKind.i64.wrap ((1 : Int) - p_2.fst) = (0 : Int)))) x.snd.snd.snd.fst p_3) → (r.snd.fst = true → True ∧ ∀ (r_1 : QQ × Unit), WfQ r_1.fst ∧ True → r_1.fst = ri (IntKind.i64.wrap ((1 : Int) - IntKind.i64.wrap ((2 : Int) * p_2.fst))) → ((List.length r.fst + [(gx (0 : Int) x.snd.fst p.fst, r_1.fst)].length) * (64 : Nat) ≤ (140737488355328 : Nat) ∧ List.length r.fst + [(gx (0 : Int) x.snd.fst p.fst, r_1.fst)].length ≤ 9223372036854775807) ∧ (true = true → ∃ (p_3 : List (Int × Int)), free x.fst x.snd.fst x.snd.snd.snd.snd.fst x.snd.snd.fst x.snd.snd.snd.fst p_3 ∧ r.fst ++ [(gx (0 : Int) x.snd.fst p.fst, r_1.fst)] = (List.map ent p_3).reverse) ∧ (true = false → ∀ (p : List (Int × Int)), ¬free x.fst x.snd.fst x.snd.snd.snd.snd.fst x.snd.snd.fst x.snd.snd.snd.fst p)) ∧ (r.snd.fst = false → J ())) ∧ ((((0 : Nat) + List.length x.snd.snd.snd.snd.fst) * (8 : Nat) ≤ (140737488355328 : Nat) ∧ (0 : Nat) + List.length x.snd.snd.snd.snd.fst ≤ 9223372036854775807) ∧ ((List.length x.snd.snd.snd.snd.fst + [gx (0 : Int) x.snd.fst p.fst].length) * (8 : Nat) ≤ (140737488355328 : Nat) ∧ List.length x.snd.snd.snd.snd.fst + [gx (0 : Int) x.snd.fst p.fst].length ≤ 9223372036854775807) ∧ ((List.Nodup x.snd.fst ∧ (∀ (i : Int), i ∈ x.snd.fst → (0 : Int) ≤ i ∧ i < (↑(List.length x.fst) : Int)) ∧ (x.snd.snd.snd.snd.fst ++ [gx (0 : Int) x.snd.fst p.fst]).length + (List.filter (fun (i : Int) => decide ¬i ∈ x.snd.snd.snd.snd.fst ++ [gx (0 : Int) x.snd.fst p.fst]) x.snd.fst).length ≤ (1000 : Nat)) ∧ (List.filter (fun (i : Int) => decide ¬i ∈ x.snd.snd.snd.snd.fst ++ [gx (0 : Int) x.snd.fst p.fst]) x.snd.fst).length < n) ∧ ∀ (r : List EE × Bool × Unit), WfEs r.fst ∧ True ∧ True → (r.snd.fst = true → ∃ (p_3 : List (Int × Int)), free x.fst x.snd.fst (x.snd.snd.snd.snd.fst ++ [gx (0 : Int) x.snd.fst p.fst]) (Bool.rec (gx ((0 : Int), (0 : Int)) x.fst (gx (0 : Int) x.snd.fst p.fst)).snd (gx ((0 : Int), (0 : Int)) x.fst (gx (0 : Int) x.snd.fst p.fst)).fst (decide (IntKind.i64.wrap ((1 : Int) - p_2.fst) = (0 : Int)))) x.snd.snd.snd.fst p_3 ∧ r.fst = (List.map ent p_3).reverse) ∧ (r.snd.fst = false → ∀ (p_3 : List (Int × Int)), ¬free x.fst x.snd.fst (x.snd.snd.snd.snd.fst ++ [gx (0 : Int) x.snd.fst p.fst]) (Bool.rec (gx ((0 : Int), (0 : Int)) x.fst (gx (0 : Int) x.snd.fst p.fst)).snd (gx ((0 : Int), (0 : Int)) x.fst (gx (0 : Int) x.snd.fst p.fst)).fst (decide (IntKind.i64.wrap ((1 : Int) - p_2.fst) = (0 : Int)))) x.snd.snd.snd.fst p_3) → (r.snd.fst = true → True ∧ ∀ (r_1 : QQ × Unit), WfQ r_1.fst ∧ True → r_1.fst = ri (IntKind.i64.wrap ((1 : Int) - IntKind.i64.wrap ((2 : Int) * p_2.fst))) → ((List.length r.fst + [(gx (0 : Int) x.snd.fst p.fst, r_1.fst)].length) * (64 : Nat) ≤ (140737488355328 : Nat) ∧ List.length r.fst + [(gx (0 : Int) x.snd.fst p.fst, r_1.fst)].length ≤ 9223372036854775807) ∧ (true = true → ∃ (p_3 : List (Int × Int)), free x.fst x.snd.fst x.snd.snd.snd.snd.fst x.snd.snd.fst x.snd.snd.snd.fst p_3 ∧ r.fst ++ [(gx (0 : Int) x.snd.fst p.fst, r_1.fst)] = (List.map ent p_3).reverse) ∧ (true = false → ∀ (p : List (Int × Int)), ¬free x.fst x.snd.fst x.snd.snd.snd.snd.fst x.snd.snd.fst x.snd.snd.snd.fst p)) ∧ (r.snd.fst = false → J ())) ∧ (((0 : Nat) + List.length x.snd.snd.snd.snd.fst) * (8 : Nat) ≤ (140737488355328 : Nat) ∧ (0 : Nat) + List.length x.snd.snd.snd.snd.fst ≤ 9223372036854775807) ∧ (((List.length x.snd.snd.snd.snd.fst + [gx (0 : Int) x.snd.fst p.fst].length) * (8 : Nat) ≤ (140737488355328 : Nat) ∧ List.length x.snd.snd.snd.snd.fst + [gx (0 : Int) x.snd.fst p.fst].length ≤ 9223372036854775807) ∧ ((List.Nodup x.snd.fst ∧ (∀ (i : Int), i ∈ x.snd.fst → (0 : Int) ≤ i ∧ i < (↑(List.length x.fst) : Int)) ∧ (x.snd.snd.snd.snd.fst ++ [gx (0 : Int) x.snd.fst p.fst]).length + (List.filter (fun (i : Int) => decide ¬i ∈ x.snd.snd.snd.snd.fst ++ [gx (0 : Int) x.snd.fst p.fst]) x.snd.fst).length ≤ (1000 : Nat)) ∧ (List.filter (fun (i : Int) => decide ¬i ∈ x.snd.snd.snd.snd.fst ++ [gx (0 : Int) x.snd.fst p.fst]) x.snd.fst).length < n) ∧ ∀ (r : List EE × Bool × Unit), WfEs r.fst ∧ True ∧ True → (r.snd.fst = true → ∃ (p_3 : List (Int × Int)), free x.fst x.snd.fst (x.snd.snd.snd.snd.fst ++ [gx (0 : Int) x.snd.fst p.fst]) (Bool.rec (gx ((0 : Int), (0 : Int)) x.fst (gx (0 : Int) x.snd.fst p.fst)).snd (gx ((0 : Int), (0 : Int)) x.fst (gx (0 : Int) x.snd.fst p.fst)).fst (decide (IntKind.i64.wrap ((1 : Int) - p_2.fst) = (0 : Int)))) x.snd.snd.snd.fst p_3 ∧ r.fst = (List.map ent p_3).reverse) ∧ (r.snd.fst = false → ∀ (p_3 : List (Int × Int)), ¬free x.fst x.snd.fst (x.snd.snd.snd.snd.fst ++ [gx (0 : Int) x.snd.fst p.fst]) (Bool.rec (gx ((0 : Int), (0 : Int)) x.fst (gx (0 : Int) x.snd.fst p.fst)).snd (gx ((0 : Int), (0 : Int)) x.fst (gx (0 : Int) x.snd.fst p.fst)).fst (decide (IntKind.i64.wrap ((1 : Int) - p_2.fst) = (0 : Int)))) x.snd.snd.snd.fst p_3) → (r.snd.fst = true → True ∧ ∀ (r_1 : QQ × Unit), WfQ r_1.fst ∧ True → r_1.fst = ri (IntKind.i64.wrap ((1 : Int) - IntKind.i64.wrap ((2 : Int) * p_2.fst))) → ((List.length r.fst + [(gx (0 : Int) x.snd.fst p.fst, r_1.fst)].length) * (64 : Nat) ≤ (140737488355328 : Nat) ∧ List.length r.fst + [(gx (0 : Int) x.snd.fst p.fst, r_1.fst)].length ≤ 9223372036854775807) ∧ (true = true → ∃ (p_3 : List (Int × Int)), free x.fst x.snd.fst x.snd.snd.snd.snd.fst x.snd.snd.fst x.snd.snd.snd.fst p_3 ∧ r.fst ++ [(gx (0 : Int) x.snd.fst p.fst, r_1.fst)] = (List.map ent p_3).reverse) ∧ (true = false → ∀ (p : List (Int × Int)), ¬free x.fst x.snd.fst x.snd.snd.snd.snd.fst x.snd.snd.fst x.snd.snd.snd.fst p)) ∧ (r.snd.fst = false → J ())) ∧ ((List.length x.snd.snd.snd.snd.fst + [gx (0 : Int) x.snd.fst p.fst].length) * (8 : Nat) ≤ (140737488355328 : Nat) ∧ List.length x.snd.snd.snd.snd.fst + [gx (0 : Int) x.snd.fst p.fst].length ≤ 9223372036854775807) ∧ ((List.Nodup x.snd.fst ∧ (∀ (i : Int), i ∈ x.snd.fst → (0 : Int) ≤ i ∧ i < (↑(List.length x.fst) : Int)) ∧ (x.snd.snd.snd.snd.fst ++ [gx (0 : Int) x.snd.fst p.fst]).length + (List.filter (fun (i : Int) => decide ¬i ∈ x.snd.snd.snd.snd.fst ++ [gx (0 : Int) x.snd.fst p.fst]) x.snd.fst).length ≤ (1000 : Nat)) ∧ (List.filter (fun (i : Int) => decide ¬i ∈ x.snd.snd.snd.snd.fst ++ [gx (0 : Int) x.snd.fst p.fst]) x.snd.fst).length < n) ∧ ∀ (r : List EE × Bool × Unit), WfEs r.fst ∧ True ∧ True → (r.snd.fst = true → ∃ (p_3 : List (Int × Int)), free x.fst x.snd.fst (x.snd.snd.snd.snd.fst ++ [gx (0 : Int) x.snd.fst p.fst]) (Bool.rec (gx ((0 : Int), (0 : Int)) x.fst (gx (0 : Int) x.snd.fst p.fst)).snd (gx ((0 : Int), (0 : Int)) x.fst (gx (0 : Int) x.snd.fst p.fst)).fst (decide (IntKind.i64.wrap ((1 : Int) - p_2.fst) = (0 : Int)))) x.snd.snd.snd.fst p_3 ∧ r.fst = (List.map ent p_3).reverse) ∧ (r.snd.fst = false → ∀ (p_3 : List (Int × Int)), ¬free x.fst x.snd.fst (x.snd.snd.snd.snd.fst ++ [gx (0 : Int) x.snd.fst p.fst]) (Bool.rec (gx ((0 : Int), (0 : Int)) x.fst (gx (0 : Int) x.snd.fst p.fst)).snd (gx ((0 : Int), (0 : Int)) x.fst (gx (0 : Int) x.snd.fst p.fst)).fst (decide (IntKind.i64.wrap ((1 : Int) - p_2.fst) = (0 : Int)))) x.snd.snd.snd.fst p_3) → (r.snd.fst = true → True ∧ ∀ (r_1 : QQ × Unit), WfQ r_1.fst ∧ True → r_1.fst = ri (IntKind.i64.wrap ((1 : Int) - IntKind.i64.wrap ((2 : Int) * p_2.fst))) → ((List.length r.fst + [(gx (0 : Int) x.snd.fst p.fst, r_1.fst)].length) * (64 : Nat) ≤ (140737488355328 : Nat) ∧ List.length r.fst + [(gx (0 : Int) x.snd.fst p.fst, r_1.fst)].length ≤ 9223372036854775807) ∧ (true = true → ∃ (p_3 : List (Int × Int)), free x.fst x.snd.fst x.snd.snd.snd.snd.fst x.snd.snd.fst x.snd.snd.snd.fst p_3 ∧ r.fst ++ [(gx (0 : Int) x.snd.fst p.fst, r_1.fst)] = (List.map ent p_3).reverse) ∧ (true = false → ∀ (p : List (Int × Int)), ¬free x.fst x.snd.fst x.snd.snd.snd.snd.fst x.snd.snd.fst x.snd.snd.snd.fst p)) ∧ (r.snd.fst = false → J ())) ∧ ((((0 : Nat) + List.length x.snd.snd.snd.snd.fst) * (8 : Nat) ≤ (140737488355328 : Nat) ∧ (0 : Nat) + List.length x.snd.snd.snd.snd.fst ≤ 9223372036854775807) ∧ ((List.length x.snd.snd.snd.snd.fst + [gx (0 : Int) x.snd.fst p.fst].length) * (8 : Nat) ≤ (140737488355328 : Nat) ∧ List.length x.snd.snd.snd.snd.fst + [gx (0 : Int) x.snd.fst p.fst].length ≤ 9223372036854775807) ∧ ((List.Nodup x.snd.fst ∧ (∀ (i : Int), i ∈ x.snd.fst → (0 : Int) ≤ i ∧ i < (↑(List.length x.fst) : Int)) ∧ (x.snd.snd.snd.snd.fst ++ [gx (0 : Int) x.snd.fst p.fst]).length + (List.filter (fun (i : Int) => decide ¬i ∈ x.snd.snd.snd.snd.fst ++ [gx (0 : Int) x.snd.fst p.fst]) x.snd.fst).length ≤ (1000 : Nat)) ∧ (List.filter (fun (i : Int) => decide ¬i ∈ x.snd.snd.snd.snd.fst ++ [gx (0 : Int) x.snd.fst p.fst]) x.snd.fst).length < n) ∧ ∀ (r : List EE × Bool × Unit), WfEs r.fst ∧ True ∧ True → (r.snd.fst = true → ∃ (p_3 : List (Int × Int)), free x.fst x.snd.fst (x.snd.snd.snd.snd.fst ++ [gx (0 : Int) x.snd.fst p.fst]) (Bool.rec (gx ((0 : Int), (0 : Int)) x.fst (gx (0 : Int) x.snd.fst p.fst)).snd (gx ((0 : Int), (0 : Int)) x.fst (gx (0 : Int) x.snd.fst p.fst)).fst (decide (IntKind.i64.wrap ((1 : Int) - p_2.fst) = (0 : Int)))) x.snd.snd.snd.fst p_3 ∧ r.fst = (List.map ent p_3).reverse) ∧ (r.snd.fst = false → ∀ (p_3 : List (Int × Int)), ¬free x.fst x.snd.fst (x.snd.snd.snd.snd.fst ++ [gx (0 : Int) x.snd.fst p.fst]) (Bool.rec (gx ((0 : Int), (0 : Int)) x.fst (gx (0 : Int) x.snd.fst p.fst)).snd (gx ((0 : Int), (0 : Int)) x.fst (gx (0 : Int) x.snd.fst p.fst)).fst (decide (IntKind.i64.wrap ((1 : Int) - p_2.fst) = (0 : Int)))) x.snd.snd.snd.fst p_3) → (r.snd.fst = true → True ∧ ∀ (r_1 : QQ × Unit), WfQ r_1.fst ∧ True → r_1.fst = ri (IntKind.i64.wrap ((1 : Int) - IntKind.i64.wrap ((2 : Int) * p_2.fst))) → ((List.length r.fst + [(gx (0 : Int) x.snd.fst p.fst, r_1.fst)].length) * (64 : Nat) ≤ (140737488355328 : Nat) ∧ List.length r.fst + [(gx (0 : Int) x.snd.fst p.fst, r_1.fst)].length ≤ 9223372036854775807) ∧ (true = true → ∃ (p_3 : List (Int × Int)), free x.fst x.snd.fst x.snd.snd.snd.snd.fst x.snd.snd.fst x.snd.snd.snd.fst p_3 ∧ r.fst ++ [(gx (0 : Int) x.snd.fst p.fst, r_1.fst)] = (List.map ent p_3).reverse) ∧ (true = false → ∀ (p : List (Int × Int)), ¬free x.fst x.snd.fst x.snd.snd.snd.snd.fst x.snd.snd.fst x.snd.snd.snd.fst p)) ∧ (r.snd.fst = false → J ())) ∧ ((((0 : Nat) + List.length x.snd.snd.snd.snd.fst) * (8 : Nat) ≤ (140737488355328 : Nat) ∧ (0 : Nat) + List.length x.snd.snd.snd.snd.fst ≤ 9223372036854775807) ∧ ((List.length x.snd.snd.snd.snd.fst + [gx (0 : Int) x.snd.fst p.fst].length) * (8 : Nat) ≤ (140737488355328 : Nat) ∧ List.length x.snd.snd.snd.snd.fst + [gx (0 : Int) x.snd.fst p.fst].length ≤ 9223372036854775807) ∧ ((List.Nodup x.snd.fst ∧ (∀ (i : Int), i ∈ x.snd.fst → (0 : Int) ≤ i ∧ i < (↑(List.length x.fst) : Int)) ∧ (x.snd.snd.snd.snd.fst ++ [gx (0 : Int) x.snd.fst p.fst]).length + (List.filter (fun (i : Int) => decide ¬i ∈ x.snd.snd.snd.snd.fst ++ [gx (0 : Int) x.snd.fst p.fst]) x.snd.fst).length ≤ (1000 : Nat)) ∧ (List.filter (fun (i : Int) => decide ¬i ∈ x.snd.snd.snd.snd.fst ++ [gx (0 : Int) x.snd.fst p.fst]) x.snd.fst).length < n) ∧ ∀ (r : List EE × Bool × Unit), WfEs r.fst ∧ True ∧ True → (r.snd.fst = true → ∃ (p_3 : List (Int × Int)), free x.fst x.snd.fst (x.snd.snd.snd.snd.fst ++ [gx (0 : Int) x.snd.fst p.fst]) (Bool.rec (gx ((0 : Int), (0 : Int)) x.fst (gx (0 : Int) x.snd.fst p.fst)).snd (gx ((0 : Int), (0 : Int)) x.fst (gx (0 : Int) x.snd.fst p.fst)).fst (decide (IntKind.i64.wrap ((1 : Int) - p_2.fst) = (0 : Int)))) x.snd.snd.snd.fst p_3 ∧ r.fst = (List.map ent p_3).reverse) ∧ (r.snd.fst = false → ∀ (p_3 : List (Int × Int)), ¬free x.fst x.snd.fst (x.snd.snd.snd.snd.fst ++ [gx (0 : Int) x.snd.fst p.fst]) (Bool.rec (gx ((0 : Int), (0 : Int)) x.fst (gx (0 : Int) x.snd.fst p.fst)).snd (gx ((0 : Int), (0 : Int)) x.fst (gx (0 : Int) x.snd.fst p.fst)).fst (decide (IntKind.i64.wrap ((1 : Int) - p_2.fst) = (0 : Int)))) x.snd.snd.snd.fst p_3) → (r.snd.fst = true → True ∧ ∀ (r_1 : QQ × Unit), WfQ r_1.fst ∧ True → r_1.fst = ri (IntKind.i64.wrap ((1 : Int) - IntKind.i64.wrap ((2 : Int) * p_2.fst))) → ((List.length r.fst + [(gx (0 : Int) x.snd.fst p.fst, r_1.fst)].length) * (64 : Nat) ≤ (140737488355328 : Nat) ∧ List.length r.fst + [(gx (0 : Int) x.snd.fst p.fst, r_1.fst)].length ≤ 9223372036854775807) ∧ (true = true → ∃ (p_3 : List (Int × Int)), free x.fst x.snd.fst x.snd.snd.snd.snd.fst x.snd.snd.fst x.snd.snd.snd.fst p_3 ∧ r.fst ++ [(gx (0 : Int) x.snd.fst p.fst, r_1.fst)] = (List.map ent p_3).reverse) ∧ (true = false → ∀ (p : List (Int × Int)), ¬free x.fst x.snd.fst x.snd.snd.snd.snd.fst x.snd.snd.fst x.snd.snd.snd.fst p)) ∧ (r.snd.fst = false → J ())) ∧ (((0 : Nat) + List.length x.snd.snd.snd.snd.fst) * (8 : Nat) ≤ (140737488355328 : Nat) ∧ (0 : Nat) + List.length x.snd.snd.snd.snd.fst ≤ 9223372036854775807) ∧ (((List.length x.snd.snd.snd.snd.fst + [gx (0 : Int) x.snd.fst p.fst].length) * (8 : Nat) ≤ (140737488355328 : Nat) ∧ List.length x.snd.snd.snd.snd.fst + [gx (0 : Int) x.snd.fst p.fst].length ≤ 9223372036854775807) ∧ ((List.Nodup x.snd.fst ∧ (∀ (i : Int), i ∈ x.snd.fst → (0 : Int) ≤ i ∧ i < (↑(List.length x.fst) : Int)) ∧ (x.snd.snd.snd.snd.fst ++ [gx (0 : Int) x.snd.fst p.fst]).length + (List.filter (fun (i : Int) => decide ¬i ∈ x.snd.snd.snd.snd.fst ++ [gx (0 : Int) x.snd.fst p.fst]) x.snd.fst).length ≤ (1000 : Nat)) ∧ (List.filter (fun (i : Int) => decide ¬i ∈ x.snd.snd.snd.snd.fst ++ [gx (0 : Int) x.snd.fst p.fst]) x.snd.fst).length < n) ∧ ∀ (r : List EE × Bool × Unit), WfEs r.fst ∧ True ∧ True → (r.snd.fst = true → ∃ (p_3 : List (Int × Int)), free x.fst x.snd.fst (x.snd.snd.snd.snd.fst ++ [gx (0 : Int) x.snd.fst p.fst]) (Bool.rec (gx ((0 : Int), (0 : Int)) x.fst (gx (0 : Int) x.snd.fst p.fst)).snd (gx ((0 : Int), (0 : Int)) x.fst (gx (0 : Int) x.snd.fst p.fst)).fst (decide (IntKind.i64.wrap ((1 : Int) - p_2.fst) = (0 : Int)))) x.snd.snd.snd.fst p_3 ∧ r.fst = (List.map ent p_3).reverse) ∧ (r.snd.fst = false → ∀ (p_3 : List (Int × Int)), ¬free x.fst x.snd.fst (x.snd.snd.snd.snd.fst ++ [gx (0 : Int) x.snd.fst p.fst]) (Bool.rec (gx ((0 : Int), (0 : Int)) x.fst (gx (0 : Int) x.snd.fst p.fst)).snd (gx ((0 : Int), (0 : Int)) x.fst (gx (0 : Int) x.snd.fst p.fst)).fst (decide (IntKind.i64.wrap ((1 : Int) - p_2.fst) = (0 : Int)))) x.snd.snd.snd.fst p_3) → (r.snd.fst = true → True ∧ ∀ (r_1 : QQ × Unit), WfQ r_1.fst ∧ True → r_1.fst = ri (IntKind.i64.wrap ((1 : Int) - IntKind.i64.wrap ((2 : Int) * p_2.fst))) → ((List.length r.fst + [(gx (0 : Int) x.snd.fst p.fst, r_1.fst)].length) * (64 : Nat) ≤ (140737488355328 : Nat) ∧ List.length r.fst + [(gx (0 : Int) x.snd.fst p.fst, r_1.fst)].length ≤ 9223372036854775807) ∧ (true = true → ∃ (p_3 : List (Int × Int)), free x.fst x.snd.fst x.snd.snd.snd.snd.fst x.snd.snd.fst x.snd.snd.snd.fst p_3 ∧ r.fst ++ [(gx (0 : Int) x.snd.fst p.fst, r_1.fst)] = (List.map ent p_3).reverse) ∧ (true = false → ∀ (p : List (Int × Int)), ¬free x.fst x.snd.fst x.snd.snd.snd.snd.fst x.snd.snd.fst x.snd.snd.snd.fst p)) ∧ (r.snd.fst = false → J ())) ∧ ((List.length x.snd.snd.snd.snd.fst + [gx (0 : Int) x.snd.fst p.fst].length) * (8 : Nat) ≤ (140737488355328 : Nat) ∧ List.length x.snd.snd.snd.snd.fst + [gx (0 : Int) x.snd.fst p.fst].length ≤ 9223372036854775807) ∧ ((List.Nodup x.snd.fst ∧ (∀ (i : Int), i ∈ x.snd.fst → (0 : Int) ≤ i ∧ i < (↑(List.length x.fst) : Int)) ∧ (x.snd.snd.snd.snd.fst ++ [gx (0 : Int) x.snd.fst p.fst]).length + (List.filter (fun (i : Int) => decide ¬i ∈ x.snd.snd.snd.snd.fst ++ [gx (0 : Int) x.snd.fst p.fst]) x.snd.fst).length ≤ (1000 : Nat)) ∧ (List.filter (fun (i : Int) => decide ¬i ∈ x.snd.snd.snd.snd.fst ++ [gx (0 : Int) x.snd.fst p.fst]) x.snd.fst).length < n) ∧ ∀ (r : List EE × Bool × Unit), WfEs r.fst ∧ True ∧ True → (r.snd.fst = true → ∃ (p_3 : List (Int × Int)), free x.fst x.snd.fst (x.snd.snd.snd.snd.fst ++ [gx (0 : Int) x.snd.fst p.fst]) (Bool.rec (gx ((0 : Int), (0 : Int)) x.fst (gx (0 : Int) x.snd.fst p.fst)).snd (gx ((0 : Int), (0 : Int)) x.fst (gx (0 : Int) x.snd.fst p.fst)).fst (decide (IntKind.i64.wrap ((1 : Int) - p_2.fst) = (0 : Int)))) x.snd.snd.snd.fst p_3 ∧ r.fst = (List.map ent p_3).reverse) ∧ (r.snd.fst = false → ∀ (p_3 : List (Int × Int)), ¬free x.fst x.snd.fst (x.snd.snd.snd.snd.fst ++ [gx (0 : Int) x.snd.fst p.fst]) (Bool.rec (gx ((0 : Int), (0 : Int)) x.fst (gx (0 : Int) x.snd.fst p.fst)).snd (gx ((0 : Int), (0 : Int)) x.fst (gx (0 : Int) x.snd.fst p.fst)).fst (decide (IntKind.i64.wrap ((1 : Int) - p_2.fst) = (0 : Int)))) x.snd.snd.snd.fst p_3) → (r.snd.fst = true → True ∧ ∀ (r_1 : QQ × Unit), WfQ r_1.fst ∧ True → r_1.fst = ri (IntKind.i64.wrap ((1 : Int) - IntKind.i64.wrap ((2 : Int) * p_2.fst))) → ((List.length r.fst + [(gx (0 : Int) x.snd.fst p.fst, r_1.fst)].length) * (64 : Nat) ≤ (140737488355328 : Nat) ∧ List.length r.fst + [(gx (0 : Int) x.snd.fst p.fst, r_1.fst)].length ≤ 9223372036854775807) ∧ (true = true → ∃ (p_3 : List (Int × Int)), free x.fst x.snd.fst x.snd.snd.snd.snd.fst x.snd.snd.fst x.snd.snd.snd.fst p_3 ∧ r.fst ++ [(gx (0 : Int) x.snd.fst p.fst, r_1.fst)] = (List.map ent p_3).reverse) ∧ (true = false → ∀ (p : List (Int × Int)), ¬free x.fst x.snd.fst x.snd.snd.snd.snd.fst x.snd.snd.fst x.snd.snd.snd.fst p)) ∧ (r.snd.fst = false → J ()))) ∧ ∀ (p : Unit), True → J p → I_2 (IntKind.i64.wrap (p_2.fst + (1 : Int)), ()) ∧ μ_2 (IntKind.i64.wrap (p_2.fst + (1 : Int)), ()) < μ_2 p_2) ∧ (sel (decide (p_2.fst < (2 : Int))) (!p_1.fst) false = false → I (IntKind.i64.wrap (p.fst + (1 : Int)), ()) ∧ μ (IntKind.i64.wrap (p.fst + (1 : Int)), ()) < μ p))) ∧ (decide (p.fst < (↑(List.length x.snd.fst) : Int)) = false → (false = true → ∃ (p : List (Int × Int)), free x.fst x.snd.fst x.snd.snd.snd.snd.fst x.snd.snd.fst x.snd.snd.snd.fst p ∧ nilL EE = (List.map ent p).reverse) ∧ (false = false → ∀ (p : List (Int × Int)), ¬free x.fst x.snd.fst x.snd.snd.snd.snd.fst x.snd.snd.fst x.snd.snd.snd.fst p)))
theorem vc_r19_path_eq (n : Nat) (x : dens s_r19_path.args) : semF ⟨Tryz.prog, tys⟩ (sp_r19_path n) an_r19_path (s_r19_pathn (n + 1)) Tryz.f79.results.toList (Tryz.f79.body.getD .skip) x = vc_r19_path n x := by kernel_rfl
theorem m_r19_path (n : Nat) (hsp : SpOk Tryz.prog (sp_r19_path n)) (h : ∀ x, awf s_r19_path.args x → (s_r19_pathn (n + 1)).pre x → vc_r19_path n x) : Meets Tryz.prog 79 (s_r19_pathn (n + 1)) := meets_vc (cx := ⟨Tryz.prog, tys⟩) (sp := sp_r19_path n) (an := an_r19_path) (s := s_r19_pathn (n + 1)) (fn := Tryz.f79) (c := Tryz.f79.body.getD .skip) Tryz.func79 (by kernel_rfl) (Nat.le_of_ble_eq_true (by kernel_rfl)) (by kernel_rfl) tys_ok hsp (vc_r19_path_eq n) h
def vc_r19_Loop : dens s_r19_Loop.args → Prop := fun (x : Int × List (Int × Int) × Int × Unit) => (sel (decide (x.snd.snd.fst < (0 : Int))) true (decide ((↑(List.length x.snd.fst) : Int) ≤ x.snd.snd.fst)) = true → nilL EE = loopP x.fst x.snd.fst x.snd.snd.fst ∧ (12 : Int) = loopE x.fst x.snd.fst x.snd.snd.fst) ∧ (sel (decide (x.snd.snd.fst < (0 : Int))) true (decide ((↑(List.length x.snd.fst) : Int) ≤ x.snd.snd.fst)) = false → (netOk x.fst x.snd.fst ∧ List.length x.snd.fst ≤ (100000 : Nat)) ∧ ∀ (r : List Int × Unit), WfI r.fst ∧ True → r.fst = forestF x.fst x.snd.fst → ∃ (I : Int × Unit → Prop), ∃ (μ : Int × Unit → Nat), I ((0 : Int), ()) ∧ ∀ (p : Int × Unit), In64 p.fst ∧ True → I p → (decide (p.fst < (↑(List.length r.fst) : Int)) = true → ((0 : Int) ≤ p.fst ∧ p.fst < (↑(List.length r.fst) : Int)) ∧ (decide (gx (0 : Int) r.fst p.fst = x.snd.snd.fst) = true → nilL EE = loopP x.fst x.snd.fst x.snd.snd.fst ∧ (20 : Int) = loopE x.fst x.snd.fst x.snd.snd.fst) ∧ (decide (gx (0 : Int) r.fst p.fst = x.snd.snd.fst) = false → I (IntKind.i64.wrap (p.fst + (1 : Int)), ()) ∧ μ (IntKind.i64.wrap (p.fst + (1 : Int)), ()) < μ p)) ∧ (decide (p.fst < (↑(List.length r.fst) : Int)) = false → ((0 : Int) ≤ x.snd.snd.fst ∧ x.snd.snd.fst < (↑(List.length x.snd.fst) : Int)) ∧ ((0 : Int) ≤ (1 : Int) ∧ (1 : Int) < (↑(2 : Nat) : Int)) ∧ ((0 : Int) ≤ x.snd.snd.fst ∧ x.snd.snd.fst < (↑(List.length x.snd.fst) : Int)) ∧ ((0 : Int) ≤ (0 : Int) ∧ (0 : Int) < (↑(2 : Nat) : Int)) ∧ (List.Nodup r.fst ∧ (∀ (i : Int), i ∈ r.fst → (0 : Int) ≤ i ∧ i < (↑(List.length x.snd.fst) : Int)) ∧ (0 : Nat) + (List.filter (fun (i : Int) => decide ¬i ∈ []) r.fst).length ≤ (1000 : Nat)) ∧ ∀ (r_1 : List EE × Bool × Unit), WfEs r_1.fst ∧ True ∧ True → (r_1.snd.fst = true → ∃ (p : List (Int × Int)), free x.snd.fst r.fst [] (gx ((0 : Int), (0 : Int)) x.snd.fst x.snd.snd.fst).snd (gx ((0 : Int), (0 : Int)) x.snd.fst x.snd.snd.fst).fst p ∧ r_1.fst = (List.map ent p).reverse) ∧ (r_1.snd.fst = false → ∀ (p : List (Int × Int)), ¬free x.snd.fst r.fst [] (gx ((0 : Int), (0 : Int)) x.snd.fst x.snd.snd.fst).snd (gx ((0 : Int), (0 : Int)) x.snd.fst x.snd.snd.fst).fst p) → True ∧ ∀ (r : QQ × Unit), WfQ r.fst ∧ True → r.fst = ri (1 : Int) → ((List.length r_1.fst + [(x.snd.snd.fst, r.fst)].length) * (64 : Nat) ≤ (140737488355328 : Nat) ∧ List.length r_1.fst + [(x.snd.snd.fst, r.fst)].length ≤ 9223372036854775807) ∧ ((r_1.fst ++ [(x.snd.snd.fst, r.fst)]).length ≤ (1000 : Nat) ∧ (List.map (fun (x : Int × (Bool × List Int) × List Int) => x.fst) (r_1.fst ++ [(x.snd.snd.fst, r.fst)])).Nodup ∧ pm (r_1.fst ++ [(x.snd.snd.fst, r.fst)])) ∧ ∀ (r_2 : List EE × Unit), WfEs r_2.fst ∧ True → r_2.fst.Perm (r_1.fst ++ [(x.snd.snd.fst, r.fst)]) ∧ byIx r_2.fst → r_2.fst = loopP x.fst x.snd.fst x.snd.snd.fst ∧ (0 : Int) = loopE x.fst x.snd.fst x.snd.snd.fst))
theorem vc_r19_Loop_eq (x : dens s_r19_Loop.args) : semF ⟨Tryz.prog, tys⟩ sp_r19_Loop an_r19_Loop s_r19_Loop Tryz.f58.results.toList (Tryz.f58.body.getD .skip) x = vc_r19_Loop x := by kernel_rfl
theorem m_r19_Loop (hsp : SpOk Tryz.prog sp_r19_Loop) (h : ∀ x, awf s_r19_Loop.args x → s_r19_Loop.pre x → vc_r19_Loop x) : Meets Tryz.prog 58 s_r19_Loop := meets_vc (cx := ⟨Tryz.prog, tys⟩) (sp := sp_r19_Loop) (an := an_r19_Loop) (s := s_r19_Loop) (fn := Tryz.f58) (c := Tryz.f58.body.getD .skip) Tryz.func58 (by kernel_rfl) (Nat.le_of_ble_eq_true (by kernel_rfl)) (by kernel_rfl) tys_ok hsp vc_r19_Loop_eq h
end Go.Proofs.YtppgpdigopffbaaGreat
namespace Go.Proofs.YtppgpdigopffbaaGreat
open Go.Vc Go.Gw
theorem loopP_out {n : Int} {ls : List Ln} {line : Int} (h : line < 0 ∨ (ls.length : Int) ≤ line) : loopP n ls line = [] ∧ loopE n ls line = 12 := by
  unfold loopP loopE
  rw [if_neg (by omega), if_neg (by omega)]; exact ⟨rfl, rfl⟩
theorem loopP_forest {n : Int} {ls : List Ln} {line : Int} (h0 : 0 ≤ line) (h1 : line < (ls.length : Int)) (h : line ∈ forestF n ls) : loopP n ls line = [] ∧ loopE n ls line = 20 := by
  unfold loopP loopE
  rw [if_pos ⟨h0, h1⟩, if_pos h, if_pos ⟨h0, h1⟩, if_pos h]; exact ⟨rfl, rfl⟩
theorem loopP_loop {n : Int} {ls : List Ln} {line : Int} (h0 : 0 ≤ line) (h1 : line < (ls.length : Int)) (h : line ∉ forestF n ls) : loopP n ls line = loopF n ls line ∧ loopE n ls line = 0 := by
  unfold loopP loopE
  rw [if_pos ⟨h0, h1⟩, if_neg h, if_pos ⟨h0, h1⟩, if_neg h]; exact ⟨rfl, rfl⟩
theorem vc_topology_Loop_ok (x : dens s_topology_Loop.args) (hw : awf s_topology_Loop.args x) (hp : s_topology_Loop.pre x) : vc_topology_Loop x := by
  obtain ⟨n, ls, line, _⟩ := x
  change Int at n line
  change List (Int × Int) at ls
  have hl : ls.length ≤ 20 := hp
  simp only [vc_topology_Loop]
  refine ⟨trivial, ?_⟩
  rintro ⟨e, _⟩ _ he
  simp only at he ⊢
  subst he
  refine ⟨fun h => ?_, fun h => ?_⟩
  · have h := of_decide_eq_true h
    exact ⟨fun _ => ⟨by trivial, by trivial⟩, fun h' => absurd h' h⟩
  have h : netE n ls = 0 := by simpa using h
  have hok := netE_ok.1 h
  obtain ⟨n0, n1, nb⟩ := id hok
  refine ⟨fun hr => ?_, fun hr => ?_⟩
  · rw [sel_or] at hr
    simp only [Bool.or_eq_true, decide_eq_true_eq] at hr
    obtain ⟨e1, e2⟩ := loopP_out (n := n) hr
    exact ⟨fun h' => absurd h h', fun _ => ⟨e1.symm, e2.symm⟩⟩
  rw [sel_or] at hr
  simp only [Bool.or_eq_false_iff, decide_eq_false_iff_not] at hr
  have l0 : 0 ≤ line := by omega
  have l1 : line < (ls.length : Int) := by omega
  refine ⟨hok, ?_⟩
  rintro ⟨F, N, _⟩ _ ⟨hF, hN⟩
  simp only at hF hN ⊢
  subst hF hN
  have hfl : (forestF n ls).length ≤ 16384 := forest_le hok (k := ls.length) (Nat.le_refl _)
  refine ⟨⟨forest_sorted n ls, by omega⟩, ?_⟩
  rintro ⟨at', inn, _⟩ _ hin
  simp only at hin ⊢
  subst hin
  refine ⟨fun hin => ?_, fun hin => ?_⟩
  · obtain ⟨e1, e2⟩ := loopP_forest l0 l1 (of_decide_eq_true hin)
    exact ⟨fun h' => absurd h h', fun _ => ⟨e1.symm, e2.symm⟩⟩
  have hnf := of_decide_eq_false hin
  refine ⟨⟨n, ls, hok, rfl⟩, ?_⟩
  rintro ⟨ord, up, _⟩ _ hR
  simp only at hR ⊢
  have hR := hR n ls hok rfl
  have hol := hR.len
  have hul := hR.ulen
  change List Int at ord
  change List (Int × Int) at up
  refine ⟨⟨n0, Int.le_refl _, by omega, by omega⟩, fun p => 0 ≤ p.1 ∧ p.1 ≤ (ord.length : Int) ∧ p.2.1.length = n.toNat ∧ ∀ (j : Nat) (b : Int), (j : Int) < p.1 → ord[j]? = some b → lat p.2.1 b = (j : Int), fun p => ((ord.length : Int) - p.1).toNat, ⟨Int.le_refl _, Int.natCast_nonneg _, by simp, fun j b hj => (by have hj : (j : Int) < 0 := hj; omega)⟩, ?_⟩
  rintro ⟨i, pl, _⟩ _ ⟨h0, h1, h2, h3⟩
  change Int at i
  change List Int at pl
  simp only at h0 h1 h2 h3 ⊢
  refine ⟨fun hi => ?_, fun hi => ?_⟩
  · have hi := of_decide_eq_true hi
    have hg := gx_get (d := (0 : Int)) (l := ord) h0 hi
    have b0 := (hR.at' _ _ hg).1
    have b1 := (hR.at' _ _ hg).2.1
    have hnd := hR.nod
    generalize gx 0 ord i = b at *
    rw [wr (by omega) (by omega)]
    refine ⟨⟨h0, hi⟩, ⟨b0, by omega⟩, ⟨by omega, by omega, by rw [List.length_set]; exact h2, fun j c hj hc => ?_⟩, by omega⟩
    have c0 := (hR.at' _ _ hc).1
    have c1 := (hR.at' _ _ hc).2.1
    rw [lat_set (by omega)]
    by_cases hcb : c.toNat = b.toNat
    · rw [if_pos hcb]
      have hcb : c = b := by omega
      subst hcb
      have hj2 : j < ord.length := by omega
      have : j = i.toNat := (List.getElem?_inj hj2 hnd).1 (hc.trans hg.symm)
      omega
    · rw [if_neg hcb]
      refine h3 j c ?_ hc
      have : j ≠ i.toNat := fun hji => hcb (by rw [hji] at hc; rw [hg] at hc; rw [Option.some.inj hc])
      omega
  have hi := of_decide_eq_false hi
  have hplc : Plc n ls up pl := plc_of hok hR fun j b hj => by
    have hjl : j < ord.length := by
      rcases Nat.lt_or_ge j ord.length with h | h
      · exact h
      · rw [List.getElem?_eq_none h] at hj; cases hj
    exact h3 j b (by omega) hj
  refine ⟨trivial, ?_⟩
  rintro ⟨one, _⟩ _ hone
  simp only at hone ⊢
  subst hone
  have hln : gx (0, 0) ls line = lnA ls line := gx_getD l0 l1
  have hst := Clb.start (up := up) (pl := pl) hok l0 l1
  refine ⟨⟨l0, l1⟩, ⟨by decide, by decide⟩, ⟨l0, l1⟩, ⟨by decide, by decide⟩, fun p => Clb n ls up pl line p.1 p.2.1 p.2.2.1, fun p => (lat pl p.1 + lat pl p.2.1).toNat, by rw [hln]; exact hst, ?_⟩
  rintro ⟨a, b, out, _⟩ _ hC
  change Int at a b
  simp only at hC ⊢
  have hlen := hC.len hok l0 l1 hnf
  obtain ⟨a0, a1, b0, b1, hlab, _⟩ := id hC
  have hua : ∀ v : Int, 0 ≤ v → v < n → gx (0, 0) up v = upA up v := fun v v0 v1 => gx_getD v0 (by omega)
  have hla : ∀ v : Int, pl.getD v.toNat 0 = lat pl v := fun v => rfl
  refine ⟨fun hab => ?_, fun hab => ?_⟩
  · have hab := of_decide_eq_true hab
    refine ⟨⟨a0, by omega⟩, ⟨b0, by omega⟩, fun hlt => ?_, fun hlt => ?_⟩
    · have hlt : lat pl b < lat pl a := of_decide_eq_true hlt
      have hnew := hC.left hok hplc hlt
      obtain ⟨c1, c2, c3, c4, c5, c6⟩ := hplc.climb hok a0 a1 b0 b1 hlab hlt
      have hm := forest_mem c1
      have hp1 := (hplc.at' a a0 a1).1
      have hp2 := (hplc.at' _ c4 c5).1
      have hp3 := (hplc.at' b b0 b1).1
      rw [hua a a0 a1]
      have hle : gx (0, 0) ls (upA up a).1 = lnA ls (upA up a).1 := gx_getD hm.1 hm.2
      rw [hle]
      refine ⟨⟨a0, by omega⟩, ⟨by decide, by decide⟩, fun p => p.1 = sgnU ls (upA up a).1 a, ⟨hm, ⟨by decide, by decide⟩, fun hs => ?_, fun hs => ?_⟩, ?_⟩
      · show (1 : Int) = _
        unfold sgnU; rw [if_pos (of_decide_eq_true hs)]
      · show (-1 : Int) = _
        unfold sgnU; rw [if_neg (of_decide_eq_false hs)]
      rintro ⟨s, _⟩ _ hs
      simp only at hs ⊢
      refine ⟨trivial, ?_⟩
      rintro ⟨r, _⟩ _ hr
      simp only at hr ⊢
      subst hr
      rw [hs]
      exact ⟨⟨by simp only [List.length_singleton]; omega, by simp only [List.length_singleton]; omega⟩, ⟨a0, by omega⟩, ⟨by decide, by decide⟩, hnew, by omega⟩
    · have hlt : ¬ lat pl b < lat pl a := of_decide_eq_false hlt
      have hlt : lat pl a < lat pl b := by
        have : lat pl a ≠ lat pl b := fun h => hab (hplc.inj a b a0 a1 b0 b1 h)
        omega
      have hnew := hC.right hok hplc hlt
      obtain ⟨c1, c2, c3, c4, c5, c6⟩ := hplc.climb hok b0 b1 a0 a1 hlab.symm hlt
      have hm := forest_mem c1
      have hp1 := (hplc.at' b b0 b1).1
      have hp2 := (hplc.at' _ c4 c5).1
      have hp3 := (hplc.at' a a0 a1).1
      rw [hua b b0 b1]
      have hle : gx (0, 0) ls (upA up b).1 = lnA ls (upA up b).1 := gx_getD hm.1 hm.2
      rw [hle]
      refine ⟨⟨b0, by omega⟩, ⟨by decide, by decide⟩, ⟨b0, by omega⟩, ⟨by decide, by decide⟩, fun p => p.1 = sgnU ls (upA up b).1 (upA up b).2, ⟨hm, ⟨by decide, by decide⟩, fun hs => ?_, fun hs => ?_⟩, ?_⟩
      · show (1 : Int) = _
        unfold sgnU; rw [if_pos (of_decide_eq_true hs)]
      · show (-1 : Int) = _
        unfold sgnU; rw [if_neg (of_decide_eq_false hs)]
      rintro ⟨s, _⟩ _ hs
      simp only at hs ⊢
      refine ⟨trivial, ?_⟩
      rintro ⟨r, _⟩ _ hr
      simp only at hr ⊢
      subst hr
      rw [hs]
      exact ⟨⟨by simp only [List.length_singleton]; omega, by simp only [List.length_singleton]; omega⟩, ⟨b0, by omega⟩, ⟨by decide, by decide⟩, hnew, by omega⟩
  · have hab : a = b := by simpa using hab
    subst hab
    obtain ⟨d1, d2, d3⟩ := hC.done hok l0 l1 hnf
    refine ⟨⟨by omega, d2, d3⟩, ?_⟩
    rintro ⟨r, _⟩ _ ⟨r1, r2⟩
    simp only at r1 r2 ⊢
    obtain ⟨e1, e2⟩ := loopP_loop (n := n) l0 l1 hnf
    exact ⟨fun h' => absurd h h', fun _ => ⟨by rw [e1]; exact byIx_eq r2 (loopF_byIx n ls line) (r1.trans d1), e2.symm⟩⟩
theorem free_len {ls : List Ln} {fo used : List Int} {u v : Int} {p : List (Int × Int)} (h : free ls fo used u v p) : p.length ≤ (fo.filter fun i => decide (i ∉ used)).length := by
  have := nodup_len h.2.2 (b := fo.filter fun i => decide (i ∉ used)) fun x hx => by
    obtain ⟨e, he, rfl⟩ := List.mem_map.1 hx
    rw [List.mem_filter]
    exact ⟨(h.2.1 e he).1, decide_eq_true (h.2.1 e he).2⟩
  rwa [List.length_map] at this
theorem filter_drop {fo used : List Int} {i : Int} (hi : i ∈ fo) (hu : i ∉ used) : (fo.filter fun j => decide (j ∉ used ++ [i])).length < (fo.filter fun j => decide (j ∉ used)).length := by
  rw [← List.countP_eq_length_filter, ← List.countP_eq_length_filter]
  induction fo with
  | nil => cases hi
  | cons a fo ih =>
    rw [List.countP_cons, List.countP_cons]
    have hle : List.countP (fun j => decide (j ∉ used ++ [i])) fo ≤ List.countP (fun j => decide (j ∉ used)) fo := List.countP_mono_left fun x _ hx => by
      have hx := of_decide_eq_true hx
      exact decide_eq_true fun h => hx (List.mem_append.2 (.inl h))
    by_cases ha : a = i
    · subst ha
      rw [if_neg (by simp), if_pos (by simpa using hu)]; omega
    · have hi2 : i ∈ fo := by
        rcases List.mem_cons.1 hi with h | h
        · exact absurd h.symm ha
        · exact h
      have := ih hi2
      have e : decide (a ∉ used ++ [i]) = decide (a ∉ used) := by
        rw [decide_eq_decide]; simp [ha]
      rw [e]; omega
theorem vc_r19_path_ok (n : Nat) (x : dens s_r19_path.args) (hw : awf s_r19_path.args x) (hp : (s_r19_pathn (n + 1)).pre x) : vc_r19_path n x := by
  obtain ⟨ls, fo, u, v, used, _⟩ := x
  have hfl : fo.length ≤ 9223372036854775807 := hw.2.1.1
  change List (Int × Int) at ls
  change List Int at fo used
  change Int at u v
  obtain ⟨⟨hnd, hr, hlen⟩, hm⟩ : (fo.Nodup ∧ (∀ i ∈ fo, 0 ≤ i ∧ i < (ls.length : Int)) ∧ used.length + (fo.filter fun i => decide (i ∉ used)).length ≤ 1000) ∧ (fo.filter fun i => decide (i ∉ used)).length < n + 1 := hp
  simp only [vc_r19_path]
  refine ⟨fun h => ⟨fun _ => ⟨[], ⟨(show u = v from of_decide_eq_true h), by simp, by simp⟩, rfl⟩, fun h => (by cases h)⟩, fun h => ?_⟩
  have huv : u ≠ v := of_decide_eq_false h
  refine ⟨fun p => 0 ≤ p.1 ∧ p.1 ≤ (fo.length : Int) ∧ ∀ i ∈ fo.take p.1.toNat, ∀ s, ∀ p, ¬ free ls fo used u v ((i, s) :: p), fun p => ((fo.length : Int) - p.1).toNat, ⟨Int.le_refl _, Int.natCast_nonneg _, by simp⟩, ?_⟩
  rintro ⟨j, _⟩ _ ⟨h0, h1, h2⟩
  change Int at j
  simp only at h0 h1 h2 ⊢
  refine ⟨fun hj => ⟨⟨h0, of_decide_eq_true hj⟩, ?_⟩, fun hj => ⟨fun h => (by cases h), fun _ p hp => ?_⟩⟩
  · have hj := of_decide_eq_true hj
    have hi : gx 0 fo j ∈ fo := gx_mem h0 hj
    have hts : fo.take (j + 1).toNat = fo.take j.toNat ++ [gx 0 fo j] := by
      rw [show (j + 1).toNat = j.toNat + 1 from by omega, List.take_add_one, gx_get (d := (0 : Int)) h0 hj]; rfl
    generalize gx 0 fo j = i at *
    obtain ⟨i0, i1⟩ := hr i hi
    refine ⟨fun p => 0 ≤ p.2.1 ∧ p.2.1 ≤ (used.length : Int) ∧ p.1 = decide (i ∈ used.take p.2.1.toNat), fun p => ((used.length : Int) - p.2.1).toNat, ⟨Int.le_refl _, Int.natCast_nonneg _, by simp⟩, ?_⟩
    rintro ⟨old, k, _⟩ _ ⟨k0, k1, k2⟩
    change Int at k
    change Bool at old
    simp only at k0 k1 k2 ⊢
    refine ⟨fun hk => ?_, fun hk => ?_⟩
    · have hk := of_decide_eq_true hk
      rw [wr (by omega) (by omega)]
      refine ⟨⟨k0, hk⟩, ⟨by omega, by omega, ?_⟩, by omega⟩
      rw [sel_or, k2, show (k + 1).toNat = k.toNat + 1 from by omega, List.take_add_one, gx_get (d := (0 : Int)) k0 hk]
      generalize gx 0 used k = y
      by_cases hy : y = i
      · simp [hy]
      · simp [hy, Ne.symm hy]
    have hk := of_decide_eq_false hk
    rw [take_all (by omega)] at k2
    subst k2
    refine ⟨fun p => 0 ≤ p.1 ∧ p.1 ≤ 2 ∧ (i ∉ used → (1 ≤ p.1 → ∀ p, ¬ free ls fo used u v ((i, 1) :: p)) ∧ (2 ≤ p.1 → ∀ p, ¬ free ls fo used u v ((i, -1) :: p))), fun p => (2 - p.1).toNat, ⟨Int.le_refl _, by show (0 : Int) ≤ 2; omega, fun _ => ⟨fun h => (by have h : (1 : Int) ≤ 0 := h; omega), fun h => (by have h : (2 : Int) ≤ 0 := h; omega)⟩⟩, ?_⟩
    rintro ⟨d, _⟩ _ ⟨d0, d1, d2⟩
    change Int at d
    simp only at d0 d1 d2 ⊢
    refine ⟨fun hd => ?_, fun hd => ?_⟩
    · rw [sel_and] at hd
      simp only [Bool.and_eq_true, decide_eq_true_eq, Bool.not_eq_true', decide_eq_false_iff_not] at hd
      obtain ⟨hd, hu⟩ := hd
      obtain ⟨q1, q2⟩ := d2 hu
      have hle : gx (0, 0) ls i = lnA ls i := gx_getD i0 i1
      rw [hle]
      have hdrop := filter_drop hi hu
      have hA : ((0 + used.length) * 8 ≤ 140737488355328 ∧ 0 + used.length ≤ 9223372036854775807) := ⟨by omega, by omega⟩
      have hB : ((used.length + [i].length) * 8 ≤ 140737488355328 ∧ used.length + [i].length ≤ 9223372036854775807) := by simp only [List.length_singleton]; exact ⟨by omega, by omega⟩
      have hP : (fo.Nodup ∧ (∀ i ∈ fo, 0 ≤ i ∧ i < (ls.length : Int)) ∧ (used ++ [i]).length + (fo.filter fun j => decide (j ∉ used ++ [i])).length ≤ 1000) ∧ (fo.filter fun j => decide (j ∉ used ++ [i])).length < n := ⟨⟨hnd, hr, by rw [List.length_append, List.length_singleton]; omega⟩, by omega⟩
      have hJ : ∀ (w s : Int), (s = 1 ∧ lnA ls i = (u, w)) ∨ (s = -1 ∧ lnA ls i = (w, u)) → ∀ (r : List Ent) (ok : Bool), (ok = true → ∃ p, free ls fo (used ++ [i]) w v p ∧ r = (p.map ent).reverse) → (ok = false → ∀ p, ¬ free ls fo (used ++ [i]) w v p) →
          (ok = true → (r.length ≤ 1000 ∧ ∃ p, free ls fo used u v p ∧ r ++ [(i, ri s)] = (p.map ent).reverse)) ∧ (ok = false → ∀ p, ¬ free ls fo used u v ((i, s) :: p)) := fun w s hs r ok h1 h2 => by
        refine ⟨fun hok => ?_, fun hok p hp => ?_⟩
        · obtain ⟨p, hp, rfl⟩ := h1 hok
          refine ⟨?_, (i, s) :: p, ⟨⟨w, hs, hp.1⟩, fun e he => ?_, ?_⟩, ?_⟩
          · rw [List.length_reverse, List.length_map]
            have := free_len hp
            omega
          · rcases List.mem_cons.1 he with rfl | he
            · exact ⟨hi, hu⟩
            · exact ⟨(hp.2.1 e he).1, fun h => (hp.2.1 e he).2 (List.mem_append.2 (.inl h))⟩
          · rw [List.map_cons, List.nodup_cons]
            refine ⟨fun hm => ?_, hp.2.2⟩
            obtain ⟨e, he, hei⟩ := List.mem_map.1 hm
            exact (hp.2.1 e he).2 (by rw [hei]; simp)
          · rw [List.map_cons, List.reverse_cons]; rfl
        · obtain ⟨⟨w', hs', hp1⟩, hp2, hp3⟩ := hp
          have hww : w' = w := by
            rcases hs with ⟨a1, a2⟩ | ⟨a1, a2⟩ <;> rcases hs' with ⟨b1, b2⟩ | ⟨b1, b2⟩
            · rw [a2] at b2; exact (Prod.mk.inj b2).2.symm
            · change s = -1 at b1; omega
            · change s = 1 at b1; omega
            · rw [a2] at b2; exact (Prod.mk.inj b2).1.symm
          subst hww
          rw [List.map_cons, List.nodup_cons] at hp3
          refine h2 hok p ⟨hp1, fun e he => ⟨(hp2 e (by simp [he])).1, fun h => ?_⟩, hp3.2⟩
          rcases List.mem_append.1 h with h | h
          · exact (hp2 e (by simp [he])).2 h
          · rw [List.mem_singleton] at h
            exact hp3.1 (List.mem_map.2 ⟨e, he, h⟩)
      have hd01 : d = 0 ∨ d = 1 := by omega
      rcases hd01 with rfl | rfl
      · have w1 : IntKind.i64.wrap (1 - 0) = 1 := by rw [wr (by omega) (by omega)]; rfl
        have w2 : IntKind.i64.wrap (1 - IntKind.i64.wrap (2 * 0)) = 1 := by rw [wr (a := 2 * 0) (by omega) (by omega), wr (by omega) (by omega)]; rfl
        have w3 : IntKind.i64.wrap (0 + 1) = 1 := by rw [wr (by omega) (by omega)]; rfl
        have t0 : decide ((0 : Int) = 0) = true := rfl
        have t1 : decide ((1 : Int) = 0) = false := rfl
        rw [w1, w2, w3, t0, t1]
        refine ⟨fun _ => ∀ p, ¬ free ls fo used u v ((i, 1) :: p), ⟨⟨i0, i1⟩, ⟨by decide, by decide⟩, fun hne => ?_, fun hne => ⟨⟨i0, i1⟩, ⟨by decide, by decide⟩, ?_⟩⟩, ?_⟩
        · intro p hp
          have hne := of_decide_eq_true hne
          obtain ⟨⟨w, hs, _⟩, _⟩ := hp
          rcases hs with ⟨_, hs⟩ | ⟨hs, _⟩
          · exact hne (by rw [hs])
          · change (1 : Int) = -1 at hs; omega
        · have he : (lnA ls i).1 = u := by simpa using hne
          have hJ := hJ (lnA ls i).2 1 (.inl ⟨rfl, by rw [← he]⟩)
          repeat' first
            | exact hA
            | exact hB
            | exact hP
            | (rintro ⟨r, ok, _⟩ _ ⟨h1, h2⟩
               obtain ⟨j1, j2⟩ := hJ r ok h1 h2
               refine ⟨fun ht => ⟨trivial, ?_⟩, j2⟩
               obtain ⟨j3, p, j4, j5⟩ := j1 ht
               rintro ⟨q, _⟩ _ hq
               simp only at hq j3 j5 ⊢
               subst hq
               exact ⟨⟨by simp only [List.length_singleton]; omega, by simp only [List.length_singleton]; omega⟩, fun _ => ⟨p, j4, j5⟩, fun h => (by cases h)⟩)
            | refine ⟨?_, ?_⟩
        · rintro _ _ hj1
          exact ⟨⟨by decide, by decide, fun _ => ⟨fun _ => hj1, fun h => (by have h : (2 : Int) ≤ 1 := h; omega)⟩⟩, by decide⟩
      · have w1 : IntKind.i64.wrap (1 - 1) = 0 := by rw [wr (by omega) (by omega)]; rfl
        have w2 : IntKind.i64.wrap (1 - IntKind.i64.wrap (2 * 1)) = -1 := by rw [wr (a := 2 * 1) (by omega) (by omega), wr (by omega) (by omega)]; rfl
        have w3 : IntKind.i64.wrap (1 + 1) = 2 := by rw [wr (by omega) (by omega)]; rfl
        have t0 : decide ((0 : Int) = 0) = true := rfl
        have t1 : decide ((1 : Int) = 0) = false := rfl
        rw [w1, w2, w3, t0, t1]
        refine ⟨fun _ => ∀ p, ¬ free ls fo used u v ((i, -1) :: p), ⟨⟨i0, i1⟩, ⟨by decide, by decide⟩, fun hne => ?_, fun hne => ⟨⟨i0, i1⟩, ⟨by decide, by decide⟩, ?_⟩⟩, ?_⟩
        · intro p hp
          have hne := of_decide_eq_true hne
          obtain ⟨⟨w, hs, _⟩, _⟩ := hp
          rcases hs with ⟨hs, _⟩ | ⟨_, hs⟩
          · change (-1 : Int) = 1 at hs; omega
          · exact hne (by rw [hs])
        · have he : (lnA ls i).2 = u := by simpa using hne
          have hJ := hJ (lnA ls i).1 (-1) (.inr ⟨rfl, by rw [← he]⟩)
          repeat' first
            | exact hA
            | exact hB
            | exact hP
            | (rintro ⟨r, ok, _⟩ _ ⟨h1, h2⟩
               obtain ⟨j1, j2⟩ := hJ r ok h1 h2
               refine ⟨fun ht => ⟨trivial, ?_⟩, j2⟩
               obtain ⟨j3, p, j4, j5⟩ := j1 ht
               rintro ⟨q, _⟩ _ hq
               simp only at hq j3 j5 ⊢
               subst hq
               exact ⟨⟨by simp only [List.length_singleton]; omega, by simp only [List.length_singleton]; omega⟩, fun _ => ⟨p, j4, j5⟩, fun h => (by cases h)⟩)
            | refine ⟨?_, ?_⟩
        · rintro _ _ hj1
          exact ⟨⟨by decide, by decide, fun hu => ⟨fun _ => q1 (by omega), fun _ => hj1⟩⟩, by decide⟩
    · rw [sel_and] at hd
      simp only [Bool.and_eq_false_iff, decide_eq_false_iff_not, Bool.not_eq_false', decide_eq_true_eq] at hd
      rw [wr (by omega) (by omega)]
      refine ⟨⟨by omega, by omega, ?_⟩, by omega⟩
      rw [hts]
      intro y hy s p hp
      rcases List.mem_append.1 hy with hy | hy
      · exact h2 y hy s p hp
      · rw [List.mem_singleton] at hy
        subst hy
        have hyu : y ∉ used := (hp.2.1 (y, s) (by simp)).2
        obtain ⟨q1, q2⟩ := d2 hyu
        have hd2 : 2 ≤ d := by
          rcases hd with hd | hd
          · omega
          · exact absurd hd hyu
        obtain ⟨w, hs, _⟩ := hp.1
        rcases hs with ⟨hs, _⟩ | ⟨hs, _⟩
        · change s = 1 at hs; subst hs; exact q1 (by omega) p hp
        · change s = -1 at hs; subst hs; exact q2 hd2 p hp
  · have hj := of_decide_eq_false hj
    rw [take_all (by omega)] at h2
    cases p with
    | nil => exact huv hp.1
    | cons e p => exact h2 e.1 (hp.2.1 e (by simp)).1 e.2 p hp
theorem vc_r19_Loop_ok (x : dens s_r19_Loop.args) (hw : awf s_r19_Loop.args x) (hp : s_r19_Loop.pre x) : vc_r19_Loop x := by
  obtain ⟨n, ls, line, _⟩ := x
  change Int at n line
  change List (Int × Int) at ls
  obtain ⟨hok, hl⟩ : netOk n ls ∧ ls.length ≤ 20 := hp
  simp only [vc_r19_Loop]
  refine ⟨fun hr => ?_, fun hr => ⟨⟨hok, by omega⟩, ?_⟩⟩
  · rw [sel_or] at hr
    simp only [Bool.or_eq_true, decide_eq_true_eq] at hr
    obtain ⟨e1, e2⟩ := loopP_out (n := n) hr
    exact ⟨e1.symm, e2.symm⟩
  rw [sel_or] at hr
  simp only [Bool.or_eq_false_iff, decide_eq_false_iff_not] at hr
  have l0 : 0 ≤ line := by omega
  have l1 : line < (ls.length : Int) := by omega
  rintro ⟨F, _⟩ _ hF
  simp only at hF ⊢
  subst hF
  have hfl : (forestF n ls).length ≤ 16384 := forest_le hok (k := ls.length) (Nat.le_refl _)
  refine ⟨fun p => 0 ≤ p.1 ∧ p.1 ≤ ((forestF n ls).length : Int) ∧ line ∉ (forestF n ls).take p.1.toNat, fun p => (((forestF n ls).length : Int) - p.1).toNat, ⟨Int.le_refl _, Int.natCast_nonneg _, by simp⟩, ?_⟩
  rintro ⟨j, _⟩ _ ⟨h0, h1, h2⟩
  change Int at j
  simp only at h0 h1 h2 ⊢
  refine ⟨fun hj => ?_, fun hj => ?_⟩
  · have hj := of_decide_eq_true hj
    refine ⟨⟨h0, hj⟩, fun he => ?_, fun he => ?_⟩
    · have he := of_decide_eq_true he
      obtain ⟨e1, e2⟩ := loopP_forest (n := n) l0 l1 (he ▸ gx_mem (d := (0 : Int)) h0 hj)
      exact ⟨e1.symm, e2.symm⟩
    · have he := of_decide_eq_false he
      rw [wr (by omega) (by omega)]
      refine ⟨⟨by omega, by omega, ?_⟩, by omega⟩
      rw [show (j + 1).toNat = j.toNat + 1 from by omega, List.take_add_one, gx_get (d := (0 : Int)) h0 hj]
      intro hm
      rcases List.mem_append.1 hm with hm | hm
      · exact h2 hm
      · simp only [Option.toList_some, List.mem_singleton] at hm
        exact he hm.symm
  have hj := of_decide_eq_false hj
  rw [take_all (by omega)] at h2
  have hin := hok.2.2 _ (lnA_mem l0 l1)
  have hway := way hok hin.2.2.1 hin.2.2.2 hin.1 hin.2.1 (labs_line hok.1 hok.2.2 (lnA_mem l0 l1)).symm
  have hln : gx (0, 0) ls line = lnA ls line := gx_getD l0 l1
  rw [hln]
  have hfsub : (forestF n ls).length ≤ 20 := by
    have := nodup_len (forest_nodup n ls) (b := (List.range ls.length).map Int.ofNat) fun x hx => by
      have := forest_mem hx
      exact List.mem_map.2 ⟨x.toNat, List.mem_range.2 (by omega), by show ((x.toNat : Nat) : Int) = x; omega⟩
    rw [List.length_map, List.length_range] at this
    omega
  refine ⟨⟨l0, l1⟩, ⟨by decide, by decide⟩, ⟨l0, l1⟩, ⟨by decide, by decide⟩, ⟨forest_nodup n ls, fun i hi => forest_mem hi, ?_⟩, ?_⟩
  · have := List.length_filter_le (fun i : Int => decide (i ∉ ([] : List Int))) (forestF n ls)
    omega
  rintro ⟨v, ok, _⟩ _ ⟨hT, hF⟩
  simp only at hT hF ⊢
  have hokT : ok = true := by
    cases ok with
    | true => rfl
    | false =>
      obtain ⟨p, hp⟩ := hway
      exact absurd hp (hF rfl p)
  obtain ⟨p, hp, hv⟩ := hT hokT
  obtain ⟨g1, g2, g3⟩ := loop_of_trail hok l0 l1 h2 hp
  refine ⟨trivial, ?_⟩
  rintro ⟨r, _⟩ _ hr
  simp only at hr ⊢
  subst hr
  have hpl := free_len hp
  have hfle := List.length_filter_le (fun i : Int => decide (i ∉ ([] : List Int))) (forestF n ls)
  have hvl : v.length ≤ 20 := by rw [hv, List.length_reverse, List.length_map]; omega
  have hperm : (v ++ [(line, ri 1)]).Perm ((line, ri 1) :: p.map ent) := by
    rw [hv]
    exact (List.perm_append_singleton _ _).trans (List.Perm.cons _ (List.reverse_perm _))
  refine ⟨⟨by simp only [List.length_singleton]; omega, by simp only [List.length_singleton]; omega⟩, ⟨by rw [List.length_append, List.length_singleton]; omega, (hperm.map _).nodup_iff.2 g2, fun e he => g3 e (hperm.mem_iff.1 he)⟩, ?_⟩
  rintro ⟨s, _⟩ _ ⟨s1, s2⟩
  simp only at s1 s2 ⊢
  obtain ⟨e1, e2⟩ := loopP_loop (n := n) l0 l1 h2
  exact ⟨by rw [e1]; exact byIx_eq s2 (loopF_byIx n ls line) (s1.trans (hperm.trans g1)), e2.symm⟩
end Go.Proofs.YtppgpdigopffbaaGreat
namespace Go.Proofs.YtppgpdigopffbaaGreat
open Go.Vc Go.Gw
def an_law19_awake : An := {}
def sp_law19_awake : Specs := [(8, s_topology_Forest), (9, s_topology_Islands), (11, s_topology_Bridges), (12, s_help_Equal_int), (13, s_topology_Loop), (18, s_r03_FromInt), (35, s_r06_Identical)]
def an_law19_agrees : An := { loop := [(14, ⟨[0, 1, 2, 16, 17, 18, 19, 20, 21, 150, 151], [], [(22, false, [.val .bool]), (152, false, [.val (.int .i64)])], [], []⟩)] }
def sp_law19_agrees : Specs := [(8, s_topology_Forest), (9, s_topology_Islands), (11, s_topology_Bridges), (12, s_help_Equal_int), (13, s_topology_Loop), (29, s_topology_Separates), (35, s_r06_Identical), (54, s_r19_Network), (55, s_r18_Islands), (56, s_r19_Bridges), (57, s_r19_Forest), (58, s_r19_Loop), (59, s_r18_Separated)]
def an_law19_TopologyExact : An := { join := [(8, ⟨[4, 11, 12, 15], [1], [], [], []⟩)] }
def sp_law19_TopologyExact : Specs := [(7, s_law19_network), (10, s_law19_awake), (23, s_make_New), (24, s_help_First_int), (25, s_make_Tape_Next), (26, s_law19_agrees), (27, s_help_First_2_int), (28, s_make_Mod)]
def vc_law19_awake : dens s_law19_awake.args → Prop := fun (x : Unit) => True ∧ ∀ (r : List Int × Int × Unit), WfI r.fst ∧ In64 r.snd.fst ∧ True → (r.fst = if netE (3 : Int) [((0 : Int), (1 : Int)), ((1 : Int), (2 : Int)), ((0 : Int), (2 : Int))] = (0 : Int) then labs (3 : Int) [((0 : Int), (1 : Int)), ((1 : Int), (2 : Int)), ((0 : Int), (2 : Int))] else []) ∧ r.snd.fst = netE (3 : Int) [((0 : Int), (1 : Int)), ((1 : Int), (2 : Int)), ((0 : Int), (2 : Int))] → True ∧ ∀ (r_1 : List Int × Int × Unit), WfI r_1.fst ∧ In64 r_1.snd.fst ∧ True → (r_1.fst = if netE (3 : Int) [((0 : Int), (1 : Int)), ((1 : Int), (2 : Int)), ((0 : Int), (2 : Int))] = (0 : Int) then forestF (3 : Int) [((0 : Int), (1 : Int)), ((1 : Int), (2 : Int)), ((0 : Int), (2 : Int))] else []) ∧ r_1.snd.fst = netE (3 : Int) [((0 : Int), (1 : Int)), ((1 : Int), (2 : Int)), ((0 : Int), (2 : Int))] → ((0 : Int) ≤ (0 : Int) ∧ (0 : Int) ≤ (2 : Int) ∧ (2 : Int) ≤ (↑[((0 : Int), (1 : Int)), ((1 : Int), (2 : Int)), ((0 : Int), (2 : Int))].length : Int)) ∧ (List.drop (Int.toNat (0 : Int)) (List.take (Int.toNat (2 : Int)) [((0 : Int), (1 : Int)), ((1 : Int), (2 : Int)), ((0 : Int), (2 : Int))])).length ≤ (100000 : Nat) ∧ ∀ (r_2 : List Int × Int × Unit), WfI r_2.fst ∧ In64 r_2.snd.fst ∧ True → (netE (3 : Int) (List.drop (Int.toNat (0 : Int)) (List.take (Int.toNat (2 : Int)) [((0 : Int), (1 : Int)), ((1 : Int), (2 : Int)), ((0 : Int), (2 : Int))])) ≠ (0 : Int) → r_2.fst = [] ∧ r_2.snd.fst = netE (3 : Int) (List.drop (Int.toNat (0 : Int)) (List.take (Int.toNat (2 : Int)) [((0 : Int), (1 : Int)), ((1 : Int), (2 : Int)), ((0 : Int), (2 : Int))]))) ∧ (netE (3 : Int) (List.drop (Int.toNat (0 : Int)) (List.take (Int.toNat (2 : Int)) [((0 : Int), (1 : Int)), ((1 : Int), (2 : Int)), ((0 : Int), (2 : Int))])) = (0 : Int) → r_2.fst = bridgesF (3 : Int) (List.drop (Int.toNat (0 : Int)) (List.take (Int.toNat (2 : Int)) [((0 : Int), (1 : Int)), ((1 : Int), (2 : Int)), ((0 : Int), (2 : Int))])) ∧ r_2.snd.fst = (0 : Int)) → [((0 : Int), (1 : Int)), ((1 : Int), (2 : Int)), ((0 : Int), (2 : Int))].length ≤ (20 : Nat) ∧ ∀ (r_3 : List EE × Int × Unit), WfEs r_3.fst ∧ In64 r_3.snd.fst ∧ True → (netE (3 : Int) [((0 : Int), (1 : Int)), ((1 : Int), (2 : Int)), ((0 : Int), (2 : Int))] ≠ (0 : Int) → r_3.fst = [] ∧ r_3.snd.fst = netE (3 : Int) [((0 : Int), (1 : Int)), ((1 : Int), (2 : Int)), ((0 : Int), (2 : Int))]) ∧ (netE (3 : Int) [((0 : Int), (1 : Int)), ((1 : Int), (2 : Int)), ((0 : Int), (2 : Int))] = (0 : Int) → r_3.fst = loopP (3 : Int) [((0 : Int), (1 : Int)), ((1 : Int), (2 : Int)), ((0 : Int), (2 : Int))] (2 : Int) ∧ r_3.snd.fst = loopE (3 : Int) [((0 : Int), (1 : Int)), ((1 : Int), (2 : Int)), ((0 : Int), (2 : Int))] (2 : Int)) → (sel (sel (sel (decide (r.snd.fst = (0 : Int))) (decide (r_1.snd.fst = (0 : Int))) false) (decide (r_2.snd.fst = (0 : Int))) false) (decide (r_3.snd.fst = (0 : Int))) false = true → True) ∧ ∀ (r_4 : Bool × Unit), (sel (sel (sel (decide (r.snd.fst = (0 : Int))) (decide (r_1.snd.fst = (0 : Int))) false) (decide (r_2.snd.fst = (0 : Int))) false) (decide (r_3.snd.fst = (0 : Int))) false = true → (True ∧ True) ∧ r_4.fst = decide (r.fst = [(0 : Int), (0 : Int), (0 : Int)])) → (sel (sel (sel (sel (decide (r.snd.fst = (0 : Int))) (decide (r_1.snd.fst = (0 : Int))) false) (decide (r_2.snd.fst = (0 : Int))) false) (decide (r_3.snd.fst = (0 : Int))) false) r_4.fst false = true → True) ∧ ∀ (r_5 : Bool × Unit), (sel (sel (sel (sel (decide (r.snd.fst = (0 : Int))) (decide (r_1.snd.fst = (0 : Int))) false) (decide (r_2.snd.fst = (0 : Int))) false) (decide (r_3.snd.fst = (0 : Int))) false) r_4.fst false = true → (True ∧ True) ∧ r_5.fst = decide (r_1.fst = [(0 : Int), (1 : Int)])) → (sel (sel (sel (sel (sel (decide (r.snd.fst = (0 : Int))) (decide (r_1.snd.fst = (0 : Int))) false) (decide (r_2.snd.fst = (0 : Int))) false) (decide (r_3.snd.fst = (0 : Int))) false) r_4.fst false) r_5.fst false = true → True) ∧ ∀ (r_6 : Bool × Unit), (sel (sel (sel (sel (sel (decide (r.snd.fst = (0 : Int))) (decide (r_1.snd.fst = (0 : Int))) false) (decide (r_2.snd.fst = (0 : Int))) false) (decide (r_3.snd.fst = (0 : Int))) false) r_4.fst false) r_5.fst false = true → (True ∧ True) ∧ r_6.fst = decide (r_2.fst = [(0 : Int), (1 : Int)])) → (sel (sel (sel (sel (sel (sel (decide (r.snd.fst = (0 : Int))) (decide (r_1.snd.fst = (0 : Int))) false) (decide (r_2.snd.fst = (0 : Int))) false) (decide (r_3.snd.fst = (0 : Int))) false) r_4.fst false) r_5.fst false) r_6.fst false = true → True) ∧ ∀ (r_7 : QQ × Unit), (sel (sel (sel (sel (sel (sel (decide (r.snd.fst = (0 : Int))) (decide (r_1.snd.fst = (0 : Int))) false) (decide (r_2.snd.fst = (0 : Int))) false) (decide (r_3.snd.fst = (0 : Int))) false) r_4.fst false) r_5.fst false) r_6.fst false = true → (WfQ r_7.fst ∧ True) ∧ r_7.fst = ri (-1 : Int)) → (sel (sel (sel (sel (sel (sel (decide (r.snd.fst = (0 : Int))) (decide (r_1.snd.fst = (0 : Int))) false) (decide (r_2.snd.fst = (0 : Int))) false) (decide (r_3.snd.fst = (0 : Int))) false) r_4.fst false) r_5.fst false) r_6.fst false = true → True) ∧ ∀ (r_8 : QQ × Unit), (sel (sel (sel (sel (sel (sel (decide (r.snd.fst = (0 : Int))) (decide (r_1.snd.fst = (0 : Int))) false) (decide (r_2.snd.fst = (0 : Int))) false) (decide (r_3.snd.fst = (0 : Int))) false) r_4.fst false) r_5.fst false) r_6.fst false = true → (WfQ r_8.fst ∧ True) ∧ r_8.fst = ri (-1 : Int)) → (sel (sel (sel (sel (sel (sel (decide (r.snd.fst = (0 : Int))) (decide (r_1.snd.fst = (0 : Int))) false) (decide (r_2.snd.fst = (0 : Int))) false) (decide (r_3.snd.fst = (0 : Int))) false) r_4.fst false) r_5.fst false) r_6.fst false = true → True) ∧ ∀ (r_9 : QQ × Unit), (sel (sel (sel (sel (sel (sel (decide (r.snd.fst = (0 : Int))) (decide (r_1.snd.fst = (0 : Int))) false) (decide (r_2.snd.fst = (0 : Int))) false) (decide (r_3.snd.fst = (0 : Int))) false) r_4.fst false) r_5.fst false) r_6.fst false = true → (WfQ r_9.fst ∧ True) ∧ r_9.fst = ri (1 : Int)) → (sel (sel (sel (sel (sel (sel (decide (r.snd.fst = (0 : Int))) (decide (r_1.snd.fst = (0 : Int))) false) (decide (r_2.snd.fst = (0 : Int))) false) (decide (r_3.snd.fst = (0 : Int))) false) r_4.fst false) r_5.fst false) r_6.fst false = true → ∀ (e : Int × (Bool × List Int) × List Int), e ∈ r_3.fst → whole e.snd) ∧ ∀ (r_10 : Bool × Unit), (sel (sel (sel (sel (sel (sel (decide (r.snd.fst = (0 : Int))) (decide (r_1.snd.fst = (0 : Int))) false) (decide (r_2.snd.fst = (0 : Int))) false) (decide (r_3.snd.fst = (0 : Int))) false) r_4.fst false) r_5.fst false) r_6.fst false = true → (True ∧ True) ∧ r_10.fst = decide (r_3.fst = [((0 : Int), r_7.fst), ((1 : Int), r_8.fst), ((2 : Int), r_9.fst)] ∧ ∀ (e : Int × (Bool × List Int) × List Int), e ∈ r_3.fst → e.snd = rc (rv e.snd))) → sel (sel (sel (sel (sel (sel (sel (decide (r.snd.fst = (0 : Int))) (decide (r_1.snd.fst = (0 : Int))) false) (decide (r_2.snd.fst = (0 : Int))) false) (decide (r_3.snd.fst = (0 : Int))) false) r_4.fst false) r_5.fst false) r_6.fst false) r_10.fst false = true
theorem vc_law19_awake_eq (x : dens s_law19_awake.args) : semF ⟨Tryz.prog, tys⟩ sp_law19_awake an_law19_awake s_law19_awake Tryz.f10.results.toList (Tryz.f10.body.getD .skip) x = vc_law19_awake x := by kernel_rfl
theorem m_law19_awake (hsp : SpOk Tryz.prog sp_law19_awake) (h : ∀ x, awf s_law19_awake.args x → s_law19_awake.pre x → vc_law19_awake x) : Meets Tryz.prog 10 s_law19_awake := meets_vc (cx := ⟨Tryz.prog, tys⟩) (sp := sp_law19_awake) (an := an_law19_awake) (s := s_law19_awake) (fn := Tryz.f10) (c := Tryz.f10.body.getD .skip) Tryz.func10 (by kernel_rfl) (Nat.le_of_ble_eq_true (by kernel_rfl)) (by kernel_rfl) tys_ok hsp vc_law19_awake_eq h
def vc_law19_agrees : dens s_law19_agrees.args → Prop := fun (x : Int × List (Int × Int) × List Int × Int × Unit) => True ∧ ∀ (r : Int × Unit), In64 r.fst ∧ True → r.fst = netE x.fst x.snd.fst → True ∧ ∀ (r_1 : List Int × Int × Unit), WfI r_1.fst ∧ In64 r_1.snd.fst ∧ True → (r_1.fst = if netE x.fst x.snd.fst = (0 : Int) then labs x.fst x.snd.fst else []) ∧ r_1.snd.fst = netE x.fst x.snd.fst → List.length x.snd.fst ≤ (100000 : Nat) ∧ ∀ (r_2 : List Int × Int × Unit), WfI r_2.fst ∧ In64 r_2.snd.fst ∧ True → (netE x.fst x.snd.fst ≠ (0 : Int) → r_2.fst = [] ∧ r_2.snd.fst = netE x.fst x.snd.fst) ∧ (netE x.fst x.snd.fst = (0 : Int) → r_2.fst = bridgesF x.fst x.snd.fst ∧ r_2.snd.fst = (0 : Int)) → True ∧ ∀ (r_3 : List Int × Int × Unit), WfI r_3.fst ∧ In64 r_3.snd.fst ∧ True → (r_3.fst = if netE x.fst x.snd.fst = (0 : Int) then forestF x.fst x.snd.fst else []) ∧ r_3.snd.fst = netE x.fst x.snd.fst → True ∧ ∀ (r_4 : Bool × Int × Unit), True ∧ In64 r_4.snd.fst ∧ True → sepP x.fst x.snd.fst x.snd.snd.fst r_4.fst r_4.snd.fst → List.length x.snd.fst ≤ (20 : Nat) ∧ ∀ (r_5 : List EE × Int × Unit), WfEs r_5.fst ∧ In64 r_5.snd.fst ∧ True → (netE x.fst x.snd.fst ≠ (0 : Int) → r_5.fst = [] ∧ r_5.snd.fst = netE x.fst x.snd.fst) ∧ (netE x.fst x.snd.fst = (0 : Int) → r_5.fst = loopP x.fst x.snd.fst x.snd.snd.snd.fst ∧ r_5.snd.fst = loopE x.fst x.snd.fst x.snd.snd.snd.fst) → (decide (r.fst ≠ (0 : Int)) = true → sel (sel (sel (sel (sel (sel (sel (sel (sel (decide (r_1.snd.fst = r.fst)) (decide (r_2.snd.fst = r.fst)) false) (decide (r_3.snd.fst = r.fst)) false) (decide (r_4.snd.fst = r.fst)) false) (decide (r_5.snd.fst = r.fst)) false) (decide ((↑(List.length r_1.fst) : Int) = (0 : Int))) false) (decide ((↑(List.length r_2.fst) : Int) = (0 : Int))) false) (decide ((↑(List.length r_3.fst) : Int) = (0 : Int))) false) (!r_4.fst) false) (decide ((↑(List.length r_5.fst) : Int) = (0 : Int))) false = true) ∧ (decide (r.fst ≠ (0 : Int)) = false → (sel (sel (decide (r_1.snd.fst ≠ (0 : Int))) true (decide (r_2.snd.fst ≠ (0 : Int)))) true (decide (r_3.snd.fst ≠ (0 : Int))) = false → netOk x.fst x.snd.fst) ∧ ∀ (r : List Int × Unit), (sel (sel (decide (r_1.snd.fst ≠ (0 : Int))) true (decide (r_2.snd.fst ≠ (0 : Int)))) true (decide (r_3.snd.fst ≠ (0 : Int))) = false → (WfI r.fst ∧ True) ∧ r.fst = labs x.fst x.snd.fst) → (sel (sel (decide (r_1.snd.fst ≠ (0 : Int))) true (decide (r_2.snd.fst ≠ (0 : Int)))) true (decide (r_3.snd.fst ≠ (0 : Int))) = false → True) ∧ ∀ (r_6 : Bool × Unit), (sel (sel (decide (r_1.snd.fst ≠ (0 : Int))) true (decide (r_2.snd.fst ≠ (0 : Int)))) true (decide (r_3.snd.fst ≠ (0 : Int))) = false → (True ∧ True) ∧ r_6.fst = decide (r_1.fst = r.fst)) → ((sel (sel (sel (decide (r_1.snd.fst ≠ (0 : Int))) true (decide (r_2.snd.fst ≠ (0 : Int)))) true (decide (r_3.snd.fst ≠ (0 : Int)))) true !r_6.fst) = false → netOk x.fst x.snd.fst ∧ List.length x.snd.fst ≤ (100000 : Nat)) ∧ ∀ (r : List Int × Unit), ((sel (sel (sel (decide (r_1.snd.fst ≠ (0 : Int))) true (decide (r_2.snd.fst ≠ (0 : Int)))) true (decide (r_3.snd.fst ≠ (0 : Int)))) true !r_6.fst) = false → (WfI r.fst ∧ True) ∧ r.fst = bridgesF x.fst x.snd.fst) → ((sel (sel (sel (decide (r_1.snd.fst ≠ (0 : Int))) true (decide (r_2.snd.fst ≠ (0 : Int)))) true (decide (r_3.snd.fst ≠ (0 : Int)))) true !r_6.fst) = false → True) ∧ ∀ (r_7 : Bool × Unit), ((sel (sel (sel (decide (r_1.snd.fst ≠ (0 : Int))) true (decide (r_2.snd.fst ≠ (0 : Int)))) true (decide (r_3.snd.fst ≠ (0 : Int)))) true !r_6.fst) = false → (True ∧ True) ∧ r_7.fst = decide (r_2.fst = r.fst)) → ((sel (sel (sel (sel (decide (r_1.snd.fst ≠ (0 : Int))) true (decide (r_2.snd.fst ≠ (0 : Int)))) true (decide (r_3.snd.fst ≠ (0 : Int)))) true !r_6.fst) true !r_7.fst) = false → netOk x.fst x.snd.fst ∧ List.length x.snd.fst ≤ (100000 : Nat)) ∧ ∀ (r : List Int × Unit), ((sel (sel (sel (sel (decide (r_1.snd.fst ≠ (0 : Int))) true (decide (r_2.snd.fst ≠ (0 : Int)))) true (decide (r_3.snd.fst ≠ (0 : Int)))) true !r_6.fst) true !r_7.fst) = false → (WfI r.fst ∧ True) ∧ r.fst = forestF x.fst x.snd.fst) → ((sel (sel (sel (sel (decide (r_1.snd.fst ≠ (0 : Int))) true (decide (r_2.snd.fst ≠ (0 : Int)))) true (decide (r_3.snd.fst ≠ (0 : Int)))) true !r_6.fst) true !r_7.fst) = false → True) ∧ ∀ (r_8 : Bool × Unit), ((sel (sel (sel (sel (decide (r_1.snd.fst ≠ (0 : Int))) true (decide (r_2.snd.fst ≠ (0 : Int)))) true (decide (r_3.snd.fst ≠ (0 : Int)))) true !r_6.fst) true !r_7.fst) = false → (True ∧ True) ∧ r_8.fst = decide (r_3.fst = r.fst)) → ((sel (sel (sel (sel (sel (decide (r_1.snd.fst ≠ (0 : Int))) true (decide (r_2.snd.fst ≠ (0 : Int)))) true (decide (r_3.snd.fst ≠ (0 : Int)))) true !r_6.fst) true !r_7.fst) true !r_8.fst) = true → false = true) ∧ ((sel (sel (sel (sel (sel (decide (r_1.snd.fst ≠ (0 : Int))) true (decide (r_2.snd.fst ≠ (0 : Int)))) true (decide (r_3.snd.fst ≠ (0 : Int)))) true !r_6.fst) true !r_7.fst) true !r_8.fst) = false → (netOk x.fst x.snd.fst ∧ List.length x.snd.fst ≤ (20 : Nat)) ∧ ∀ (r : List EE × Int × Unit), WfEs r.fst ∧ In64 r.snd.fst ∧ True → r.fst = loopP x.fst x.snd.fst x.snd.snd.snd.fst ∧ r.snd.fst = loopE x.fst x.snd.fst x.snd.snd.snd.fst → ∃ (I : Bool × Int × Unit → Prop), ∃ (μ : Bool × Int × Unit → Nat), I (true, (0 : Int), ()) ∧ ∀ (p : Bool × Int × Unit), True ∧ In64 p.snd.fst ∧ True → I p → (decide (p.snd.fst < (↑(List.length x.snd.snd.fst) : Int)) = true → ((0 : Int) ≤ p.snd.fst ∧ p.snd.fst < (↑(List.length x.snd.snd.fst) : Int)) ∧ I (sel (sel p.fst (decide ((0 : Int) ≤ gx (0 : Int) x.snd.snd.fst p.snd.fst)) false) (decide (gx (0 : Int) x.snd.snd.fst p.snd.fst < (↑(List.length x.snd.fst) : Int))) false, IntKind.i64.wrap (p.snd.fst + (1 : Int)), ()) ∧ μ (sel (sel p.fst (decide ((0 : Int) ≤ gx (0 : Int) x.snd.snd.fst p.snd.fst)) false) (decide (gx (0 : Int) x.snd.snd.fst p.snd.fst < (↑(List.length x.snd.fst) : Int))) false, IntKind.i64.wrap (p.snd.fst + (1 : Int)), ()) < μ p) ∧ (decide (p.snd.fst < (↑(List.length x.snd.snd.fst) : Int)) = false → ((!p.fst) = true → (sel (sel (decide (r_4.snd.fst = (12 : Int))) (!r_4.fst) false) (decide (r_5.snd.fst = r.snd.fst)) false = true → ∀ (e : Int × (Bool × List Int) × List Int), e ∈ r_5.fst → whole e.snd) ∧ ∀ (r_9 : Bool × Unit), (sel (sel (decide (r_4.snd.fst = (12 : Int))) (!r_4.fst) false) (decide (r_5.snd.fst = r.snd.fst)) false = true → (True ∧ True) ∧ r_9.fst = decide (r_5.fst = r.fst ∧ ∀ (e : Int × (Bool × List Int) × List Int), e ∈ r_5.fst → e.snd = rc (rv e.snd))) → sel (sel (sel (decide (r_4.snd.fst = (12 : Int))) (!r_4.fst) false) (decide (r_5.snd.fst = r.snd.fst)) false) r_9.fst false = true) ∧ ((!p.fst) = false → (decide (r_4.snd.fst = (0 : Int)) = true → netOk x.fst x.snd.fst ∧ List.length x.snd.fst ≤ (100000 : Nat)) ∧ ∀ (r_9 : Bool × Unit), (decide (r_4.snd.fst = (0 : Int)) = true → (True ∧ True) ∧ r_9.fst = sep x.fst x.snd.fst fun (j : Nat) => decide ((↑j : Int) ∈ x.snd.snd.fst)) → (sel (sel (decide (r_4.snd.fst = (0 : Int))) (r_4.fst == r_9.fst) false) (decide (r_5.snd.fst = r.snd.fst)) false = true → ∀ (e : Int × (Bool × List Int) × List Int), e ∈ r_5.fst → whole e.snd) ∧ ∀ (r_10 : Bool × Unit), (sel (sel (decide (r_4.snd.fst = (0 : Int))) (r_4.fst == r_9.fst) false) (decide (r_5.snd.fst = r.snd.fst)) false = true → (True ∧ True) ∧ r_10.fst = decide (r_5.fst = r.fst ∧ ∀ (e : Int × (Bool × List Int) × List Int), e ∈ r_5.fst → e.snd = rc (rv e.snd))) → sel (sel (sel (decide (r_4.snd.fst = (0 : Int))) (r_4.fst == r_9.fst) false) (decide (r_5.snd.fst = r.snd.fst)) false) r_10.fst false = true))))
theorem vc_law19_agrees_eq (x : dens s_law19_agrees.args) : semF ⟨Tryz.prog, tys⟩ sp_law19_agrees an_law19_agrees s_law19_agrees Tryz.f26.results.toList (Tryz.f26.body.getD .skip) x = vc_law19_agrees x := by kernel_rfl
theorem m_law19_agrees (hsp : SpOk Tryz.prog sp_law19_agrees) (h : ∀ x, awf s_law19_agrees.args x → s_law19_agrees.pre x → vc_law19_agrees x) : Meets Tryz.prog 26 s_law19_agrees := meets_vc (cx := ⟨Tryz.prog, tys⟩) (sp := sp_law19_agrees) (an := an_law19_agrees) (s := s_law19_agrees) (fn := Tryz.f26) (c := Tryz.f26.body.getD .skip) Tryz.func26 (by kernel_rfl) (Nat.le_of_ble_eq_true (by kernel_rfl)) (by kernel_rfl) tys_ok hsp vc_law19_agrees_eq h
def vc_law19_TopologyExact : dens s_law19_TopologyExact.args → Prop := fun (x : Int × List (Int × Int) × List Int × List Int × Int × Unit) => True ∧ ∀ (r : Int × List (Int × Int) × Unit), In64 r.fst ∧ (List.length r.snd.fst ≤ 9223372036854775807 ∧ ∀ (x : Int × Int), x ∈ r.snd.fst → In64 x.fst ∧ In64 x.snd) ∧ True → netOk r.fst r.snd.fst ∧ r.fst ≤ (7 : Int) ∧ r.snd.fst.length ≤ (12 : Nat) → True ∧ ∀ (r_1 : (List Int × Int) × Unit), (WfI r_1.fst.fst ∧ In64 r_1.fst.snd) ∧ True → r_1.fst = (x.snd.snd.fst, (0 : Int)) → (0 : Int) ≤ (20 : Int) ∧ ∀ (r_2 : List Int × Unit), WfI r_2.fst ∧ True → r_2.fst = List.take (Int.toNat (20 : Int)) x.snd.snd.fst → ((0 : Int) < IntKind.i64.wrap ((↑(List.length r.snd.fst) : Int) + (1 : Int)) ∧ (0 : Int) ≤ r_1.fst.snd ∧ r_1.fst.snd ≤ (↑(List.length r_1.fst.fst) : Int)) ∧ ∀ (r_3 : Int × Unit) (o : (List Int × Int) × Unit), In64 r_3.fst ∧ True → ((Ty.int IntKind.i64).sl.pair (Ty.int IntKind.i64)).wf o.fst ∧ True → (0 : Int) ≤ r_3.fst ∧ r_3.fst < IntKind.i64.wrap ((↑(List.length r.snd.fst) : Int) + (1 : Int)) → o.fst.fst = r_1.fst.fst ∧ (0 : Int) ≤ o.fst.snd ∧ o.fst.snd ≤ (↑(List.length r_1.fst.fst) : Int) → ((0 : Int) < IntKind.i64.wrap ((↑(List.length r.snd.fst) : Int) + (1 : Int)) ∧ (0 : Int) ≤ o.fst.snd ∧ o.fst.snd ≤ (↑(List.length o.fst.fst) : Int)) ∧ ∀ (r_4 : Int × Unit) (o_1 : (List Int × Int) × Unit), In64 r_4.fst ∧ True → ((Ty.int IntKind.i64).sl.pair (Ty.int IntKind.i64)).wf o_1.fst ∧ True → (0 : Int) ≤ r_4.fst ∧ r_4.fst < IntKind.i64.wrap ((↑(List.length r.snd.fst) : Int) + (1 : Int)) → o_1.fst.fst = o.fst.fst ∧ (0 : Int) ≤ o_1.fst.snd ∧ o_1.fst.snd ≤ (↑(List.length o.fst.fst) : Int) → ∃ (J : Unit → Prop), ((sel (sel (decide (x.fst < (0 : Int))) true (decide ((16384 : Int) < x.fst))) true (sel (decide (x.fst < (40 : Int))) (decide ((↑(List.length x.snd.fst) : Int) < (20 : Int))) false) = true → (0 : Int) ≤ (20 : Int) ∧ ∀ (r : List (Int × Int) × Unit), (List.length r.fst ≤ 9223372036854775807 ∧ ∀ (x : Int × Int), x ∈ r.fst → In64 x.fst ∧ In64 x.snd) ∧ True → r.fst = List.take (Int.toNat (20 : Int)) x.snd.fst → (List.length r.fst ≤ (20 : Nat) ∧ List.length r_2.fst ≤ (20 : Nat)) ∧ ∀ (r : Bool × Unit), True ∧ True → r.fst = true → ((!r.fst) = true → false = true) ∧ ((!r.fst) = false → J ())) ∧ (sel (sel (decide (x.fst < (0 : Int))) true (decide ((16384 : Int) < x.fst))) true (sel (decide (x.fst < (40 : Int))) (decide ((↑(List.length x.snd.fst) : Int) < (20 : Int))) false) = false → J ())) ∧ ∀ (p : Unit), True → J p → True ∧ ∀ (r_5 : Bool × Unit), True ∧ True → r_5.fst = true → (r_5.fst = true → (0 : Int) < (14 : Int)) ∧ ∀ (r_6 : Int × Unit), (r_5.fst = true → (In64 r_6.fst ∧ True) ∧ ((0 : Int) < (14 : Int) → (0 : Int) ≤ r_6.fst ∧ r_6.fst < (14 : Int))) → (r_5.fst = true → List.length r.snd.fst ≤ (20 : Nat) ∧ [r_3.fst, r_4.fst].length ≤ (20 : Nat)) ∧ ∀ (r : Bool × Unit), (r_5.fst = true → (True ∧ True) ∧ r.fst = true) → sel r_5.fst r.fst false = true
theorem vc_law19_TopologyExact_eq (x : dens s_law19_TopologyExact.args) : semF ⟨Tryz.prog, tys⟩ sp_law19_TopologyExact an_law19_TopologyExact s_law19_TopologyExact Tryz.f5.results.toList (Tryz.f5.body.getD .skip) x = vc_law19_TopologyExact x := by kernel_rfl
theorem m_law19_TopologyExact (hsp : SpOk Tryz.prog sp_law19_TopologyExact) (h : ∀ x, awf s_law19_TopologyExact.args x → s_law19_TopologyExact.pre x → vc_law19_TopologyExact x) : Meets Tryz.prog 5 s_law19_TopologyExact := meets_vc (cx := ⟨Tryz.prog, tys⟩) (sp := sp_law19_TopologyExact) (an := an_law19_TopologyExact) (s := s_law19_TopologyExact) (fn := Tryz.f5) (c := Tryz.f5.body.getD .skip) Tryz.func5 (by kernel_rfl) (Nat.le_of_ble_eq_true (by kernel_rfl)) (by kernel_rfl) tys_ok hsp vc_law19_TopologyExact_eq h
end Go.Proofs.YtppgpdigopffbaaGreat
namespace Go.Proofs.YtppgpdigopffbaaGreat
open Go.Vc Go.Gw
abbrev tri : List Ln := [(0, 1), (1, 2), (0, 2)]
theorem tri_loop : loopP 3 tri 2 = [(0, ri (-1)), (1, ri (-1)), (2, ri 1)] := by
  have e1 : loopP 3 tri 2 = loopF 3 tri 2 := by
    unfold loopP
    rw [if_pos (by decide), if_neg (by decide)]
  have c0 : loopC 3 tri 2 0 = -1 := by decide
  have c1 : loopC 3 tri 2 1 = -1 := by decide
  have c2 : loopC 3 tri 2 2 = 1 := by decide
  rw [e1]
  unfold loopF
  have er : List.range tri.length = [0, 1, 2] := by decide
  rw [er]
  simp [c0, c1, c2]
theorem vc_law19_awake_ok (x : dens s_law19_awake.args) (hw : awf s_law19_awake.args x) (_ : s_law19_awake.pre x) : vc_law19_awake x := by
  have n1 : netE 3 tri = 0 := by decide
  have e2 : (tri.take (Int.toNat 2)).drop (Int.toNat 0) = [(0, 1), (1, 2)] := rfl
  have n2 : netE 3 [(0, 1), (1, 2)] = 0 := by decide
  have l1 : labs 3 tri = [0, 0, 0] := by decide
  have f1 : forestF 3 tri = [0, 1] := by decide
  have b1 : bridgesF 3 [(0, 1), (1, 2)] = [0, 1] := by decide
  have p1 : loopE 3 tri 2 = 0 := by decide
  simp only [vc_law19_awake, e2, n1, n2, l1, f1, b1, p1, tri_loop, if_true]
  refine ⟨trivial, ?_⟩
  rintro ⟨a, e, _⟩ _ ⟨ha, he⟩
  refine ⟨trivial, ?_⟩
  rintro ⟨b, f, _⟩ _ ⟨hb, hf⟩
  refine ⟨⟨by decide, by decide, by decide⟩, by decide, ?_⟩
  rintro ⟨c, g, _⟩ _ ⟨_, hc⟩
  obtain ⟨hc, hg⟩ := hc trivial
  refine ⟨by decide, ?_⟩
  rintro ⟨v, h, _⟩ _ ⟨_, hv⟩
  obtain ⟨hv, hh⟩ := hv trivial
  simp only at ha he hb hf hc hg hv hh ⊢
  subst ha he hb hf hc hg hv hh
  refine ⟨fun _ => trivial, ?_⟩
  rintro ⟨r4, _⟩ h4
  have h4 := (h4 rfl).2
  simp only at h4
  have h4 : r4 = true := by rw [h4]; rfl
  subst h4
  refine ⟨fun _ => trivial, ?_⟩
  rintro ⟨r5, _⟩ h5
  have h5 := (h5 rfl).2
  simp only at h5
  have h5 : r5 = true := by rw [h5]; rfl
  subst h5
  refine ⟨fun _ => trivial, ?_⟩
  rintro ⟨r6, _⟩ h6
  have h6 := (h6 rfl).2
  simp only at h6
  have h6 : r6 = true := by rw [h6]; rfl
  subst h6
  refine ⟨fun _ => trivial, ?_⟩
  rintro ⟨r7, _⟩ h7
  have h7 := (h7 rfl).2
  simp only at h7
  subst h7
  refine ⟨fun _ => trivial, ?_⟩
  rintro ⟨r8, _⟩ h8
  have h8 := (h8 rfl).2
  simp only at h8
  subst h8
  refine ⟨fun _ => trivial, ?_⟩
  rintro ⟨r9, _⟩ h9
  have h9 := (h9 rfl).2
  simp only at h9
  subst h9
  have hwh : ∀ e ∈ [((0 : Int), ri (-1)), (1, ri (-1)), (2, ri 1)], whole e.2 ∧ e.2 = rc (rv e.2) := fun e he => by
    rcases List.mem_cons.1 he with rfl | he
    · exact ⟨whole_ri (by decide), by rw [rv_ri, rc_int]⟩
    · rcases List.mem_cons.1 he with rfl | he
      · exact ⟨whole_ri (by decide), by rw [rv_ri, rc_int]⟩
      · rw [List.mem_singleton.1 he]
        exact ⟨whole_ri (by decide), by rw [rv_ri, rc_int]⟩
  refine ⟨fun _ e he => (hwh e he).1, ?_⟩
  rintro ⟨r10, _⟩ h10
  have h10 := (h10 rfl).2
  simp only at h10
  have h10 : r10 = true := by
    rw [h10]
    exact decide_eq_true ⟨by trivial, fun e he => (hwh e he).2⟩
  subst h10
  rfl
theorem loopP_whole {n : Int} {ls : List Ln} (hok : netOk n ls) (line : Int) : ∀ e ∈ loopP n ls line, whole e.2 ∧ e.2 = rc (rv e.2) := fun e he => by
  unfold loopP at he
  split at he
  · rename_i hr
    split at he
    · cases he
    · rename_i hnf
      rcases loop_pm hok hr.1 hr.2 hnf e he with h | h <;> rw [h] <;> exact ⟨whole_ri (by decide), by rw [rv_ri, rc_int]⟩
  · cases he
theorem vc_law19_agrees_ok (x : dens s_law19_agrees.args) (hw : awf s_law19_agrees.args x) (hp : s_law19_agrees.pre x) : vc_law19_agrees x := by
  obtain ⟨n, ls, gone, line, _⟩ := x
  change Int at n line
  change List (Int × Int) at ls
  change List Int at gone
  obtain ⟨hl, hgl⟩ : ls.length ≤ 20 ∧ gone.length ≤ 20 := hp
  simp only [vc_law19_agrees]
  refine ⟨trivial, ?_⟩
  rintro ⟨w, _⟩ _ hwn
  refine ⟨trivial, ?_⟩
  rintro ⟨a, e, _⟩ _ ⟨ha, he⟩
  refine ⟨by omega, ?_⟩
  rintro ⟨b, f, _⟩ _ ⟨hb, hb2⟩
  refine ⟨trivial, ?_⟩
  rintro ⟨c, g, _⟩ _ ⟨hc, hg⟩
  refine ⟨trivial, ?_⟩
  rintro ⟨s, h, _⟩ _ ⟨hs1, hs2, hs3⟩
  refine ⟨hl, ?_⟩
  rintro ⟨v, k, _⟩ _ ⟨hv, hv2⟩
  simp only at hwn ha he hb hb2 hc hg hs1 hs2 hs3 hv hv2 ⊢
  subst hwn
  refine ⟨fun hne => ?_, fun hne => ?_⟩
  · have hne := of_decide_eq_true hne
    obtain ⟨b1, b2⟩ := hb hne
    obtain ⟨s1, s2⟩ := hs1 hne
    obtain ⟨v1, v2⟩ := hv hne
    rw [if_neg hne] at ha hc
    subst ha b1 hc v1 he hg b2 s2 v2 s1
    simp [sel_and]
  · have h0 : netE n ls = 0 := by simpa using hne
    have hok := netE_ok.1 h0
    rw [h0] at he hg
    rw [if_pos h0] at ha hc
    obtain ⟨b1, b2⟩ := hb2 h0
    obtain ⟨v1, v2⟩ := hv2 h0
    subst ha he hc hg b1 b2 v1 v2
    refine ⟨fun _ => hok, ?_⟩
    rintro ⟨r, _⟩ hr
    have hr := (hr rfl).2
    simp only at hr ⊢
    subst hr
    refine ⟨fun _ => trivial, ?_⟩
    rintro ⟨r6, _⟩ h6
    have h6 := (h6 rfl).2
    simp only at h6 ⊢
    have h6 : r6 = true := by rw [h6]; exact decide_eq_true (by trivial)
    subst h6
    refine ⟨fun _ => ⟨hok, by omega⟩, ?_⟩
    rintro ⟨r, _⟩ hr
    have hr := (hr rfl).2
    simp only at hr ⊢
    subst hr
    refine ⟨fun _ => trivial, ?_⟩
    rintro ⟨r7, _⟩ h7
    have h7 := (h7 rfl).2
    simp only at h7 ⊢
    have h7 : r7 = true := by rw [h7]; exact decide_eq_true (by trivial)
    subst h7
    refine ⟨fun _ => ⟨hok, by omega⟩, ?_⟩
    rintro ⟨r, _⟩ hr
    have hr := (hr rfl).2
    simp only at hr ⊢
    subst hr
    refine ⟨fun _ => trivial, ?_⟩
    rintro ⟨r8, _⟩ h8
    have h8 := (h8 rfl).2
    simp only at h8 ⊢
    have h8 : r8 = true := by rw [h8]; exact decide_eq_true (by trivial)
    subst h8
    refine ⟨fun h => (by cases h), fun _ => ⟨⟨hok, hl⟩, ?_⟩⟩
    rintro ⟨r, m, _⟩ _ ⟨hr1, hr2⟩
    simp only at hr1 hr2 ⊢
    subst hr1 hr2
    refine ⟨fun p => 0 ≤ p.2.1 ∧ p.2.1 ≤ (gone.length : Int) ∧ p.1 = decide (∀ i ∈ gone.take p.2.1.toNat, 0 ≤ i ∧ i < (ls.length : Int)), fun p => ((gone.length : Int) - p.2.1).toNat, ⟨Int.le_refl _, Int.natCast_nonneg _, by simp⟩, ?_⟩
    rintro ⟨known, j, _⟩ _ ⟨j0, j1, j2⟩
    change Int at j
    change Bool at known
    simp only at j0 j1 j2 ⊢
    refine ⟨fun hj => ?_, fun hj => ?_⟩
    · have hj := of_decide_eq_true hj
      rw [wr (by omega) (by omega)]
      refine ⟨⟨j0, hj⟩, ⟨by omega, by omega, ?_⟩, by omega⟩
      rw [sel_and, sel_and, j2, show (j + 1).toNat = j.toNat + 1 from by omega, List.take_add_one, gx_get (d := (0 : Int)) j0 hj]
      generalize gx 0 gone j = i
      by_cases h1 : ∀ i ∈ gone.take j.toNat, 0 ≤ i ∧ i < (ls.length : Int)
      · rw [decide_eq_true h1]
        by_cases h2 : 0 ≤ i ∧ i < (ls.length : Int)
        · rw [decide_eq_true h2.1, decide_eq_true h2.2]
          refine (decide_eq_true ?_).symm
          intro y hy
          rcases List.mem_append.1 hy with hy | hy
          · exact h1 y hy
          · simp only [Option.toList_some, List.mem_singleton] at hy; rw [hy]; exact h2
        · have : (decide (0 ≤ i) && decide (i < (ls.length : Int))) = false := by
            simp only [Bool.and_eq_false_iff, decide_eq_false_iff_not]; omega
          rw [Bool.true_and, this]
          refine (decide_eq_false fun hall => h2 (hall i ?_)).symm
          simp
      · rw [decide_eq_false h1]
        refine (decide_eq_false fun hall => h1 fun y hy => hall y (List.mem_append.2 (.inl hy))).symm
    · have hj := of_decide_eq_false hj
      rw [take_all (by omega)] at j2
      subst j2
      refine ⟨fun hk => ?_, fun hk => ?_⟩
      · have hk : ¬ ∀ i ∈ gone, 0 ≤ i ∧ i < (ls.length : Int) := by simpa using hk
        obtain ⟨q1, q2⟩ := hs3 h0 hk
        subst q1 q2
        refine ⟨fun _ e he => (loopP_whole hok line e he).1, ?_⟩
        rintro ⟨ok, _⟩ hok2
        have hok2 := (hok2 (by simp [sel])).2
        simp only at hok2 ⊢
        have hok2 : ok = true := by rw [hok2]; exact decide_eq_true ⟨by trivial, fun e he => (loopP_whole hok line e he).2⟩
        rw [hok2]
        simp [sel]
      · have hk : ∀ i ∈ gone, 0 ≤ i ∧ i < (ls.length : Int) := by simpa using hk
        obtain ⟨q1, q2⟩ := hs2 h0 hk
        subst q2
        refine ⟨fun _ => ⟨hok, by omega⟩, ?_⟩
        rintro ⟨r9, _⟩ h9
        have h9 := (h9 rfl).2
        simp only at h9 ⊢
        rw [h9, q1]
        refine ⟨fun _ e he => (loopP_whole hok line e he).1, ?_⟩
        rintro ⟨ok, _⟩ hok2
        have hok2 := (hok2 (by simp [sel])).2
        simp only at hok2 ⊢
        have hok2 : ok = true := by rw [hok2]; exact decide_eq_true ⟨by trivial, fun e he => (loopP_whole hok line e he).2⟩
        rw [hok2]
        simp [sel]
theorem vc_law19_TopologyExact_ok (x : dens s_law19_TopologyExact.args) (hw : awf s_law19_TopologyExact.args x) (hp : s_law19_TopologyExact.pre x) : vc_law19_TopologyExact x := by
  obtain ⟨bu, li, gone, ch, line, _⟩ := x
  change Int at bu line
  change List (Int × Int) at li
  change List Int at gone
  simp only [vc_law19_TopologyExact]
  refine ⟨trivial, ?_⟩
  rintro ⟨n, ls, _⟩ _ ⟨hok, hn7, hl⟩
  change Int at n
  change List (Int × Int) at ls
  refine ⟨trivial, ?_⟩
  rintro ⟨⟨tp, at'⟩, _⟩ _ ht
  simp only at hn7 hl ht ⊢
  obtain ⟨ht1, ht2⟩ := Prod.mk.inj ht
  subst ht1 ht2
  refine ⟨by decide, ?_⟩
  rintro ⟨raw, _⟩ _ hraw
  simp only at hraw ⊢
  have hrl : raw.length ≤ 20 := by rw [hraw, List.length_take]; exact Nat.min_le_left ..
  have hw1 : IntKind.i64.wrap ((ls.length : Int) + 1) = (ls.length : Int) + 1 := wr (by omega) (by omega)
  rw [hw1]
  refine ⟨⟨by omega, Int.le_refl _, Int.natCast_nonneg _⟩, ?_⟩
  rintro ⟨a, _⟩ ⟨⟨t1, at1⟩, _⟩ _ _ _ ⟨o1, o2, o3⟩
  simp only at o1 o2 o3 ⊢
  subst o1
  refine ⟨⟨by omega, o2, o3⟩, ?_⟩
  rintro ⟨b, _⟩ ⟨⟨t2, at2⟩, _⟩ _ _ _ _
  simp only
  refine ⟨fun _ => True, ⟨fun _ => ⟨by decide, ?_⟩, fun _ => trivial⟩, ?_⟩
  · rintro ⟨r, _⟩ _ hr
    simp only at hr ⊢
    refine ⟨⟨by rw [hr, List.length_take]; exact Nat.min_le_left .., hrl⟩, ?_⟩
    rintro ⟨ag, _⟩ _ hag
    simp only at hag ⊢
    subst hag
    exact ⟨fun h => (by cases h), fun _ => trivial⟩
  · rintro _ _ _
    refine ⟨trivial, ?_⟩
    rintro ⟨aw, _⟩ _ haw
    simp only at haw ⊢
    subst haw
    refine ⟨fun _ => by decide, ?_⟩
    rintro ⟨mo, _⟩ _
    refine ⟨fun _ => ⟨by omega, by simp⟩, ?_⟩
    rintro ⟨ag, _⟩ hag
    have hag := (hag rfl).2
    simp only at hag ⊢
    rw [hag]; rfl
end Go.Proofs.YtppgpdigopffbaaGreat
namespace Go.Proofs.YtppgpdigopffbaaGreat
open Go.Vc Go.Gw
theorem ok_make_New : Meets Tryz.prog 23 s_make_New := m_make_New (spOk_nil) vc_make_New_ok
theorem ok_make_Mod : Meets Tryz.prog 28 s_make_Mod := m_make_Mod (spOk_nil) vc_make_Mod_ok
theorem ok_make_Tape_Next : Meets Tryz.prog 25 s_make_Tape_Next := m_make_Tape_Next (spOk_cons ok_make_Mod (spOk_nil)) vc_make_Tape_Next_ok
theorem ok_law19_network : Meets Tryz.prog 7 s_law19_network := m_law19_network (spOk_cons ok_make_New (spOk_cons ok_make_Tape_Next (spOk_nil))) vc_law19_network_ok
theorem ok_topology_check : Meets Tryz.prog 30 s_topology_check := m_topology_check (spOk_nil) vc_topology_check_ok
theorem ok_topology_separate : Meets Tryz.prog 32 s_topology_separate := m_topology_separate (spOk_nil) vc_topology_separate_ok
theorem ok_topology_sets_least : Meets Tryz.prog 34 s_topology_sets_least := m_topology_sets_least (spOk_nil) vc_topology_sets_least_ok
theorem ok_topology_sets_join : Meets Tryz.prog 33 s_topology_sets_join := m_topology_sets_join (spOk_cons ok_topology_sets_least (spOk_nil)) vc_topology_sets_join_ok
theorem ok_topology_tree : Meets Tryz.prog 31 s_topology_tree := m_topology_tree (spOk_cons ok_topology_separate (spOk_cons ok_topology_sets_join (spOk_nil))) vc_topology_tree_ok
theorem ok_topology_Forest : Meets Tryz.prog 8 s_topology_Forest := m_topology_Forest (spOk_cons ok_topology_check (spOk_cons ok_topology_tree (spOk_nil))) vc_topology_Forest_ok
theorem ok_topology_Islands : Meets Tryz.prog 9 s_topology_Islands := m_topology_Islands (spOk_cons ok_topology_check (spOk_cons ok_topology_separate (spOk_cons ok_topology_sets_join (spOk_cons ok_topology_sets_least (spOk_nil))))) vc_topology_Islands_ok
theorem ok_topology_roots : Meets Tryz.prog 36 s_topology_roots := m_topology_roots (spOk_nil) vc_topology_roots_ok
theorem ok_cmp_isNaN_int : Meets Tryz.prog 83 s_cmp_isNaN_int := m_cmp_isNaN_int (spOk_nil) vc_cmp_isNaN_int_ok
theorem ok_cmp_Less_int : Meets Tryz.prog 62 s_cmp_Less_int := m_cmp_Less_int (spOk_cons ok_cmp_isNaN_int (spOk_nil)) vc_cmp_Less_int_ok
theorem ok_slices_isNaN_int : Meets Tryz.prog 63 s_slices_isNaN_int := m_slices_isNaN_int (spOk_nil) vc_slices_isNaN_int_ok
theorem ok_slices_BinarySearch_Sint_int : Meets Tryz.prog 38 s_slices_BinarySearch_Sint_int := m_slices_BinarySearch_Sint_int (spOk_cons ok_cmp_Less_int (spOk_cons ok_slices_isNaN_int (spOk_nil))) vc_slices_BinarySearch_Sint_int_ok
theorem ok_topology_Bridges_2 : Meets Tryz.prog 40 s_topology_Bridges_2 := m_topology_Bridges_2 (spOk_nil) vc_topology_Bridges_2_ok
theorem ok_slices_IndexFunc_Sint_int : Meets Tryz.prog 64 s_slices_IndexFunc_Sint_int := m_slices_IndexFunc_Sint_int (spOk_nil) vc_slices_IndexFunc_Sint_int_ok
theorem ok_topology_Bridges : Meets Tryz.prog 11 s_topology_Bridges := m_topology_Bridges (spOk_cons ok_topology_check (spOk_cons ok_topology_tree (spOk_cons ok_topology_roots (spOk_cons ok_slices_BinarySearch_Sint_int (spOk_inl (inl_ok (cx := ⟨Tryz.prog, tys⟩) (fn := Tryz.f37) (c := Tryz.f37.body.getD .skip) Tryz.func37 (by kernel_rfl) (by kernel_rfl) tys_ok (ansOk_cons (spOk_nil) (ansOk_cons (spOk_nil) (ansOk_cons (spOk_nil) (ansOk_nil))))) (spOk_inl (inl_ok (cx := ⟨Tryz.prog, tys⟩) (fn := Tryz.f39) (c := Tryz.f39.body.getD .skip) Tryz.func39 (by kernel_rfl) (by kernel_rfl) tys_ok (ansOk_cons (spOk_cons ok_topology_Bridges_2 (spOk_cons ok_slices_IndexFunc_Sint_int (spOk_nil))) (ansOk_nil))) (spOk_nil))))))) vc_topology_Bridges_ok
theorem ok_help_Equal_int : Meets Tryz.prog 12 s_help_Equal_int := m_help_Equal_int (spOk_nil) vc_help_Equal_int_ok
theorem ok_integer_signed : Meets Tryz.prog 84 s_integer_signed := m_integer_signed (spOk_nil) vc_integer_signed_ok
theorem ok_natural_cut : Meets Tryz.prog 102 s_natural_cut := m_natural_cut (spOk_nil) vc_natural_cut_ok
theorem ok_natural_FromUint64 : Meets Tryz.prog 85 s_natural_FromUint64 := m_natural_FromUint64 (spOk_cons ok_natural_cut (spOk_nil)) vc_natural_FromUint64_ok
theorem ok_integer_FromInt : Meets Tryz.prog 65 s_integer_FromInt := m_integer_FromInt (spOk_cons ok_integer_signed (spOk_cons ok_natural_FromUint64 (spOk_nil))) vc_integer_FromInt_ok
theorem ok_rational_FromInt : Meets Tryz.prog 41 s_rational_FromInt := m_rational_FromInt (spOk_cons ok_integer_FromInt (spOk_nil)) vc_rational_FromInt_ok
theorem ok_natural_Compare : Meets Tryz.prog 106 s_natural_Compare := m_natural_Compare (spOk_cons ok_natural_cut (spOk_nil)) vc_natural_Compare_ok
theorem ok_rational_parts : Meets Tryz.prog 94 s_rational_parts := m_rational_parts (spOk_cons ok_natural_Compare (spOk_nil)) vc_rational_parts_ok
theorem ok_integer_Sign : Meets Tryz.prog 103 s_integer_Sign := m_integer_Sign (spOk_cons ok_natural_Compare (spOk_nil)) vc_integer_Sign_ok
theorem ok_rational_Sign : Meets Tryz.prog 86 s_rational_Sign := m_rational_Sign (spOk_cons ok_rational_parts (spOk_cons ok_integer_Sign (spOk_nil))) vc_rational_Sign_ok
theorem ok_vector_merge : Meets Tryz.prog 66 s_vector_merge := m_vector_merge (spOk_cons ok_rational_Sign (spOk_nil)) vc_vector_merge_ok
theorem ok_vector_ascending : Meets Tryz.prog 87 s_vector_ascending := m_vector_ascending (spOk_nil) vc_vector_ascending_ok
theorem ok_slices_insertionSortCmpFunc_Entry : Meets Tryz.prog 118 s_slices_insertionSortCmpFunc_Entry := m_slices_insertionSortCmpFunc_Entry (spOk_nil) vc_slices_insertionSortCmpFunc_Entry_ok
theorem ok_slices_symMergeCmpFunc_Entry : Meets Tryz.prog 119 s_slices_symMergeCmpFunc_Entry := meets_false fun _ h => h
theorem ok_slices_stableCmpFunc_Entry : Meets Tryz.prog 104 s_slices_stableCmpFunc_Entry := m_slices_stableCmpFunc_Entry (spOk_cons ok_slices_insertionSortCmpFunc_Entry (spOk_cons ok_slices_symMergeCmpFunc_Entry (spOk_nil))) vc_slices_stableCmpFunc_Entry_ok
theorem ok_slices_SortStableFunc_SEntry_Entry : Meets Tryz.prog 88 s_slices_SortStableFunc_SEntry_Entry := m_slices_SortStableFunc_SEntry_Entry (spOk_cons ok_slices_stableCmpFunc_Entry (spOk_nil)) vc_slices_SortStableFunc_SEntry_Entry_ok
theorem ok_cmp_Compare_int : Meets Tryz.prog 105 s_cmp_Compare_int := m_cmp_Compare_int (spOk_cons ok_cmp_isNaN_int (spOk_nil)) vc_cmp_Compare_int_ok
theorem ok_vector_byIndex : Meets Tryz.prog 89 s_vector_byIndex := m_vector_byIndex (spOk_cons ok_cmp_Compare_int (spOk_nil)) vc_vector_byIndex_ok
theorem ok_rational_Add : Meets Tryz.prog 90 s_rational_Add := meets_false fun _ h => h
theorem ok_vector_arrange : Meets Tryz.prog 67 s_vector_arrange := m_vector_arrange (spOk_cons ok_vector_ascending (spOk_cons ok_slices_SortStableFunc_SEntry_Entry (spOk_cons ok_vector_byIndex (spOk_cons ok_rational_Add (spOk_nil))))) vc_vector_arrange_ok
theorem ok_natural_word : Meets Tryz.prog 122 s_natural_word := m_natural_word (spOk_nil) vc_natural_word_ok
theorem ok_natural_Uint64 : Meets Tryz.prog 110 s_natural_Uint64 := m_natural_Uint64 (spOk_cons ok_natural_cut (spOk_cons ok_natural_word (spOk_nil))) vc_natural_Uint64_ok
theorem ok_rational_small : Meets Tryz.prog 91 s_rational_small := m_rational_small (spOk_cons ok_natural_Uint64 (spOk_nil)) vc_rational_small_ok
theorem ok_rational_quotient : Meets Tryz.prog 92 s_rational_quotient := m_rational_quotient (spOk_cons ok_natural_FromUint64 (spOk_nil)) vc_rational_quotient_ok
theorem ok_rational_lowest : Meets Tryz.prog 93 s_rational_lowest := meets_false fun _ h => h
theorem ok_rational_Norm : Meets Tryz.prog 69 s_rational_Norm := m_rational_Norm (spOk_cons ok_rational_small (spOk_cons ok_rational_quotient (spOk_cons ok_rational_lowest (spOk_cons ok_rational_parts (spOk_nil))))) vc_rational_Norm_ok
theorem ok_vector_Norm_1 : Meets Tryz.prog 68 s_vector_Norm_1 := m_vector_Norm_1 (spOk_cons ok_rational_Norm (spOk_nil)) vc_vector_Norm_1_ok
theorem ok_vector_Norm : Meets Tryz.prog 43 s_vector_Norm := m_vector_Norm (spOk_cons ok_vector_merge (spOk_cons ok_vector_arrange (spOk_cons ok_vector_Norm_1 (spOk_nil)))) vc_vector_Norm_ok
theorem ok_topology_Loop : Meets Tryz.prog 13 s_topology_Loop := m_topology_Loop (spOk_cons ok_topology_check (spOk_cons ok_topology_tree (spOk_cons ok_topology_roots (spOk_cons ok_slices_BinarySearch_Sint_int (spOk_cons ok_rational_FromInt (spOk_cons ok_vector_Norm (spOk_inl (inl_ok (cx := ⟨Tryz.prog, tys⟩) (fn := Tryz.f42) (c := Tryz.f42.body.getD .skip) Tryz.func42 (by kernel_rfl) (by kernel_rfl) tys_ok (ansOk_cons (spOk_cons ok_rational_FromInt (spOk_nil)) (ansOk_cons (spOk_cons ok_rational_FromInt (spOk_nil)) (ansOk_nil)))) (spOk_nil)))))))) vc_topology_Loop_ok
theorem ok_r03_Zero : Meets Tryz.prog 21 s_r03_Zero := m_r03_Zero (spOk_nil) vc_r03_Zero_ok
theorem ok_r01_Equal : Meets Tryz.prog 45 s_r01_Equal := m_r01_Equal (spOk_nil) vc_r01_Equal_ok
theorem ok_r01_Trim : Meets Tryz.prog 99 s_r01_Trim := m_r01_Trim (spOk_nil) vc_r01_Trim_ok
theorem ok_r02_Make : Meets Tryz.prog 74 s_r02_Make := m_r02_Make (spOk_cons ok_r01_Trim (spOk_nil)) vc_r02_Make_ok
theorem ok_r02_Norm : Meets Tryz.prog 70 s_r02_Norm := m_r02_Norm (spOk_cons ok_r02_Make (spOk_nil)) vc_r02_Norm_ok
theorem ok_r02_Sign : Meets Tryz.prog 53 s_r02_Sign := m_r02_Sign (spOk_cons ok_r02_Norm (spOk_nil)) vc_r02_Sign_ok
theorem ok_r02_GCD : Meets Tryz.prog 71 s_r02_GCD := meets_false fun _ h => h
theorem ok_r02_DivMod : Meets Tryz.prog 72 s_r02_DivMod := meets_false fun _ h => h
theorem ok_r02_Neg : Meets Tryz.prog 73 s_r02_Neg := m_r02_Neg (spOk_cons ok_r02_Make (spOk_nil)) vc_r02_Neg_ok
theorem ok_r03_Make : Meets Tryz.prog 46 s_r03_Make := m_r03_Make (spOk_cons ok_r03_Zero (spOk_cons ok_r01_Equal (spOk_cons ok_r02_Sign (spOk_cons ok_r02_Norm (spOk_cons ok_r02_GCD (spOk_cons ok_r02_DivMod (spOk_cons ok_r02_Neg (spOk_nil)))))))) vc_r03_Make_ok
theorem ok_r01_FromUint64 : Meets Tryz.prog 75 s_r01_FromUint64 := m_r01_FromUint64 (spOk_cons ok_r01_Trim (spOk_nil)) vc_r01_FromUint64_ok
theorem ok_r02_FromInt : Meets Tryz.prog 47 s_r02_FromInt := m_r02_FromInt (spOk_cons ok_r02_Make (spOk_cons ok_r01_FromUint64 (spOk_nil))) vc_r02_FromInt_ok
theorem ok_r03_FromInt : Meets Tryz.prog 18 s_r03_FromInt := m_r03_FromInt (spOk_cons ok_r03_Make (spOk_cons ok_r02_FromInt (spOk_nil))) vc_r03_FromInt_ok
theorem ok_r02_Equal : Meets Tryz.prog 44 s_r02_Equal := m_r02_Equal (spOk_cons ok_r01_Equal (spOk_nil)) vc_r02_Equal_ok
theorem ok_r03_Equal : Meets Tryz.prog 16 s_r03_Equal := m_r03_Equal (spOk_cons ok_r02_Equal (spOk_cons ok_r01_Equal (spOk_nil))) vc_r03_Equal_ok
theorem ok_r03_Norm : Meets Tryz.prog 48 s_r03_Norm := m_r03_Norm (spOk_cons ok_r03_Make (spOk_nil)) vc_r03_Norm_ok
theorem ok_r03_Canonical : Meets Tryz.prog 61 s_r03_Canonical := m_r03_Canonical (spOk_cons ok_r03_Equal (spOk_cons ok_r03_Norm (spOk_nil))) vc_r03_Canonical_ok
theorem ok_r06_Identical : Meets Tryz.prog 35 s_r06_Identical := m_r06_Identical (spOk_cons ok_r03_Equal (spOk_cons ok_r03_Canonical (spOk_nil))) vc_r06_Identical_ok
theorem ok_law19_awake : Meets Tryz.prog 10 s_law19_awake := m_law19_awake (spOk_cons ok_topology_Forest (spOk_cons ok_topology_Islands (spOk_cons ok_topology_Bridges (spOk_cons ok_help_Equal_int (spOk_cons ok_topology_Loop (spOk_cons ok_r03_FromInt (spOk_cons ok_r06_Identical (spOk_nil)))))))) vc_law19_awake_ok
theorem ok_topology_count : Meets Tryz.prog 60 s_topology_count := m_topology_count (spOk_cons ok_topology_separate (spOk_cons ok_topology_sets_join (spOk_nil))) vc_topology_count_ok
theorem ok_topology_Separates : Meets Tryz.prog 29 s_topology_Separates := m_topology_Separates (spOk_cons ok_topology_check (spOk_cons ok_topology_count (spOk_nil))) vc_topology_Separates_ok
end Go.Proofs.YtppgpdigopffbaaGreat
namespace Go.Proofs.YtppgpdigopffbaaGreat
open Go.Vc Go.Gw
theorem ok_help_First_int : Meets Tryz.prog 24 s_help_First_int := m_help_First_int (spOk_nil) vc_help_First_int_ok
theorem ok_r19_Network : Meets Tryz.prog 54 s_r19_Network := m_r19_Network (spOk_nil) vc_r19_Network_ok
theorem ok_r18_Islands : Meets Tryz.prog 55 s_r18_Islands := m_r18_Islands (spOk_nil) vc_r18_Islands_ok
theorem ok_r18_has : Meets Tryz.prog 81 s_r18_has := m_r18_has (spOk_nil) vc_r18_has_ok
theorem ok_r18_count : Meets Tryz.prog 82 s_r18_count := m_r18_count (spOk_nil) vc_r18_count_ok
theorem ok_r18_Separated : Meets Tryz.prog 59 s_r18_Separated := m_r18_Separated (spOk_cons ok_r18_Islands (spOk_cons ok_r18_has (spOk_cons ok_r18_count (spOk_nil)))) vc_r18_Separated_ok
theorem ok_r19_Bridges : Meets Tryz.prog 56 s_r19_Bridges := m_r19_Bridges (spOk_cons ok_r18_Separated (spOk_nil)) vc_r19_Bridges_ok
theorem ok_r19_Forest : Meets Tryz.prog 57 s_r19_Forest := m_r19_Forest (spOk_cons ok_r18_Islands (spOk_nil)) vc_r19_Forest_ok
theorem ok_r19_path : Meets Tryz.prog 79 s_r19_path := meets_rec (fun x => ((x.2.1.filter fun i => decide (i ∉ x.2.2.2.2.1)).length : Nat)) fun n ih => m_r19_path n (spOk_cons ok_r03_FromInt (spOk_cons ih (spOk_nil))) (vc_r19_path_ok n)
theorem ok_r01_Add : Meets Tryz.prog 76 s_r01_Add := m_r01_Add (spOk_cons ok_r01_Trim (spOk_nil)) vc_r01_Add_ok
theorem ok_r01_Compare : Meets Tryz.prog 100 s_r01_Compare := m_r01_Compare (spOk_cons ok_r01_Trim (spOk_nil)) vc_r01_Compare_ok
theorem ok_r01_Sub : Meets Tryz.prog 77 s_r01_Sub := m_r01_Sub (spOk_cons ok_r01_Trim (spOk_cons ok_r01_Compare (spOk_nil))) vc_r01_Sub_ok
theorem ok_r02_Add : Meets Tryz.prog 49 s_r02_Add := m_r02_Add (spOk_cons ok_r02_Make (spOk_cons ok_r01_Add (spOk_cons ok_r01_Sub (spOk_nil)))) vc_r02_Add_ok
theorem ok_r01_Mul : Meets Tryz.prog 78 s_r01_Mul := m_r01_Mul (spOk_cons ok_r01_Trim (spOk_nil)) vc_r01_Mul_ok
theorem ok_r02_Mul : Meets Tryz.prog 50 s_r02_Mul := m_r02_Mul (spOk_cons ok_r02_Make (spOk_cons ok_r01_Mul (spOk_nil))) vc_r02_Mul_ok
theorem ok_r03_den : Meets Tryz.prog 51 s_r03_den := m_r03_den (spOk_cons ok_r03_Norm (spOk_nil)) vc_r03_den_ok
theorem ok_r03_Add : Meets Tryz.prog 19 s_r03_Add := m_r03_Add (spOk_cons ok_r03_Make (spOk_cons ok_r03_Norm (spOk_cons ok_r02_Add (spOk_cons ok_r02_Mul (spOk_cons ok_r03_den (spOk_nil)))))) vc_r03_Add_ok
theorem ok_r06_Get : Meets Tryz.prog 17 s_r06_Get := m_r06_Get (spOk_cons ok_r03_Add (spOk_cons ok_r03_Zero (spOk_nil))) vc_r06_Get_ok
theorem ok_r03_Sign : Meets Tryz.prog 22 s_r03_Sign := m_r03_Sign (spOk_cons ok_r03_Norm (spOk_cons ok_r02_Sign (spOk_nil))) vc_r03_Sign_ok
theorem ok_r06_Indices : Meets Tryz.prog 101 s_r06_Indices := m_r06_Indices (spOk_nil) vc_r06_Indices_ok
theorem ok_r06_Norm : Meets Tryz.prog 80 s_r06_Norm := m_r06_Norm (spOk_cons ok_r06_Get (spOk_cons ok_r03_Sign (spOk_cons ok_r06_Indices (spOk_nil)))) vc_r06_Norm_ok
theorem ok_r19_Loop : Meets Tryz.prog 58 s_r19_Loop := m_r19_Loop (spOk_cons ok_r03_FromInt (spOk_cons ok_r19_Forest (spOk_cons ok_r19_path (spOk_cons ok_r06_Norm (spOk_nil))))) vc_r19_Loop_ok
theorem ok_law19_agrees : Meets Tryz.prog 26 s_law19_agrees := m_law19_agrees (spOk_cons ok_topology_Forest (spOk_cons ok_topology_Islands (spOk_cons ok_topology_Bridges (spOk_cons ok_help_Equal_int (spOk_cons ok_topology_Loop (spOk_cons ok_topology_Separates (spOk_cons ok_r06_Identical (spOk_cons ok_r19_Network (spOk_cons ok_r18_Islands (spOk_cons ok_r19_Bridges (spOk_cons ok_r19_Forest (spOk_cons ok_r19_Loop (spOk_cons ok_r18_Separated (spOk_nil)))))))))))))) vc_law19_agrees_ok
theorem ok_help_First_2_int : Meets Tryz.prog 27 s_help_First_2_int := m_help_First_2_int (spOk_nil) vc_help_First_2_int_ok
theorem ok_law19_TopologyExact : Meets Tryz.prog 5 s_law19_TopologyExact := m_law19_TopologyExact (spOk_cons ok_law19_network (spOk_cons ok_law19_awake (spOk_cons ok_make_New (spOk_cons ok_help_First_int (spOk_cons ok_make_Tape_Next (spOk_cons ok_law19_agrees (spOk_cons ok_help_First_2_int (spOk_cons ok_make_Mod (spOk_nil))))))))) vc_law19_TopologyExact_ok
end Go.Proofs.YtppgpdigopffbaaGreat
