/- Sound, Caps, Initial. -/
import Derived.Test.YtedfiemhfpcggaaVa
namespace Go.Proofs.Ytedfiemhfpcggaa
open Go.Vc Go.Gw
theorem sel_true {α : Type} (x y : α) : sel true x y = x := rfl
theorem sel_false {α : Type} (x y : α) : sel false x y = y := rfl
theorem sel_or (a b : Bool) : sel a true b = (a || b) := by cases a <;> rfl
theorem sel_and (a b : Bool) : sel a b false = (a && b) := by cases a <;> rfl
theorem split_u (x : tU.den) : ∃ u : U, toU x = u ∧ x.2.2.2.2.2.2.2.2.2.2.1 = u.up ∧ x.2.2.2.2.2.2.2.2.2.2.2.1 = u.dn ∧ x.2.2.2.2.2.2.2.2.2.2.2.2.1 = u.st ∧ x.2.2.2.2.2.2.2.2.2.2.2.2.2.1 = u.hc ∧ x.2.2.2.2.2.2.2.2.2.2.2.2.2.2.1 = u.cc ∧ x.2.2.2.2.2.2.2.2.2.2.2.2.2.2.2.1 = u.hh ∧ x.2.2.2.2.2.2.2.2.2.2.2.2.2.2.2.2.2.2.2.1 = u.state ∧ x.2.2.2.2.2.2.2.2.2.2.2.2.2.2.2.2.2.2.2.2.1 = u.hours := ⟨toU x, rfl, rfl, rfl, rfl, rfl, rfl, rfl, rfl, rfl⟩
theorem wr {a : Int} (h1 : -9223372036854775808 ≤ a) (h2 : a ≤ 9223372036854775807) : IntKind.i64.wrap a = a := IntWalk.i64_in _ ⟨h1, h2⟩
theorem imin : IntKind.i64.min = -9223372036854775808 := by decide
theorem imax : IntKind.i64.max = 9223372036854775807 := by decide
theorem vc13_ok (x : dens s13.args) (_ : awf s13.args x) (_ : s13.pre x) : vc13 x := by
  obtain ⟨⟨nm, bus, mn, mx, sg, nl, ru, rd, sr, pr, up, dn, st, hc, cc, hh, rs, rp, aw, state, hours, out⟩, _⟩ := x
  simp [vc13, sel_or, sel_and, soundB, toU]
  grind
theorem vc12_ok (x : dens s12.args) (_ : awf s12.args x) (_ : s12.pre x) : vc12 x := by
  obtain ⟨⟨nm, bus, mn, mx, sg, nl, ru, rd, sr, pr, up, dn, st, hc, cc, hh, rs, rp, aw, state, hours, out⟩, _⟩ := x
  simp only [vc12, sel_or, sel_and, soundB, toU]
  refine ⟨fun p => 0 ≤ p.1 ∧ p.1 ≤ 4 ∧ (0 < p.1 → 0 ≤ up ∧ up ≤ 24) ∧ (1 < p.1 → 0 ≤ dn ∧ dn ≤ 24) ∧ (2 < p.1 → 0 ≤ st ∧ st ≤ 24) ∧ (3 < p.1 → 0 ≤ hh ∧ hh ≤ 24), fun p => (4 - p.1).toNat, by simp, ?_⟩
  rintro ⟨i, _⟩ _ ⟨h0, h1, h2⟩
  simp only at h0 h1 h2 ⊢
  have hwr : i < 4 → IntKind.i64.wrap (i + 1) = i + 1 := fun _ => IntWalk.i64_in _ (by omega)
  rcases (by omega : i = 0 ∨ i = 1 ∨ i = 2 ∨ i = 3 ∨ i = 4) with rfl | rfl | rfl | rfl | rfl <;> simp [gx, hwr] at h2 ⊢ <;> grind
theorem vc9_ok (x : dens s9.args) (hw : awf s9.args x) (hp : s9.pre x) : vc9 x := by
  obtain ⟨⟨nm, bus, mn, mx, sg, nl, ru, rd, sr, pr, up, dn, st, hc, cc, hh, rs, rp, aw, state, hours, out⟩, _⟩ := x
  refine ⟨trivial, fun r _ hr => ?_⟩
  generalize hs : soundB _ = b at hr ⊢
  cases b
  · simp [hr]
  · have h1 := sound_spec hs
    simp only [toU] at h1
    have hwr : IntKind.i64.wrap (hh + 1) = hh + 1 := IntWalk.i64_in _ (by omega)
    simp [hr, hwr, capOff, capOn, toU]
theorem vc10_ok (x : dens s10.args) (hw : awf s10.args x) (hp : s10.pre x) : vc10 x := vc9_ok x hw hp
theorem vc14_ok (x : dens s14.args) (_ : awf s14.args x) (_ : s14.pre x) : vc14 x := by
  obtain ⟨u, hu, h10, h11, h12, h13, h14, h15, h19, h20⟩ := split_u x.1
  simp only [vc14, hu, h10, h11, h12, h13, h14, h15, h19, h20]
  refine ⟨trivial, fun r _ hr => ⟨fun h => ?_, fun h => ⟨trivial, fun q _ hq => ⟨fun p => (p.1, p.2.1) = initF u, ⟨fun h0 => ?_, fun h0 => ⟨fun h2 => ?_, fun h2 => ?_⟩⟩, fun p _ hp => hp⟩⟩⟩⟩
  all_goals simp_all [initF]
theorem vc15_ok (x : dens s15.args) (_ : awf s15.args x) (_ : s15.pre x) : vc15 x := by
  obtain ⟨u, hu, h10, h11, h12, h13, h14, h15, h19, h20⟩ := split_u x.1
  simp only [vc15, hu, h10, h11, h12, h13, h14, h15, h19, h20]
  refine ⟨trivial, fun r _ hr => ⟨fun h => ?_, fun h => ⟨trivial, fun q _ hq => ⟨fun h0 => ?_, fun h0 => ⟨fun h2 => ?_, fun h2 => ?_⟩⟩⟩⟩⟩
  all_goals simp_all [initF]
  have := sound_spec ‹soundB u = true›
  grind
end Go.Proofs.Ytedfiemhfpcggaa
