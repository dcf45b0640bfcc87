/- Part. -/
import Derived.WalkKit
import Derived.ProofKit
import Derived.OpenShut
import Derived.Carry
import Derived.ChangeSlices
import Derived.ChangeSame
import Derived.Test.YtkdmjgcjpmcjjaaGreatK24C
namespace Go.Vc
open Go Go.RowKit Go.Gw
section
variable {za : Zn} {w0 : World} {cx : Cx} {sp : B6} {an : An}
theorem F4f {A : Ann} {st st1 : St} {p : A.den} {E : Env} {w : World} {Z : Nat -> Prop} {B : Nat -> Value} (h : Rel za w0 st E w Z B) (hg : gath A st = some (st1, p)) : ∃ Z', Rel za w0 st1 E w Z' B := by
  simp only [Vc.gath, Option.bind_eq_bind, bind_some] at hg
  obtain ⟨cs0, _, cs, _, tl, _, p', _, hg⟩ := hg
  obtain ⟨_, hg⟩ := E6 hg
  cases hg
  exact Rel.settleSh h
def post (za : Zn) (w0 : World) (k : K) : Exit -> Env -> World -> Prop := fun e E w => Nx za w0 (k.at e) E w
variable (hty : R2 cx.P cx.tys = true) (hsp : D8o cx.P sp)
include hty hsp in
theorem E9o (hb0 : za.b0 = 0) {n : Nat} : ∀ {c : Code} {k : K} {st : St} {E : Env} {w : World} {Z : Nat -> Prop} {B : Nat -> Value}, Rel za w0 st E w Z B -> D1f cx sp an c k st -> Gw.Wp cx.P n c (post za w0 k) E w := by
  intro c
  induction c with
  | skip => intro k st E w Z B h hs _ a hr; exact wp_skip ⟨E, hr, st, Z, B, h, hs⟩
  | label l => intro k st E w Z B h hs _ a hr; exact wp_label ⟨E, hr, st, Z, B, h, hs⟩
  | exit i => intro k st E w Z B h hs _ a hr; exact wp_exit ⟨E, hr, st, Z, B, h, hs⟩
  | ret => intro k st E w Z B h hs _ a hr; exact wp_ret ⟨E, hr, st, Z, B, h, hs⟩
  | region id ops draw =>
    intro k st E w Z B h hs hok a hr
    simp only [A2j] at hok
    simp only [D1f] at hs
    have hops : ops = ops.toList.toArray := by simp
    cases draw with
    | false =>
      simp only [cond_false] at hs
      rw [hops]
      refine wp_region ?_
      have := D3t (P := cx.P) (Q := post za w0 k) hok ops.toList 0 (by simp) a E w hr (E1f hb0 hty hsp h hs)
      simpa [List.range_eq_range'] using this
    | true =>
      simp only [cond_true] at hs
      split at hs
      . rename_i heads tails nw p _
        obtain ⟨hp, hs⟩ := B4 hs
        simp only [Bool.and_eq_true] at hp
        obtain ⟨hp, hm⟩ := hp
        simp only [G1l, Bool.and_eq_true] at hp
        rw [hops]
        refine wp_region_any hm (D4s (S := fun _ => True) (tails := tails) _ _ _ _ ?_)
        have hnone : K2 tails (Array.replicate ops.toList.length false) = false := by
          unfold K2
          rw [List.any_eq_false]
          intro x _
          simp only [Array.getD_eq_getD_getElem?, Array.getElem?_replicate]
          split <;> simp
        have h1 := h.more (Z' := Z) (w' := w.drew) (Ext.refl w).drew (fun _ h => h) (fun _ => .inl)
        have fin : ∀ b0, F2x cx.P (RW nw b0) ops.toList tails (Nx za w0 k.n) p false E w.drew -> A3b cx.P ops.toList.toArray (E3a n (post za w0 k)) (RW nw b0 w.drew) tails ops.toList.length (Array.replicate ops.toList.length false) a w.drew := fun b0 hd =>
          F5u (P := cx.P) (R := RW nw b0) (RW.refl nw _) (fun a b => a.trans b) (Q := post za w0 k) hok hp.1.1 hp.1.2 (fun c E w hh => by obtain ⟨_, _, _, _, hh⟩ := hh; exact hh) p ops.toList.length _ none hp.2 ⟨E3j _ _, fun ht => by rw [hnone] at ht; cases ht⟩ false hnone.symm a E w.drew hr (fun _ hh => by cases hh) hd
        cases nw with
        | true =>
          have := fin _ (A2c (za0 := za) (nw := true) hty hsp (n0 := st.nx) (fun _ => rfl) (fun hh => by cases hh) (fun h => h.unmark hb0) (fun _ _ => rfl) h1.marked hs)
          simpa using A9f (S' := fun _ => True) (fun _ _ => trivial) _ _ _ _ this
        | false =>
          have := fin _ (A2c (za0 := za) (nw := false) hty hsp (n0 := st.nx) (fun hh => by cases hh) (fun _ => hb0) (fun h => h) (fun hh => by cases hh) h1 hs)
          simpa using A9f (S' := fun _ => True) (fun _ _ => trivial) _ _ _ _ this
      . exact hs.elim
  | seq a b iha ihb =>
    intro k st E w Z B h hs hok act hr
    simp only [A2j, Bool.and_eq_true] at hok
    simp only [D1f] at hs
    split at hs
    . rename_i A _
      obtain ⟨J, h1, h2⟩ := hs
      have h1' := C8u (k' := { n := fun st' => Evo st st' /\ D5b A st J st', x := k.x, r := k.r }) h1 (fun e st' ev hh => by
        cases e with
        | normal => exact ⟨ev, hh⟩
        | exit i => exact hh
        | ret => exact hh
        | _ => exact hh)
      refine wp_seq (wp_mono (iha h h1' hok.1 act hr) ?_)
      rintro e a' w' ⟨E', hr', st', Z', B', h', hq⟩
      cases e with
      | normal =>
        obtain ⟨p, hw, hJ, Z2, B2, h3⟩ := E0q hb0 h' hq.2 h.pure hq.1
        exact ihb h3 (h2 p hw hJ) hok.2 a' hr'
      | exit i => exact ⟨E', hr', st', Z', B', h', hq⟩
      | ret => exact ⟨E', hr', st', Z', B', h', hq⟩
      | _ => exact hq.elim
    . refine wp_seq (wp_mono (iha h hs hok.1 act hr) ?_)
      rintro e a' w' ⟨E', hr', st', Z', B', h', hq⟩
      cases e with
      | normal => exact ihb h' hq hok.2 a' hr'
      | exit i => exact ⟨E', hr', st', Z', B', h', hq⟩
      | ret => exact ⟨E', hr', st', Z', B', h', hq⟩
      | _ => exact hq.elim
  | cond c x y ihx ihy =>
    intro k st E w Z B h hs hok act hr
    simp only [A2j, Bool.and_eq_true] at hok
    simp only [D1f] at hs
    split at hs
    . rename_i e he
      obtain ⟨s, hs1, hs2⟩ := bind_some.1 he
      have hv := B3f (h.ev (K4 E) hs1).1 hs2
      refine wp_cond (t := e) (by rw [hr.ev]; exact hv) ?_
      cases e with
      | true => exact ihx h (hs.1 rfl) hok.1 act hr
      | false => exact ihy h (hs.2 rfl) hok.2 act hr
    . exact hs.elim
  | block id c ih =>
    intro k st E w Z B h hs hok act hr
    refine wp_block (wp_mono (ih h hs hok act hr) ?_)
    rintro e a' w' ⟨E', hr', st', Z', B', h', hq⟩
    cases e with
    | normal => exact ⟨E', hr', st', Z', B', h', hq⟩
    | ret => exact ⟨E', hr', st', Z', B', h', hq⟩
    | exit j =>
      simp only [Exit.inBlock]
      simp only [K.at] at hq
      by_cases hj : j = id
      . subst hj
        simp only [if_true]
        simp at hq
        exact ⟨E', hr', st', Z', B', h', hq⟩
      . simp only [hj, if_false]
        rw [F5 hj] at hq
        exact ⟨E', hr', st', Z', B', h', hq⟩
    | _ => exact hq.elim
  | loop c ih =>
    intro k st E w Z B h hs hok act hr
    simp only [A2j] at hok
    simp only [D1f] at hs
    split at hs
    . rename_i A _
      unfold G3d at hs
      split at hs
      . rename_i st1 p0 hg
        obtain ⟨hb, hs⟩ := B4 hs
        simp only [Bool.and_eq_true, List.all_eq_true] at hb
        obtain ⟨I, μ, h0, h1⟩ := hs
        obtain ⟨Z1, hr1⟩ := F4f h hg
        obtain ⟨hwf, Z2, B2, h2⟩ := E9r hb0 h hg hr1.pure (fun _ _ => rfl) (fun _ _ => rfl) (fun y hy => B4k (hb.1 y hy)) (fun y hy => B4k (hb.2 y hy)) rfl
        refine wp_loop_ghost (fun m a w => ∃ p E', μ p = m /\ Gw.Rep n a E' /\ A.wf p /\ I p /\ ∃ Z B, Rel za w0 (reflect A st1 p) E' w Z B) (μ p0) ⟨p0, E, rfl, hr, hwf, h0, Z2, B2, h2⟩ ?_
        rintro m a w ⟨p, E', hmu, hrep, hw, hI, Z3, B3, h3⟩
        have h4 := C8u (k' := { n := fun st' => Evo (reflect A st1 p) st' /\ D5b A st1 (fun p' => I p' /\ μ p' < μ p) st', x := k.x, r := k.r }) (h1 p hw hI) (fun e st' ev hh => by
          cases e with
          | normal => exact ⟨ev, hh⟩
          | exit i => exact hh
          | ret => exact hh
          | _ => exact hh)
        refine wp_mono (ih h3 h4 hok a hrep) ?_
        rintro e a' w' ⟨E'', hr', st', Z', B', h', hq⟩
        cases e with
        | normal =>
          obtain ⟨p', hw', hJ, Z5, B5, h5⟩ := E0q hb0 h' hq.2 hr1.pure ((Evo.told A st1 p).trans hq.1)
          exact ⟨μ p', by have := hJ.2; omega, p', E'', rfl, hr', hw', hJ.1, Z5, B5, h5⟩
        | exit j => exact ⟨E'', hr', st', Z', B', h', hq⟩
        | ret => exact ⟨E'', hr', st', Z', B', h', hq⟩
        | _ => exact hq.elim
      . exact hs.elim
    . exact hs.elim
  | _ => intro k st E w Z B h hs; exact hs.elim
end
abbrev E0m (α : Type) : List α := []
def C7s (cx : Cx) (st : St) : List ResultVar -> Option (List SV)
  | [] => some []
  | .tmp t :: r => match st.S t with
    | .one s => (C7s cx st r).map (s :: ·)
    | _ => none
  | .cell a T :: r => do
    let ti <- cx.ti T
    match st.S a with
    | .one ⟨false, [.box k 0]⟩ => match st.L k with
      | .box _ cs => bif Nat.beq cs.length ti.ty.size then (C7s cx st r).map (⟨ti.agg, cs⟩ :: ·) else none
      | _ => none
    | _ => none
def settleR : St -> List RT -> List SV -> St
  | st, .val _ _ :: rs, s :: ss => settleR (settle st s.cs) rs ss
  | st, .own _ _ :: rs, _ :: ss => settleR st rs ss
  | st, .obox _ _ :: rs, s :: ss => settleR (match c1 s with
    | some (.box k 0) => (match st.L k with
      | .box _ cs => settle st cs
      | _ => st)
    | _ => st) rs ss
  | st, _, _ => st
def E1k (st : St) : (rs : List RT) -> List SV -> Option (A5f rs)
  | [], [] => some ()
  | .val a t :: rs, s :: ss => (B4c a t s).bind fun x => (E1k st rs ss).map fun y => (x, y)
  | .own t e :: rs, s :: ss => ((c1 s).bind (D4b st t e)).bind fun x => (E1k st rs ss).map fun y => (x, y)
  | .obox T t :: rs, s :: ss => ((E8a s).bind fun k => bif Nat.ble st.nm k then F1k st T t k else none).bind fun x => (E1k st rs ss).map fun y => (x, y)
  | _, _ => none
def A4o : List RT -> List SV -> List Nat
  | .own _ _ :: rs, ⟨false, [.row k]⟩ :: ss => k :: A4o rs ss
  | .obox _ _ :: rs, ⟨false, [.box k 0]⟩ :: ss => k :: A4o rs ss
  | _ :: rs, _ :: ss => A4o rs ss
  | _, _ => []
def settleM : St -> List AM -> Nat -> St
  | st, .box _ _ :: r, j => settleM (match st.L j with | .box _ cs => settle st cs | _ => st) r (j + 1)
  | st, .row _ _ :: r, j => settleM st r (j + 1)
  | st, .val _ _ :: r, j => settleM st r j
  | st, .fn _ _ _ :: r, j => settleM st r j
  | st, .rows _ _ _ :: r, j => settleM st r (j + 1)
  | st, [], _ => st
def F2z (st : St) : (as : List AM) -> Nat -> Option (D2s as)
  | [], _ => some ()
  | .row t e :: r, j => (E0p st t e j).bind fun x => (F2z st r (j + 1)).map fun y => (x, y)
  | .box T t :: r, j => (F1k st T t j).bind fun x => (F2z st r (j + 1)).map fun y => (x, y)
  | .val _ _ :: r, j => F2z st r j
  | .fn _ _ _ :: r, j => F2z st r j
  | .rows t e e' :: r, j => (E1r st t e e' j).bind fun x => (F2z st r (j + 1)).map fun y => (x, y)
def G1k : AM -> Bool
  | .row t _ => B9h t
  | .rows t _ _ => B9h t
  | .box _ t => B9h t
  | _ => true
def G3s (s : B9) (x : A7 s.args) (r : A5f s.res) (o : D2s s.args) : Prop := bif T2 s.args then s.post x r /\ s.mpost x r o else s.post x r
def fin (cx : Cx) (s : B9) (vars : List ResultVar) (x : A7 s.args) (st : St) : Prop :=
  match C7s cx st vars with
  | some ss => match C7s cx (settleM (settleR st s.res ss) s.args 0) vars with
    | some ss1 => match E1k (settleM (settleR st s.res ss) s.args 0) s.res ss1, F2z (settleM (settleR st s.res ss) s.args 0) s.args 0 with
      | some r, some o => bif C8q (A4o s.res ss1) && (s.shared || (s.res.all F4v && s.args.all G1k)) then G3s s x r o else False
      | _, _ => False
    | none => False
  | none => False
def B0i (P : Program) : (as : List AM) -> A7 as -> Nat -> Nat -> List (Nat × Nat × DV)
  | [], _, _, _ => []
  | .val a t :: r, x, i, j => (i, 1, .one ⟨a, explode t x.1⟩) :: B0i P r x.2 (i + 1) j
  | .row _ _ :: r, x, i, j => (i, 1, .one ⟨false, [.row j]⟩) :: B0i P r x.2 (i + 1) (j + 1)
  | .box _ _ :: r, x, i, j => (i, 1, .one ⟨false, [.box j 0]⟩) :: B0i P r x.2 (i + 1) (j + 1)
  | .rows _ _ _ :: r, x, i, j => (i, 1, .one ⟨false, [.row j]⟩) :: B0i P r x.2 (i + 1) (j + 1)
  | .fn as' ra' r' :: r, x, i, j => (i, 1, .one ⟨false, [.fv P as' ra' r' x.1.1 x.1.2]⟩) :: B0i P r x.2 (i + 1) j
def A5g : (as : List AM) -> A7 as -> Nat -> List (Nat × Nat × LC)
  | [], _, _ => []
  | .val _ _ :: r, x, j => A5g r x.2 j
  | .fn _ _ _ :: r, x, j => A5g r x.2 j
  | .row t e :: r, x, j => (j, 1, .row t e x.1) :: A5g r x.2 (j + 1)
  | .box T t :: r, x, j => (j, 1, .box T (explode t x.1)) :: A5g r x.2 (j + 1)
  | .rows t e e' :: r, x, j => (j, 1, .rows t e e' x.1 [] none) :: A5g r x.2 (j + 1)
def C7q : List AM -> Nat
  | [] => 0
  | .row _ _ :: r => C7q r + 1
  | .box _ _ :: r => C7q r + 1
  | .rows _ _ _ :: r => C7q r + 1
  | .val _ _ :: r => C7q r
  | .fn _ _ _ :: r => C7q r
def E9m (P : Program) (as : List AM) (x : A7 as) : St := ⟨B0i P as x 0 0, A5g as x 0, C7q as, 1, C7q as, []⟩
def G2y (cx : Cx) (sp : B6) (an : An) (s : B9) (vars : List ResultVar) (c : Code) (x : A7 s.args) : Prop :=
  D1f cx sp an c ⟨fin cx s vars x, fun _ _ => False, fin cx s vars x⟩ (E9m cx.P s.args x)
section
variable {za : Zn} {w0 w : World} {Z : Nat -> Prop} {B : Nat -> Value} {st : St} {E : Env} {cx : Cx} {sp : B6} {an : An}
def F6f (tmps : Array Value) : ResultVar -> Sem Value
  | .tmp t => pure (tmps.getD t undef)
  | .cell a t => do loadVar t (<- asAddr (tmps.getD a undef))
theorem C7p (hty : R2 cx.P cx.tys = true) (h : Rel za w0 st E w Z B) {tmps : Array Value} (ht : ∀ t, tmps.getD t undef = E t) : ∀ {vars : List ResultVar} {ss : List SV}, C7s cx st vars = some ss -> ∃ vs, (vars.mapM (F6f tmps)).run cx.P w = .ok vs w /\ RSs w Z B ss vs
  | [], ss, hs => by cases hs; exact ⟨[], rfl, rfl⟩
  | .tmp t :: r, ss, hs => by
    simp only [C7s] at hs
    split at hs
    . rename_i s hd
      simp only [Option.map_eq_some_iff] at hs
      obtain ⟨ss', hs', rfl⟩ := hs
      obtain ⟨vs, h1, h2⟩ := C7p hty h ht hs'
      have hsl := h.slots t
      rw [hd] at hsl
      refine ⟨E t :: vs, ?_, E t, vs, rfl, hsl, h2⟩
      rw [List.mapM_cons]
      simp only [F6f, ht, Sem.run_bind, Sem.run_pure, Result.andThen_ok, h1]
    . cases hs
  | .cell a T :: r, ss, hs => by
    simp only [C7s, Option.bind_eq_bind, bind_some] at hs
    obtain ⟨ti, hti, hs⟩ := hs
    split at hs
    . rename_i k hd
      split at hs
      . rename_i T' cs hk
        obtain ⟨hb, hs⟩ := E6 hs
        simp only [Option.map_eq_some_iff] at hs
        obtain ⟨ss', hs', rfl⟩ := hs
        obtain ⟨vs, h1, h2⟩ := C7p hty h ht hs'
        have hlen := Nat.eq_of_beq_eq_true hb
        have hsl := h.slots a
        rw [hd] at hsl
        obtain ⟨_, _, e1, ⟨b, e2, e3⟩, _⟩ := hsl
        cases e1
        have hL := h.locs k
        rw [hk] at hL
        obtain ⟨b', us, e4, _, _, hblk, hcs⟩ := hL
        rw [e2] at e4; cases e4
        have hul : us.toList.length = ti.ty.size := by rw [<- hlen, hcs.len]
        rcases (O7 (B7 hty hti)).2.1 with ⟨ha, hag⟩ | ⟨ha, hsc, hs1⟩
        . refine ⟨.agg us.toList.toArray :: vs, ?_, _, vs, rfl, by rw [ha]; exact ⟨us.toList, rfl, hcs⟩, h2⟩
          obtain ⟨g1, g2⟩ := A8s (P := cx.P) (w := w) hag
          have g3 := run_loadCells_list (P := cx.P) (w := w) ⟨b, 0, none⟩ us.toList hblk.cellsAt
          rw [hul] at g3
          unfold loadCells at g3
          rw [List.mapM_cons]
          simp [F6f, ht, e3, asAddr, loadVar, g1, g2, g3, h1, go_sem]
        . rw [hs1] at hul
          match hus : us.toList, hul with
          | [u], _ =>
            rw [hus] at hcs
            have hcell : w.cell? ⟨b, 0, none⟩ = some u := by
              have := hblk.cellsAt 0 u (by rw [hus]; rfl)
              rwa [N2] at this
            refine ⟨u :: vs, ?_, u, vs, rfl, by rw [ha]; exact hcs, h2⟩
            have g1 := Y1 (P := cx.P) (w := w) hsc
            rw [List.mapM_cons]
            simp [F6f, ht, e3, asAddr, loadVar, g1, hcell, h1, go_sem]
      . cases hs
    . cases hs
theorem Rel.settleR : ∀ {rs : List RT} {ss : List SV} {st : St} {Z : Nat -> Prop}, Rel za w0 st E w Z B -> ∃ Z', Rel za w0 (settleR st rs ss) E w Z' B
  | .val _ _ :: rs, s :: ss, st, Z, h => by
    obtain ⟨Z1, h1⟩ := h.settle s.cs
    exact Rel.settleR (rs := rs) (ss := ss) h1
  | .own _ _ :: rs, _ :: ss, st, Z, h => Rel.settleR (rs := rs) (ss := ss) h
  | .obox _ _ :: rs, s :: ss, st, Z, h => by
    simp only [Vc.settleR]
    split
    . split
      . obtain ⟨Z1, h1⟩ := h.settle _
        exact Rel.settleR (rs := rs) (ss := ss) h1
      . exact Rel.settleR (rs := rs) (ss := ss) h
    . exact Rel.settleR (rs := rs) (ss := ss) h
  | [], _, st, Z, h => ⟨Z, h⟩
  | .val _ _ :: _, [], st, Z, h => ⟨Z, h⟩
  | .own _ _ :: _, [], st, Z, h => ⟨Z, h⟩
  | .obox _ _ :: _, [], st, Z, h => ⟨Z, h⟩
theorem B7r (h : Rel za w0 st E w Z B) {Zn : Nat -> Prop} (hzn : ∀ b, Zn b -> Z b) : ∀ {rs : List RT} {ss : List SV} {vs : List Value} {r : A5f rs}, ((∀ b, Z b -> Zn b) \/ rs.all F4v = true) -> RSs w Z B ss vs -> E1k st rs ss = some r -> (A4o rs ss).Nodup ->
    C1k w0.heap.size w Zn rs vs r /\ ∀ u ∈ A0k rs vs, ∀ b, root u = some b -> ∃ k ∈ A4o rs ss, D8 w (B k) (st.L k) b
  | [], [], vs, _, _, hr, _, _ => ⟨hr, fun u hu => by simp [A0k] at hu⟩
  | [], _ :: _, _, _, _, _, hp, _ => by cases hp
  | .val _ _ :: _, [], _, _, _, _, hp, _ => by cases hp
  | .own _ _ :: _, [], _, _, _, _, hp, _ => by cases hp
  | .obox _ _ :: _, [], _, _, _, _, hp, _ => by cases hp
  | .val a t :: rs, s :: ss, _, r, hf, ⟨v, vs', e, h1, h2⟩, hp, hn => by
    simp only [E1k, bind_some, Option.map_eq_some_iff] at hp
    obtain ⟨x, hx, y, hy, rfl⟩ := hp
    have hid : A4o (.val a t :: rs) (s :: ss) = A4o rs ss := by
      obtain ⟨sa, sc⟩ := s
      simp only [A4o]
    rw [hid] at hn ⊢
    obtain ⟨g1, g2⟩ := B7r h hzn (hf.imp id fun hh => by simp only [List.all_cons, Bool.and_eq_true] at hh; exact hh.2) h2 hy hn
    subst e
    refine ⟨⟨v, vs', rfl, ?_, fun hh => (by cases hh), g1⟩, g2⟩
    have hrep := A0m h1 hx
    rcases hf with hf | hf
    . exact hrep.mono hf (fun _ _ => rfl)
    . simp only [List.all_cons, Bool.and_eq_true] at hf
      cases a with
      | true => obtain ⟨cs, e, hrep⟩ := hrep; exact ⟨cs, e, Rep.flat hf.1 hrep⟩
      | false => exact Rep.flat (cs := [v]) hf.1 hrep
  | .own t e0 :: rs, s :: ss, _, r, hf, ⟨v, vs', e, h1, h2⟩, hp, hn => by
    simp only [E1k, bind_some, Option.map_eq_some_iff] at hp
    obtain ⟨l, ⟨c, hc, hl⟩, y, hy, rfl⟩ := hp
    subst e
    have hcs : s = ⟨false, [c]⟩ := by
      unfold c1 at hc; split at hc
      . cases hc; rfl
      . cases hc
    subst hcs
    obtain ⟨_, _, e1, hrc, _⟩ := h1
    cases e1
    obtain ⟨xs, o1, o2, o3, o4⟩ := C7z h hrc hl
    have hro := H0 o1
    have hEach : Q3 (Rep t w Zn) xs l := by
      rcases hf with hf | hf
      . exact o2.mono fun _ _ => Rep.mono hf (fun _ _ => rfl)
      . simp only [List.all_cons, Bool.and_eq_true] at hf
        exact o2.mono fun _ _ hh => Rep.flat hf.1 hh
    have hf' : (∀ b, Z b -> Zn b) \/ rs.all F4v = true := hf.imp id fun hh => by simp only [List.all_cons, Bool.and_eq_true] at hh; exact hh.2
    rcases o4 with ⟨q, rfl, hlq, hvq⟩ | ⟨hnr, hnq⟩
    . have hid : A4o (.own t e0 :: rs) (⟨false, [.row q]⟩ :: ss) = q :: A4o rs ss := rfl
      rw [hid] at hn ⊢
      have hn' := List.nodup_cons.1 hn
      obtain ⟨g1, g2⟩ := B7r h hzn hf' h2 hy hn'.2
      refine ⟨⟨v, vs', rfl, ⟨xs, o1, hEach, fun b hb hz => o3 b hb (hzn b hz)⟩, fun _ b hb u hu hub => ?_, g1⟩, fun u hu b hb => ?_⟩
      . obtain ⟨k, hk, hrk⟩ := g2 u hu b hub
        have hqb : root (B q) = some b := by rw [<- hvq]; exact hb
        exact h.disj q k b (fun hh => hn'.1 (hh ▸ hk)) (D8.of hlq hqb) hrk
      . simp only [A0k, List.mem_cons] at hu
        rcases hu with rfl | hu
        . exact ⟨q, by simp, D8.of hlq (by rw [<- hvq]; exact hb)⟩
        . obtain ⟨k, hk, r⟩ := g2 u hu b hb
          exact ⟨k, List.mem_cons_of_mem _ hk, r⟩
    . have hid : A4o (.own t e0 :: rs) (⟨false, [c]⟩ :: ss) = A4o rs ss := by cases c <;> first | rfl | exact absurd rfl (hnq _)
      rw [hid] at hn ⊢
      obtain ⟨g1, g2⟩ := B7r h hzn hf' h2 hy hn
      have hno : ∀ b, root v ≠ some b := fun b hb => by rw [hnr] at hb; cases hb
      refine ⟨⟨v, vs', rfl, ⟨xs, o1, hEach, fun b hb => absurd (hro.trans hb) (hno b)⟩, fun _ b hb => absurd hb (hno b), g1⟩, fun u hu b hb => ?_⟩
      simp only [A0k, List.mem_cons] at hu
      rcases hu with rfl | hu
      . exact absurd hb (hno b)
      . exact g2 u hu b hb
  | .obox T t :: rs, s :: ss, _, r, hf, ⟨v, vs', e, h1, h2⟩, hp, hn => by
    simp only [E1k, bind_some, Option.map_eq_some_iff] at hp
    obtain ⟨x, ⟨q, hq, hx⟩, y, hy, rfl⟩ := hp
    subst e
    obtain ⟨hnm, hx⟩ := E6 hx
    have hcs : s = ⟨false, [.box q 0]⟩ := by
      unfold E8a at hq; split at hq
      . cases hq; rfl
      . cases hq
    subst hcs
    obtain ⟨_, _, e1, ⟨b', e2, e3⟩, _⟩ := h1
    cases e1
    obtain ⟨cs, hqL, hpk⟩ := B9y hx
    have hL := h.locs q
    rw [hqL] at hL
    obtain ⟨g, us, d1, d2, d3, d4, d5⟩ := hL
    rw [d1] at e2
    cases e2
    have hrep := A3s d5 hpk
    have hrep' : Rep t w Zn us.toList x := by
      rcases hf with hf | hf
      . exact Rep.mono hf (fun _ _ => rfl) hrep
      . simp only [List.all_cons, Bool.and_eq_true] at hf
        exact Rep.flat hf.1 hrep
    have hf' : (∀ b, Z b -> Zn b) \/ rs.all F4v = true := hf.imp id fun hh => by simp only [List.all_cons, Bool.and_eq_true] at hh; exact hh.2
    have hid : A4o (.obox T t :: rs) (⟨false, [.box q 0]⟩ :: ss) = q :: A4o rs ss := rfl
    rw [hid] at hn ⊢
    have hn' := List.nodup_cons.1 hn
    obtain ⟨g1, g2⟩ := B7r h hzn hf' h2 hy hn'.2
    have hbase : w0.heap.size <= b' := by
      rcases d2 with d2 | d2
      . exact d2.2
      . have := h.nms.1
        have := Nat.le_of_ble_eq_true hnm
        omega
    have hfq : ∀ c, root (Value.pointer (some ⟨b', 0, none⟩)) = some c -> D8 w (B q) (st.L q) c := fun c hc => by rw [hqL, d1]; exact hc
    refine ⟨⟨v, vs', rfl, ⟨b', us, e3, hbase, fun hz => d3 (hzn b' hz), d4, hrep'⟩, fun _ b hb u hu hub => ?_, g1⟩, fun u hu b hb => ?_⟩
    . obtain ⟨k, hk, hrk⟩ := g2 u hu b hub
      rw [e3] at hb
      exact h.disj q k b (fun hh => hn'.1 (hh ▸ hk)) (hfq b hb) hrk
    . simp only [A0k, List.mem_cons] at hu
      rcases hu with rfl | hu
      . rw [e3] at hb; exact ⟨q, by simp, hfq b hb⟩
      . obtain ⟨k, hk, r⟩ := g2 u hu b hb
        exact ⟨k, List.mem_cons_of_mem _ hk, r⟩
theorem Rel.settleM : ∀ {as : List AM} {st : St} {j : Nat} {Z : Nat -> Prop}, Rel za w0 st E w Z B -> ∃ Z', Rel za w0 (settleM st as j) E w Z' B
  | [], st, _, Z, h => ⟨Z, h⟩
  | .row _ _ :: r, st, j, Z, h => Rel.settleM (as := r) h
  | .val _ _ :: r, st, j, Z, h => Rel.settleM (as := r) h
  | .fn _ _ _ :: r, st, j, Z, h => Rel.settleM (as := r) h
  | .rows _ _ _ :: r, st, j, Z, h => Rel.settleM (as := r) h
  | .box _ _ :: r, st, j, Z, h => by
    simp only [Vc.settleM]
    split
    . obtain ⟨Z1, h1⟩ := h.settle _
      exact Rel.settleM (as := r) h1
    . exact Rel.settleM (as := r) h
theorem C2h (h : Rel za w0 st E w Z B) {Zn : Nat -> Prop} : ∀ {as : List AM} {vs : List Value} {o : D2s as} {j : Nat}, ((∀ b, Z b -> Zn b) \/ as.all G1k = true) -> (∀ m u, (C9 as vs)[m]? = some u -> B (j + m) = u) -> (∀ m p, (W0 as vs)[m]? = some p -> ∀ b, up za w0 (j + m) b -> D8 w0 p.2 (lcA p.1) b) -> vs.length = as.length -> F2z st as j = some o -> D8q w0 w Zn as vs o
  | [], _, _, _, _, _, _, _, _ => trivial
  | a :: r, [], _, _, _, _, _, hl, _ => by simp at hl
  | .val _ _ :: r, v :: vs, o, j, hf, hB, hU, hl, ho => C2h (as := r) h (hf.imp id fun hh => by simp only [List.all_cons, Bool.and_eq_true] at hh; exact hh.2) hB hU (by simpa using hl) ho
  | .fn _ _ _ :: r, v :: vs, o, j, hf, hB, hU, hl, ho => C2h (as := r) h (hf.imp id fun hh => by simp only [List.all_cons, Bool.and_eq_true] at hh; exact hh.2) hB hU (by simpa using hl) ho
  | .row t e :: r, v :: vs, o, j, hf, hB, hU, hl, ho => by
    simp only [F2z, bind_some, Option.map_eq_some_iff] at ho
    obtain ⟨x, hx, y, hy, rfl⟩ := ho
    have hBj : B j = v := hB 0 v (by simp [C9, Q7])
    have hL := h.locs j
    rw [C0g hx] at hL
    obtain ⟨xs, g1, g2, _⟩ := hL
    rw [hBj] at g1
    refine ⟨⟨xs, g1, ?_⟩, C2h (as := r) h (hf.imp id fun hh => by simp only [List.all_cons, Bool.and_eq_true] at hh; exact hh.2) (fun m u hm => by rw [show j + 1 + m = j + (m + 1) from by omega]; exact hB (m + 1) u (by simpa [C9, Q7] using hm)) (fun m p hm => by rw [show j + 1 + m = j + (m + 1) from by omega]; exact hU (m + 1) p (by simpa [W0, Q7] using hm)) (by simpa using hl) hy⟩
    rcases hf with hf | hf
    . exact g2.mono fun _ _ => Rep.mono hf (fun _ _ => rfl)
    . simp only [List.all_cons, Bool.and_eq_true] at hf
      exact g2.mono fun _ _ hh => Rep.flat hf.1 hh
  | .box T t :: r, v :: vs, o, j, hf, hB, hU, hl, ho => by
    simp only [F2z, bind_some, Option.map_eq_some_iff] at ho
    obtain ⟨x, hx, y, hy, rfl⟩ := ho
    have hBj : B j = v := hB 0 v (by simp [C9, Q7])
    obtain ⟨cs, hc, hp⟩ := B9y hx
    have hL := h.locs j
    rw [hc] at hL
    obtain ⟨b, us, g1, _, _, g4, g5⟩ := hL
    rw [hBj] at g1
    refine ⟨⟨b, us, g1, g4, ?_⟩, C2h (as := r) h (hf.imp id fun hh => by simp only [List.all_cons, Bool.and_eq_true] at hh; exact hh.2) (fun m u hm => by rw [show j + 1 + m = j + (m + 1) from by omega]; exact hB (m + 1) u (by simpa [C9, Q7] using hm)) (fun m p hm => by rw [show j + 1 + m = j + (m + 1) from by omega]; exact hU (m + 1) p (by simpa [W0, Q7] using hm)) (by simpa using hl) hy⟩
    have := A3s g5 hp
    rcases hf with hf | hf
    . exact Rep.mono hf (fun _ _ => rfl) this
    . simp only [List.all_cons, Bool.and_eq_true] at hf
      exact Rep.flat hf.1 this
  | .rows t e e' :: r, v :: vs, o, j, hf, hB, hU, hl, ho => by
    simp only [F2z, bind_some, Option.map_eq_some_iff] at ho
    obtain ⟨x, hx, y, hy, rfl⟩ := ho
    have hBj : B j = v := hB 0 v (by simp [C9, Q7])
    have hL := h.locs j
    obtain ⟨al, ha⟩ := A7g hx
    rw [ha] at hL
    have hR := hL.rowsR
    rw [hBj] at hR
    refine ⟨⟨?_, fun b hb => ?_⟩, C2h (as := r) h (hf.imp id fun hh => by simp only [List.all_cons, Bool.and_eq_true] at hh; exact hh.2) (fun m u hm => by rw [show j + 1 + m = j + (m + 1) from by omega]; exact hB (m + 1) u (by simpa [C9, Q7] using hm)) (fun m p hm => by rw [show j + 1 + m = j + (m + 1) from by omega]; exact hU (m + 1) p (by simpa [W0, Q7] using hm)) (by simpa using hl) hy⟩
    . rcases hf with hf | hf
      . exact hR.mono hf
      . simp only [List.all_cons, Bool.and_eq_true] at hf
        obtain ⟨xs, h1, h3, h4, h5⟩ := hR
        exact ⟨xs, h1, fun i l x hl hx => (h3 i l x hl hx).imp fun ys hy => ⟨hy.1, hy.2.mono fun _ _ hh => Rep.flat hf.1 hh⟩, h4, h5⟩
    . have hb' : D8 w (B j) (st.L j) b := by rw [ha, hBj]; exact (X9 fun _ _ => rfl).1 hb
      exact hU 0 (.rows t e e', v) (by simp [W0, Q7]) b ((h.locs j).root hb').1
variable {P : Program}
theorem A3x {n : Nat} : ∀ {as : List AM} {vs : List Value} {x : A7 as} {i j s : Nat}, A1l P w Z as vs x -> i <= s -> (∀ m u, (C9 as vs)[m]? = some u -> B (j + m) = u) -> j + C7q as <= n -> RD w Z B E (find (0, .dead) s (B0i P as x i j)).2 ((vs[s - i]?).getD undef) /\ E5f n (find (0, .dead) s (B0i P as x i j)).2
  | [], _, _, _, _, _, _, _, _, _ => ⟨trivial, trivial⟩
  | a :: r, _, x, i, j, s, ⟨v, vs', e, h1, h2⟩, hi, hB, hn => by
    subst e
    by_cases his : i = s
    . subst his
      cases a with
      | val a t =>
        simp only [B0i, find, Nat.beq_refl, cond_true, Nat.sub_self]
        exact ⟨A7z.explode h1, D3⟩
      | row t e =>
        simp only [B0i, find, Nat.beq_refl, cond_true, Nat.sub_self]
        have hBj : B j = v := hB 0 v (by simp [C9, Q7])
        exact ⟨⟨v, [], rfl, hBj.symm, rfl⟩, fun c hc => by simp at hc; subst hc; simp only [C7q] at hn; show j < n; omega⟩
      | box T t =>
        simp only [B0i, find, Nat.beq_refl, cond_true, Nat.sub_self]
        have hBj : B j = v := hB 0 v (by simp [C9, Q7])
        obtain ⟨b, us, g1, _⟩ := h1
        exact ⟨⟨v, [], rfl, ⟨b, hBj.trans g1, g1⟩, rfl⟩, fun c hc => by simp at hc; subst hc; simp only [C7q] at hn; show j < n; omega⟩
      | rows t e e' =>
        simp only [B0i, find, Nat.beq_refl, cond_true, Nat.sub_self]
        have hBj : B j = v := hB 0 v (by simp [C9, Q7])
        exact ⟨⟨v, [], rfl, hBj.symm, rfl⟩, fun c hc => by simp at hc; subst hc; simp only [C7q] at hn; show j < n; omega⟩
      | fn as' r' =>
        simp only [B0i, find, Nat.beq_refl, cond_true, Nat.sub_self]
        exact ⟨⟨v, [], rfl, h1, rfl⟩, fun c hc => by simp at hc; subst hc; trivial⟩
    . have he : s - i = (s - (i + 1)) + 1 := by omega
      rw [he]
      cases a with
      | val a t =>
        simp only [B0i, find, F5 his, cond_false, List.getElem?_cons_succ]
        exact A3x (i := i + 1) (s := s) h2 (by omega) hB hn
      | fn as' r' =>
        simp only [B0i, find, F5 his, cond_false, List.getElem?_cons_succ]
        exact A3x (i := i + 1) (s := s) h2 (by omega) hB hn
      | row t e =>
        simp only [B0i, find, F5 his, cond_false, List.getElem?_cons_succ]
        exact A3x (i := i + 1) (s := s) h2 (by omega) (fun m u hm => by rw [show j + 1 + m = j + (m + 1) from by omega]; exact hB (m + 1) u (by simpa [C9, Q7] using hm)) (by simp only [C7q] at hn; omega)
      | box t e =>
        simp only [B0i, find, F5 his, cond_false, List.getElem?_cons_succ]
        exact A3x (i := i + 1) (s := s) h2 (by omega) (fun m u hm => by rw [show j + 1 + m = j + (m + 1) from by omega]; exact hB (m + 1) u (by simpa [C9, Q7] using hm)) (by simp only [C7q] at hn; omega)
      | rows t e e' =>
        simp only [B0i, find, F5 his, cond_false, List.getElem?_cons_succ]
        exact A3x (i := i + 1) (s := s) h2 (by omega) (fun m u hm => by rw [show j + 1 + m = j + (m + 1) from by omega]; exact hB (m + 1) u (by simpa [C9, Q7] using hm)) (by simp only [C7q] at hn; omega)
theorem E8t {n : Nat} {U : Nat -> Nat -> Prop} : ∀ {as : List AM} {vs : List Value} {x : A7 as} {j k : Nat}, A1l P w Z as vs x -> (∀ m p, (W0 as vs)[m]? = some p -> B (j + m) = p.2 /\ ∀ b, D8 w p.2 (lcA p.1) b -> U (j + m) b) ->
    RL (U k) w Z B k (find (0, .none) k (A5g as x j)).2 /\ E2v n (find (0, .none) k (A5g as x j)).2 /\ (live (find (0, .none) k (A5g as x j)).2 -> j <= k /\ ∃ p, (W0 as vs)[k - j]? = some p /\ ∀ b, D8 w (B k) (find (0, .none) k (A5g as x j)).2 b -> D8 w p.2 (lcA p.1) b) := by
  intro as
  induction as with
  | nil => intro _ _ _ _ _ _; exact ⟨trivial, trivial, fun h => h.elim⟩
  | cons a r ih =>
    intro vs x j k h hB
    obtain ⟨v, vs', e, h1, h2⟩ := h
    subst e
    have hrest : Q7 a = true -> j ≠ k -> RL (U k) w Z B k (find (0, .none) k (A5g r x.2 (j + 1))).2 /\ E2v n (find (0, .none) k (A5g r x.2 (j + 1))).2 /\ (live (find (0, .none) k (A5g r x.2 (j + 1))).2 -> j <= k /\ ∃ p, (W0 (a :: r) (v :: vs'))[k - j]? = some p /\ ∀ b, D8 w (B k) (find (0, .none) k (A5g r x.2 (j + 1))).2 b -> D8 w p.2 (lcA p.1) b) := fun hm hjk => by
      obtain ⟨q1, q2, q3⟩ := ih (vs := vs') (x := x.2) (j := j + 1) (k := k) h2 (fun m p hp => by rw [show j + 1 + m = j + (m + 1) from by omega]; exact hB (m + 1) p (by simpa [W0, hm] using hp))
      refine ⟨q1, q2, fun hl => ⟨by have := (q3 hl).1; omega, ?_⟩⟩
      obtain ⟨q4, p, q5, q6⟩ := q3 hl
      refine ⟨p, ?_, q6⟩
      rw [show k - j = (k - (j + 1)) + 1 from by omega]
      simpa [W0, hm] using q5
    cases a with
    | val a t => exact ih (x := x.2) h2 hB
    | fn a t => exact ih (x := x.2) h2 hB
    | row t e0 =>
      simp only [A5g, find]
      by_cases hjk : j = k
      . subst hjk
        simp only [Nat.beq_refl, cond_true]
        obtain ⟨hBj, hUj⟩ := hB 0 (.row t e0, v) (by simp [W0, Q7])
        obtain ⟨xs, g1, g2, g3⟩ := h1
        have hBj : B j = v := hBj
        refine ⟨⟨xs, by rw [hBj]; exact g1, g2, fun b hb => ?_⟩, trivial, fun _ => ⟨Nat.le_refl _, (.row t e0, v), by simp [W0, Q7], fun b hb => by rw [hBj] at hb; exact hb⟩⟩
        rw [hBj] at hb
        exact ⟨hUj b ((H0 g1).trans hb), g3 b hb⟩
      . simp only [F5 hjk, cond_false]
        exact hrest rfl hjk
    | box T t =>
      simp only [A5g, find]
      by_cases hjk : j = k
      . subst hjk
        simp only [Nat.beq_refl, cond_true]
        obtain ⟨hBj, hUj⟩ := hB 0 (.box T t, v) (by simp [W0, Q7])
        obtain ⟨b, us, g1, g2, g3, g4⟩ := h1
        have hBj : B j = v := hBj
        exact ⟨⟨b, us, hBj.trans g1, hUj b (by rw [g1]; rfl), g2, g3, Q8 g4⟩, D3, fun _ => ⟨Nat.le_refl _, (.box T t, v), by simp [W0, Q7], fun b hb => by rw [hBj] at hb; exact hb⟩⟩
      . simp only [F5 hjk, cond_false]
        exact hrest rfl hjk
    | rows t e0 e1 =>
      simp only [A5g, find]
      by_cases hjk : j = k
      . subst hjk
        simp only [Nat.beq_refl, cond_true]
        obtain ⟨hBj, hUj⟩ := hB 0 (.rows t e0 e1, v) (by simp [W0, Q7])
        obtain ⟨g1, g2⟩ := h1
        have hBj : B j = v := hBj
        refine ⟨C3e.rl (by rw [hBj]; exact g1) fun b hb => ?_, fun p hp => (by cases hp), fun _ => ⟨Nat.le_refl _, (.rows t e0 e1, v), by simp [W0, Q7], fun b hb => by rw [hBj] at hb; exact (X9 fun _ _ => rfl).1 hb⟩⟩
        rw [hBj] at hb
        exact ⟨hUj b ((X9 fun _ _ => rfl).1 hb), g2 b hb⟩
      . simp only [F5 hjk, cond_false]
        exact hrest rfl hjk
theorem A1l.len : ∀ {as : List AM} {vs : List Value} {x : A7 as}, A1l P w Z as vs x -> vs.length = as.length
  | [], _, _, h => by rw [show _ = _ from h]; rfl
  | _ :: _, _, _, ⟨v, vs', e, _, h2⟩ => by rw [e, List.length_cons, List.length_cons, A1l.len h2]
theorem W1 : ∀ {as : List AM} {vs : List Value}, vs.length = as.length -> (C9 as vs).length = C7q as
  | [], vs, _ => by cases vs <;> rfl
  | a :: r, [], h => by simp at h
  | .val _ _ :: r, v :: vs, h => W1 (as := r) (by simpa using h)
  | .fn _ _ _ :: r, v :: vs, h => W1 (as := r) (by simpa using h)
  | .row _ _ :: r, v :: vs, h => by simp only [C9, Q7, cond_true, List.length_cons, C7q]; rw [W1 (as := r) (by simpa using h)]
  | .box _ _ :: r, v :: vs, h => by simp only [C9, Q7, cond_true, List.length_cons, C7q]; rw [W1 (as := r) (by simpa using h)]
  | .rows _ _ _ :: r, v :: vs, h => by simp only [C9, Q7, cond_true, List.length_cons, C7q]; rw [W1 (as := r) (by simpa using h)]
theorem B2z : ∀ (as : List AM) (vs : List Value), C9 as vs = (W0 as vs).map (·.2)
  | [], vs => by cases vs <;> rfl
  | _ :: _, [] => rfl
  | a :: r, v :: vs => by
    simp only [C9, W0]
    cases Q7 a
    . exact B2z r vs
    . simp only [cond_true, List.map_cons, B2z r vs]
theorem Dis.get : ∀ {l : List (AM × Value)} {m m' b : Nat} {u u' : AM × Value}, Dis w l -> m < m' -> l[m]? = some u -> l[m']? = some u' -> D8 w u.2 (lcA u.1) b -> ¬ D8 w u'.2 (lcA u'.1) b
  | [], _, _, _, _, _, _, _, h, _, _ => by simp at h
  | v :: l, 0, m' + 1, b, u, u', hd, hm, h, h', hb => by
    simp at h h'
    subst h
    exact hd.1 b hb u' (List.mem_of_getElem? h')
  | v :: l, m + 1, m' + 1, b, u, u', hd, hm, h, h', hb => by
    simp at h h'
    exact Dis.get hd.2 (by omega) h h' hb
  | v :: l, _, 0, _, _, _, _, hm, _, _, _ => by omega
def F4n (as : List AM) (vs : List Value) : Nat -> Value := fun j => ((C9 as vs)[j]?).getD (.bool false)
theorem C1n : ∀ {as : List AM} {vs : List Value} {x : A7 as}, A1l P w Z as vs x -> ∀ u ∈ C9 as vs, u.oneCell' = true
  | [], vs, _, _, u, hu => by cases vs <;> cases hu
  | .val _ _ :: r, _, _, ⟨v, vs', e, _, h2⟩, u, hu => by subst e; exact C1n (as := r) h2 u hu
  | .fn _ _ _ :: r, _, _, ⟨v, vs', e, _, h2⟩, u, hu => by subst e; exact C1n (as := r) h2 u hu
  | .row t e0 :: r, _, _, ⟨v, vs', e, ⟨xs, g, _⟩, h2⟩, u, hu => by
    subst e
    simp only [C9, Q7, cond_true, List.mem_cons] at hu
    rcases hu with rfl | hu
    . rcases g.2 with ⟨hv, _⟩ | ⟨_, _, _, hv, _⟩ <;> rw [hv] <;> rfl
    . exact C1n (as := r) h2 u hu
  | .rows t e0 e1 :: r, _, _, ⟨v, vs', e, ⟨⟨xs, g, _⟩, _⟩, h2⟩, u, hu => by
    subst e
    simp only [C9, Q7, cond_true, List.mem_cons] at hu
    rcases hu with rfl | hu
    . rcases g.2 with ⟨hv, _⟩ | ⟨_, _, _, hv, _⟩ <;> rw [hv] <;> rfl
    . exact C1n (as := r) h2 u hu
  | .box t e0 :: r, _, _, ⟨v, vs', e, ⟨b, us, g, _⟩, h2⟩, u, hu => by
    subst e
    simp only [C9, Q7, cond_true, List.mem_cons] at hu
    rcases hu with rfl | hu
    . rw [g]; rfl
    . exact C1n (as := r) h2 u hu
theorem A3y : ∀ {as : List AM} {x : A7 as} {j k : Nat}, ¬ live (find (0, .none) k (A5g as x j)).2 -> (find (0, .none) k (A5g as x j)).2 = .none
  | [], _, _, _, _ => rfl
  | .val _ _ :: r, x, j, k, h => A3y (as := r) (x := x.2) (j := j) h
  | .fn _ _ _ :: r, x, j, k, h => A3y (as := r) (x := x.2) (j := j) h
  | .row t e0 :: r, x, j, k, h => by
    simp only [A5g, find] at h ⊢
    cases hb : Nat.beq j k with
    | true => rw [hb] at h; exact absurd trivial h
    | false => rw [hb] at h; exact A3y (as := r) h
  | .rows t e0 e1 :: r, x, j, k, h => by
    simp only [A5g, find] at h ⊢
    cases hb : Nat.beq j k with
    | true => rw [hb] at h; exact absurd trivial h
    | false => rw [hb] at h; exact A3y (as := r) h
  | .box T t :: r, x, j, k, h => by
    simp only [A5g, find] at h ⊢
    cases hb : Nat.beq j k with
    | true => rw [hb] at h; exact absurd trivial h
    | false => rw [hb] at h; exact A3y (as := r) h
def G3m (w : World) (as : List AM) (vs : List Value) : Nat -> Nat -> Prop := fun k b => ∃ p : AM × Value, (W0 as vs)[k]? = some p /\ D8 w p.2 (lcA p.1) b
def zn0 (w : World) (Z : Nat -> Prop) (as : List AM) (vs : List Value) : Zn := ⟨Z, F6j w as vs, C7q as, F4n as vs, 0, 0, G3m w as vs, fun _ _ ⟨p, hp, hb⟩ => ⟨p, List.mem_of_getElem? hp, hb⟩, []⟩
theorem F8m {as : List AM} {vs : List Value} {x : A7 as} (hz : ∀ b, Z b -> b < w.heap.size) (h : A1l P w Z as vs x) (hd : Dis w (W0 as vs)) : Rel (zn0 w Z as vs) w (E9m P as x) (E0v vs) w Z (F4n as vs) := by
  have hlen := W1 (A1l.len h)
  have hB : ∀ m u, (C9 as vs)[m]? = some u -> F4n as vs (0 + m) = u := fun m u hm => by simp only [F4n, Nat.zero_add, hm, Option.getD_some]
  have hBp : ∀ (m : Nat) (p : AM × Value), (W0 as vs)[m]? = some p -> (C9 as vs)[m]? = some p.2 := fun m p hm => by rw [B2z, List.getElem?_map, hm]; rfl
  have hT := fun k => E8t (P := P) (w := w) (Z := Z) (B := F4n as vs) (n := C7q as) (U := fun k b => up (zn0 w Z as vs) w k b) (j := 0) (k := k) h (fun m p hm => ⟨hB m p.2 (hBp m p hm), fun b hb => .inr ⟨by have := D9g (hBp m p hm); simp only [Nat.zero_add]; show m < C7q as; omega, p, by simpa using hm, hb⟩⟩)
  have hS := fun s => A3x (P := P) (w := w) (Z := Z) (B := F4n as vs) (E := E0v vs) (n := C7q as) (i := 0) (j := 0) (s := s) h (Nat.zero_le _) hB (by omega)
  refine ⟨C1g.of (Ext.refl w), hz, fun s => (hS s).1, fun k => (hT k).1, fun k k' b hne l1 l2 => ?_, fun s => (hS s).2, fun k => (hT k).2.1, fun k hk => ?_, fun k => ?_, fun b hb => .inl hb, ⟨rfl, Nat.le_refl _⟩, fun _ _ => rfl, ⟨Nat.zero_le _, fun _ _ _ _ => Nat.zero_le _⟩, trivial, fun f hf => (by cases hf)⟩
  . obtain ⟨_, p, a1, f1⟩ := (hT k).2.2 l1.live
    obtain ⟨_, p', a2, f2⟩ := (hT k').2.2 l2.live
    simp only [Nat.sub_zero] at a1 a2
    rcases Nat.lt_or_ge k k' with hlt | hge
    . exact hd.get hlt a1 a2 (f1 b l1) (f2 b l2)
    . exact hd.get (by omega : k' < k) a2 a1 (f2 b l2) (f1 b l1)
  . by_cases hl : live ((E9m P as x).L k)
    . obtain ⟨_, p, a1, _⟩ := (hT k).2.2 hl
      simp only [Nat.sub_zero] at a1
      have := D9g (hBp k p a1)
      have hk : C7q as <= k := hk
      omega
    . exact A3y hl
  . simp only [F4n]
    cases hm : (C9 as vs)[k]? with
    | none => rfl
    | some u => exact C1n h u (List.mem_of_getElem? hm)
theorem F4x {f : FuncId} {fn : Func} {c : Code} {s : B9} (hf : cx.P.funcs[f]? = some fn) (hb : fn.body = some c) (hn : s.args.length <= fn.ntmps) (hok : A2j fn.ntmps c = true) (hty : R2 cx.P cx.tys = true) (hsp : D8o cx.P sp)
    (hv : ∀ x, awf s.args x -> s.pre x -> G2y cx sp an s fn.results.toList c x) : C0 cx.P f s := by
  intro w Z vs x hz hre hdis hpre
  have hlen : vs.length = s.args.length := hre.len
  have hsem := hv x hre.awf hpre
  generalize hza : zn0 w Z s.args vs = za
  have hinit := F8m hz hre hdis
  rw [hza] at hinit
  refine C9q hf hb (by rw [hlen]; exact hn) hok (fun E w' => Nx za w (fin cx s fn.results.toList x) E w') ?_ ⟨fun hok' a hr => ?_⟩
  . rintro E w' tmps ht ⟨st, Z', B', h, hfin⟩
    unfold fin at hfin
    split at hfin
    . rename_i ss hss
      split at hfin
      . rename_i ss1 hss1
        split at hfin
        . rename_i r o hr ho
          obtain ⟨hnd, hpost⟩ := B4 hfin
          simp only [Bool.and_eq_true] at hnd
          obtain ⟨Z0, h0⟩ := Rel.settleR (rs := s.res) (ss := ss) h
          obtain ⟨Z1, h1⟩ := Rel.settleM (as := s.args) (j := 0) h0
          obtain ⟨us, g1, g2⟩ := C7p hty h1 ht hss1
          have hres : (results fn tmps).run cx.P w' = .ok (D0j us) w' := by
            have hm : (fn.results.mapM (F6f tmps)).run cx.P w' = .ok us.toArray w' := by
              rw [Array.mapM_eq_mapM_toList]
              simp [g1]
            have e : results fn tmps = (do let vs <- fn.results.mapM (F6f tmps); pure (if h : vs.size = 1 then vs[0] else .tuple vs)) := by
              unfold results
              congr 1
            rw [e]
            simp only [Sem.run_bind, hm, Result.andThen_ok, Sem.run_pure]
            match us with
            | [] => rfl
            | [u] => rfl
            | u :: u' :: r => rfl
          have hpost' : s.post x r /\ (T2 s.args = true -> s.mpost x r o) := by
            unfold G3s at hpost
            cases hm : T2 s.args with
            | true => simp only [hm, cond_true] at hpost; exact ⟨hpost.1, fun _ => hpost.2⟩
            | false => simp only [hm, cond_false] at hpost; exact ⟨hpost, fun hh => by cases hh⟩
          refine ⟨_, hres, ?_, r, o, us, (fun b => s.shared = true /\ Z1 b), hpost'.1, hpost'.2, rfl, fun b hb => ?_, ?_, ?_⟩
          . have := h.ext; rw [<- hza] at this; exact this
          . rcases h1.zin b hb.2 with hh | hh
            . rw [<- hza] at hh; exact .inr ⟨hb.1, hh⟩
            . exact .inl ⟨hh, h1.zlt b hb.2⟩
          . refine (B7r h1 (Zn := fun b => s.shared = true /\ Z1 b) (fun b hb => hb.2) ?_ g2 hr (A4z hnd.1)).1
            cases hsh : s.shared with
            | true => exact .inl fun b hb => ⟨rfl, hb⟩
            | false => rw [hsh] at hnd; simp only [Bool.false_or, Bool.and_eq_true] at hnd; exact .inr hnd.2.1
          . refine C2h (Zn := fun b => s.shared = true /\ Z1 b) h1 (j := 0) ?_ (fun m u hm => ?_) (fun m p hm b hu => ?_) hlen ho
            . cases hsh : s.shared with
              | true => exact .inl fun b hb => ⟨rfl, hb⟩
              | false => rw [hsh] at hnd; simp only [Bool.false_or, Bool.and_eq_true] at hnd; exact .inr hnd.2.2
            . have hlt := D9g hm
              rw [W1 hlen] at hlt
              have := h1.bfix m (by rw [<- hza]; exact hlt)
              rw [Nat.zero_add, this, <- hza]
              show F4n s.args vs m = u
              simp only [F4n, hm, Option.getD_some]
            . rw [<- hza, Nat.zero_add] at hu
              rcases hu with ⟨hu, _⟩ | ⟨_, p', hp', hb⟩
              . have hlt := D9g (show (C9 s.args vs)[m]? = some p.2 by rw [B2z, List.getElem?_map, hm]; rfl)
                rw [W1 hlen] at hlt
                have hu : C7q s.args <= m := hu
                omega
              . rw [hm] at hp'; cases hp'; exact hb
        . exact hfin.elim
      . exact hfin.elim
    . exact hfin.elim
  . refine wp_mono (E9o hty hsp (by rw [<- hza]; rfl) hinit hsem hok' a hr) ?_
    rintro e a' w' ⟨E', hr', st', Z', B', h', hq⟩
    refine ⟨E', hr', ?_⟩
    cases e with
    | normal => exact ⟨st', Z', B', h', hq⟩
    | ret => exact ⟨st', Z', B', h', hq⟩
    | _ => exact hq.elim
theorem F5k {f : FuncId} {fn : Func} {c : Code} {s : B9} {vc : A7 s.args -> Prop} (hf : cx.P.funcs[f]? = some fn) (hb : fn.body = some c) (hn : s.args.length <= fn.ntmps) (hok : A2j fn.ntmps c = true) (hty : R2 cx.P cx.tys = true) (hsp : D8o cx.P sp)
    (he : ∀ x, G2y cx sp an s fn.results.toList c x = vc x) (hv : ∀ x, awf s.args x -> s.pre x -> vc x) : C0 cx.P f s :=
  F4x hf hb hn hok hty hsp fun x hw hp => by rw [he]; exact hv x hw hp
def K8 (P : Program) (tys : List (Nat × TI)) (sp : B6) (an : An) (s : B9) (fn : Func) (x : A7 s.args) : Prop := G2y ⟨P, tys⟩ sp an s fn.results.toList (fn.body.getD .skip) x
theorem A4 {P : Program} {tys : List (Nat × TI)} {sp : B6} {an : An} {f : FuncId} {fn : Func} {s : B9} {vc : A7 s.args -> Prop} (hf : P.funcs[f]? = some fn) (hb : fn.body.isSome = true) (hn : Nat.ble s.args.length fn.ntmps = true) (hok : A2j fn.ntmps (fn.body.getD .skip) = true) (hty : R2 P tys = true) (hsp : D8o P sp)
    (he : ∀ x, K8 P tys sp an s fn x = vc x) (hv : ∀ x, awf s.args x -> s.pre x -> vc x) : C0 P f s := by
  cases hbb : fn.body with
  | none => rw [hbb] at hb; cases hb
  | some c =>
    have hc : fn.body.getD .skip = c := by rw [hbb]; rfl
    refine F5k (cx := ⟨P, tys⟩) (an := an) (c := c) hf hbb (Nat.le_of_ble_eq_true hn) (by rw [<- hc]; exact hok) hty hsp (fun x => ?_) hv
    rw [<- he x, <- hc]; rfl
def C3u (ct : Nat) : Nat -> List SV -> List (Nat × Nat × DV)
  | _, [] => []
  | i, s :: ss => (i, ct, .one s) :: C3u ct (i + 1) ss
def E6f (st : St) (ss : List SV) : St := ⟨C3u (st.ct + 1) 0 ss, st.lc, st.nx, st.ct + 1, st.nm, st.sl :: st.fr⟩
def F7d (cx : Cx) (vars : List ResultVar) (k : St -> List SV -> Prop) (st : St) : Prop :=
  match st.fr with
  | f :: fr => (match C7s cx st vars with
    | some ss => k ⟨f, st.lc, st.nx, st.ct, st.nm, fr⟩ ss
    | none => False)
  | [] => False
def D3j (cx : Cx) (ans : List (Nat × B6 × An)) (vars : List ResultVar) (c : Code) (n d : Nat) (st : St) (ss : List SV) (k : St -> List SV -> Prop) : Prop :=
  match A8n d ans with
  | some (sp, an) => bif Nat.ble ss.length n then D1f cx sp an c ⟨F7d cx vars k, fun _ _ => False, F7d cx vars k⟩ (E6f st ss) else False
  | none => False
theorem E1g {vars : List ResultVar} {k k' : St -> List SV -> Prop} {ss : List SV} {st' : St} (ev : Evo (E6f st ss) st') (h : F7d cx vars k st') (hk : ∀ st' ss', Evo st st' -> k st' ss' -> k' st' ss') : F7d cx vars k' st' := by
  unfold F7d at h ⊢
  cases hf : st'.fr with
  | nil => rw [hf] at h; exact h
  | cons f fr =>
    rw [hf] at h
    simp only at h ⊢
    split at h
    . have e := ev.f
      rw [hf] at e
      have e : R7 (st.ct + 1) st.sl f /\ A2y (st.ct + 1) st.fr fr := e
      refine hk _ _ ⟨Nat.le_trans (Nat.le_succ _) ev.ct, fun s h0 h1 => ?_, fun q h0 h1 => ev.l q h0 (Nat.le_succ_of_le h1), e.2.le (Nat.le_succ _)⟩ h
      exact R7.find s e.1 (Nat.le_succ_of_le h1)
    . exact h
theorem F4c (ans : List (Nat × B6 × An)) (vars : List ResultVar) (c : Code) (n : Nat) {st : St} {d : Nat} {ss : List SV} {k k' : St -> List SV -> Prop} (h : D3j cx ans vars c n d st ss k) (hk : ∀ st' ss', Evo st st' -> k st' ss' -> k' st' ss') : D3j cx ans vars c n d st ss k' := by
  unfold D3j at h ⊢
  split at h
  . obtain ⟨hb, h⟩ := B4 h
    simp only [hb, cond_true]
    refine C8u h fun e st' ev hh => ?_
    cases e with
    | normal => exact E1g ev hh hk
    | ret => exact E1g ev hh hk
    | _ => exact hh
  . exact h
def E2k (cx : Cx) (ans : List (Nat × B6 × An)) (vars : List ResultVar) (c : Code) (n : Nat) : Inl := { run := D3j cx ans vars c n, step := F4c ans vars c n }
theorem C4v {ct s : Nat} : ∀ {ss : List SV} {i : Nat}, (find (0, .dead) s (C3u ct i ss)).2 = if i <= s then (match ss[s - i]? with | some v => .one v | none => .dead) else .dead
  | [], i => by simp [C3u, find]
  | v :: ss, i => by
    simp only [C3u, find]
    cases hb : Nat.beq i s with
    | true =>
      have := Nat.eq_of_beq_eq_true hb
      subst this
      simp
    | false =>
      have hne : i ≠ s := Nat.ne_of_beq_eq_false hb
      simp only [cond_false, C4v (ss := ss) (i := i + 1)]
      by_cases h1 : i + 1 <= s
      . rw [if_pos h1, if_pos (by omega), show s - i = (s - (i + 1)) + 1 from by omega, List.getElem?_cons_succ]
      . rw [if_neg h1, if_neg (by omega)]
theorem RSs.len {w : World} {Z : Nat -> Prop} {B : Nat -> Value} : ∀ {ss : List SV} {vs : List Value}, RSs w Z B ss vs -> vs.length = ss.length
  | [], _, h => by rw [show _ = _ from h]; rfl
  | _ :: _, _, ⟨v, vs', e, _, h2⟩ => by rw [e, List.length_cons, List.length_cons, RSs.len h2]
theorem C9s (h : Rel za w0 st E w Z B) : ∀ {vars : List ResultVar} {ss : List SV}, C7s cx st vars = some ss -> ∀ s ∈ ss, C8z st.nx s
  | [], _, hs => by cases hs; intro s hs; cases hs
  | .tmp t :: r, ss, hs => by
    simp only [C7s] at hs
    split at hs
    . rename_i s1 hs1
      simp only [Option.map_eq_some_iff] at hs
      obtain ⟨ss', hs', rfl⟩ := hs
      intro s hm
      rcases List.mem_cons.1 hm with rfl | hm
      . have := h.refs t; rw [hs1] at this; exact this
      . exact C9s h hs' s hm
    . cases hs
  | .cell a t :: r, ss, hs => by
    simp only [C7s, Option.bind_eq_bind, bind_some] at hs
    obtain ⟨ti, _, hs⟩ := hs
    split at hs
    . rename_i k _
      split at hs
      . rename_i T cs hk
        obtain ⟨_, hs⟩ := E6 hs
        simp only [Option.map_eq_some_iff] at hs
        obtain ⟨ss', hs', rfl⟩ := hs
        intro s hm
        rcases List.mem_cons.1 hm with rfl | hm
        . have := h.refl k; rw [hk] at this; exact this
        . exact C9s h hs' s hm
      . cases hs
    . cases hs
def F5f (P : Program) (ans : List (Nat × B6 × An)) : Prop := ∀ x ∈ ans, D8o P x.2.1
theorem E0x {α : Type} {d : Nat} {x : α} : ∀ {l : List (Nat × α)}, A8n d l = some x -> (d, x) ∈ l
  | [], h => by cases h
  | (t, y) :: l, h => by
    simp only [A8n] at h
    cases hb : Nat.beq t d with
    | true =>
      rw [hb] at h
      have := Nat.eq_of_beq_eq_true hb
      subst this
      cases h
      simp
    | false => rw [hb] at h; exact List.mem_cons_of_mem _ (E0x h)
theorem D4j {f : FuncId} {fn : Func} {c : Code} {ans : List (Nat × B6 × An)} (hf : cx.P.funcs[f]? = some fn) (hb : fn.body = some c) (hok : A2j fn.ntmps c = true) (hty : R2 cx.P cx.tys = true) (hsp : F5f cx.P ans) : D7s cx.P f (E2k cx ans fn.results.toList c fn.ntmps) := by
  refine { go := ?_ }
  intro za w0 st E w Z B d ss vs k hb0 h hrs href hs
  have hs : D3j cx ans fn.results.toList c fn.ntmps d st ss k := hs
  unfold D3j at hs
  split at hs
  . rename_i sp an hfo
    have hsp := hsp _ (E0x hfo)
    simp only at hsp
    obtain ⟨hle, hs⟩ := B4 hs
    have hle := Nat.le_of_ble_eq_true hle
    have hlen := hrs.len
    have hS : ∀ s, (E6f st ss).S s = match ss[s]? with | some v => .one v | none => .dead := fun s => by
      show (find (0, .dead) s (C3u (st.ct + 1) 0 ss)).2 = _
      rw [C4v, if_pos (Nat.zero_le _)]; rfl
    have h1 : Rel { za with es := E :: za.es } w0 (E6f st ss) (E0v vs) w Z B := by
      refine ⟨h.ext, h.zlt, fun s => ?_, h.locs, h.disj, fun s => ?_, h.refl, h.fresh, h.bone, h.zin, h.nms, h.bfix, h.mrk, ⟨h.slots, h.frs⟩, fun g hg s => ?_⟩
      . rw [hS]
        cases hv : ss[s]? with
        | none => trivial
        | some v =>
          obtain ⟨u, h3, h4⟩ := hrs.get hv
          show RS w Z B v (E0v vs s)
          simp only [E0v, h3, Option.getD_some]
          exact h4
      . rw [hS]
        cases hv : ss[s]? with
        | none => trivial
        | some v => exact href v (List.mem_of_getElem? hv)
      . rcases List.mem_cons.1 hg with rfl | hg
        . exact h.refs s
        . exact h.frf g hg s
    refine C9q hf hb (by rw [hlen]; exact hle) hok (fun E' w' => Nx { za with es := E :: za.es } w0 (F7d cx fn.results.toList k) E' w') ?_ ⟨fun hok' a hr => ?_⟩
    . rintro E' w' tmps ht ⟨st', Z', B', h', hp⟩
      unfold F7d at hp
      have hfr := h'.frs
      have hff := h'.frf
      cases hfe : st'.fr with
      | nil => rw [hfe] at hp; exact hp.elim
      | cons fl fr =>
        rw [hfe] at hp hfr hff
        simp only at hp
        obtain ⟨hf1, hf2⟩ := hfr
        split at hp
        . rename_i ss' hss
          obtain ⟨us, g1, g2⟩ := C7p hty h' ht hss
          have hres : (results fn tmps).run cx.P w' = .ok (D0j us) w' := by
            have hm : (fn.results.mapM (F6f tmps)).run cx.P w' = .ok us.toArray w' := by
              rw [Array.mapM_eq_mapM_toList]
              simp [g1]
            have e : results fn tmps = (do let vs <- fn.results.mapM (F6f tmps); pure (if h : vs.size = 1 then vs[0] else .tuple vs)) := by
              unfold results
              congr 1
            rw [e]
            simp only [Sem.run_bind, hm, Result.andThen_ok, Sem.run_pure]
            match us with
            | [] => rfl
            | [u] => rfl
            | u :: u' :: r => rfl
          exact ⟨_, hres, ⟨fl, st'.lc, st'.nx, st'.ct, st'.nm, fr⟩, Z', B', ss', us, ⟨h'.ext, h'.zlt, hf1, h'.locs, h'.disj, fun s => hff fl (by simp) s, h'.refl, h'.fresh, h'.bone, h'.zin, h'.nms, h'.bfix, h'.mrk, hf2, fun g hg s => hff g (by simp [hg]) s⟩, rfl, g2, C9s h' hss, hp⟩
        . exact hp.elim
    . refine wp_mono (E9o hty hsp (by exact hb0) h1 hs hok' a hr) ?_
      rintro e a' w' ⟨E', hr', st', Z', B', h', hq⟩
      refine ⟨E', hr', ?_⟩
      cases e with
      | normal => exact ⟨st', Z', B', h', hq⟩
      | ret => exact ⟨st', Z', B', h', hq⟩
      | _ => exact hq.elim
  . exact hs.elim
def A4l (run : Inl) : B9 := { args := [], res := [], pre := fun _ => False, post := fun _ _ => True, inl := some run }
end
end Go.Vc
namespace Go.Proofs.YtkdmjgcjpmcjjaaGreat
def nv : List Int -> Nat
  | [] => 0
  | a :: l => a.toNat + 4294967296 * nv l
def nc (n : Nat) : List Int := if h : n = 0 then [] else ((n % 4294967296 : Nat) : Int) :: nc (n / 4294967296)
termination_by n
decreasing_by omega
def F3q (x : Int) : Prop := 0 <= x /\ x <= 4294967295
def A9 (l : List Int) : Prop := ∀ x ∈ l, F3q x
theorem Q6 : nc 0 = [] := by rw [nc]; rfl
theorem D3u {n : Nat} (h : n ≠ 0) : nc n = ((n % 4294967296 : Nat) : Int) :: nc (n / 4294967296) := by rw [nc]; simp [h]
theorem H2 (n : Nat) : nv (nc n) = n := by
  induction n using Nat.strongRecOn with
  | _ n ih =>
    by_cases h : n = 0
    . subst h; rw [Q6]; rfl
    . rw [D3u h]
      simp only [nv, ih (n / 4294967296) (by omega)]
      omega
theorem N0 (n : Nat) : A9 (nc n) := by
  induction n using Nat.strongRecOn with
  | _ n ih =>
    by_cases h : n = 0
    . subst h; rw [Q6]; intro x hx; cases hx
    . rw [D3u h]
      intro x hx
      rcases List.mem_cons.1 hx with rfl | hx
      . unfold F3q; omega
      . exact ih (n / 4294967296) (by omega) x hx
theorem C4s {n : Nat} : nc n = [] ↔ n = 0 := by
  constructor
  . intro h
    by_cases h0 : n = 0
    . exact h0
    . rw [D3u h0] at h; cases h
  . rintro rfl; exact Q6
theorem E9d (a : Int) (m : Nat) (ha : F3q a) (h : a ≠ 0 \/ m ≠ 0) : nc (a.toNat + 4294967296 * m) = a :: nc m := by
  unfold F3q at ha
  rw [D3u (by omega)]
  congr 1
  . omega
  . congr 1; omega
theorem B0u (a b : List Int) : nv (a ++ b) = nv a + 4294967296 ^ a.length * nv b := by
  induction a with
  | nil => simp [nv]
  | cons x a ih =>
    simp only [List.cons_append, nv, ih, List.length_cons, Nat.pow_succ]
    rw [Nat.mul_add, <- Nat.add_assoc, <- Nat.mul_assoc, Nat.mul_comm 4294967296 (4294967296 ^ a.length)]
theorem B2u (n : Nat) : nv (List.replicate n 0) = 0 := by
  induction n with
  | zero => rfl
  | succ n ih => simp [List.replicate_succ, nv, ih]
theorem D4g {a : Int} {l : List Int} : A9 (a :: l) ↔ F3q a /\ A9 l := by simp [A9]
theorem A8p {l : List Int} (h : A9 l) : nv l < 4294967296 ^ l.length := by
  induction l with
  | nil => simp [nv]
  | cons a l ih =>
    rw [D4g] at h
    have := ih h.2
    have h1 := h.1
    unfold F3q at h1
    simp only [nv, List.length_cons, Nat.pow_succ]
    omega
theorem G2z {l : List Int} (h : A9 l) (hl : ∀ x, l.getLast? = some x -> x ≠ 0) : nc (nv l) = l := by
  induction l with
  | nil => exact Q6
  | cons a l ih =>
    rw [D4g] at h
    simp only [nv]
    cases l with
    | nil =>
      have := hl a rfl
      rw [E9d a _ h.1 (.inl this)]
      simp only [nv, Q6]
    | cons b l =>
      have ih := ih h.2 (fun x hx => hl x (by rw [List.getLast?_cons_cons]; exact hx))
      have hn : nv (b :: l) ≠ 0 := by
        intro h0
        rw [h0, Q6] at ih
        cases ih
      rw [E9d a _ h.1 (.inr hn), ih]
theorem F2b {l : List Int} (h : A9 l) {n : Nat} (hn : n <= l.length) (hz : ∀ i x, n <= i -> l[i]? = some x -> x = 0) (hl : n = 0 \/ ∃ x, l[n - 1]? = some x /\ x ≠ 0) : l.take n = nc (nv l) := by
  have e : nv l = nv (l.take n) := by
    conv => lhs; rw [<- List.take_append_drop n l]
    rw [B0u]
    have : l.drop n = List.replicate (l.length - n) 0 := by
      apply List.ext_getElem?
      intro i
      rw [List.getElem?_drop]
      by_cases hi : n + i < l.length
      . rw [List.getElem?_eq_getElem hi, List.getElem?_replicate, if_pos (by omega)]
        rw [hz (n + i) l[n + i] (by omega) (List.getElem?_eq_getElem hi)]
      . rw [List.getElem?_eq_none (by omega), List.getElem?_eq_none (by simp; omega)]
    rw [this, B2u]
    simp
  rw [e]
  symm
  apply G2z
  . intro x hx; exact h x (List.mem_of_mem_take hx)
  . intro x hx
    rw [List.getLast?_eq_getElem?, List.length_take, Nat.min_eq_left hn] at hx
    rcases hl with h0 | ⟨y, hy, hy0⟩
    . subst h0; simp at hx
    . rw [List.getElem?_take_of_lt (by
        rcases Nat.eq_zero_or_pos n with h0 | h0
        . subst h0; simp at hx
        . omega), hy] at hx
      cases hx
      exact hy0
theorem A5i {n k : Nat} (h : n < 4294967296 ^ k) : (nc n).length <= k := by
  induction k generalizing n with
  | zero => have : n = 0 := by simpa using h
            subst this; rw [Q6]; exact Nat.le_refl _
  | succ k ih =>
    by_cases h0 : n = 0
    . subst h0; rw [Q6]; exact Nat.zero_le _
    . rw [D3u h0, List.length_cons]
      have : n / 4294967296 < 4294967296 ^ k := by
        rw [Nat.div_lt_iff_lt_mul (by decide)]
        rw [Nat.pow_succ] at h; exact h
      have := ih this
      omega
theorem C5 {l : List Int} (h : A9 l) : (nc (nv l)).length <= l.length := A5i (A8p h)
theorem F9i {n k : Nat} (h : k < (nc n).length) : 4294967296 ^ k <= n := by
  rcases Nat.lt_or_ge n (4294967296 ^ k) with h1 | h1
  . have := A5i h1; omega
  . exact h1
theorem M5 {m n : Nat} (h : m <= n) : (nc m).length <= (nc n).length := by
  apply A5i
  have := A8p (N0 n)
  rw [H2] at this
  omega
theorem A7e (n : Nat) : n < 4294967296 ^ (nc n).length := by
  have := A8p (N0 n)
  rwa [H2] at this
theorem B5f (m n : Nat) : (nc (m * n)).length <= (nc m).length + (nc n).length := by
  apply A5i
  rw [Nat.pow_add]
  have h1 := A7e m
  have h2 := A7e n
  exact Nat.mul_lt_mul'' h1 h2
theorem D3z (m n : Nat) : (nc (m + n)).length <= max (nc m).length (nc n).length + 1 := by
  apply A5i
  have h1 := A7e m
  have h2 := A7e n
  have h3 : 4294967296 ^ (nc m).length <= 4294967296 ^ (max (nc m).length (nc n).length) := Nat.pow_le_pow_right (by decide) (Nat.le_max_left ..)
  have h4 : 4294967296 ^ (nc n).length <= 4294967296 ^ (max (nc m).length (nc n).length) := Nat.pow_le_pow_right (by decide) (Nat.le_max_right ..)
  rw [Nat.pow_succ]
  omega
abbrev D1g := Bool × List Int
abbrev X5 := D1g × List Int
def B7b (a b : Nat) : Int := if a < b then -1 else if b < a then 1 else 0
def C7b (a b : Int) : Int := if a < b then -1 else if b < a then 1 else 0
def iv (x : D1g) : Int := if x.1 = true then -(nv x.2 : Int) else (nv x.2 : Int)
def ic (v : Int) : D1g := (decide (v < 0), nc v.natAbs)
def G3b (x : X5) : Int := if nv x.2 = 0 then 0 else (iv x.1).sign
def rv (x : X5) : Rat := mkRat (iv x.1) (nv x.2)
def rc (q : Rat) : X5 := (ic q.num, nc q.den)
def O4 (x : X5) : Prop := nv x.1.2 < 2147483648 /\ nv x.2 < 2147483648
instance (x : X5) : Decidable (O4 x) := by unfold O4; infer_instance
def D8p (x : X5) : Int := if nv x.2 = 0 then 0 else iv x.1
def D3y (x : X5) : Int := if nv x.2 = 0 then 1 else (nv x.2 : Int)
def zi : D1g := (false, [])
def zr : X5 := ((false, []), [])
def ri (k : Int) : X5 := (ic k, [1])
abbrev sh0 (l : List Int) : Prop := l.length <= 35184372088832
abbrev sh1 (l : List Int) : Prop := l.length <= 17592186044416
abbrev sh2 (l : List Int) : Prop := l.length <= 8796093022208
def sh3 (x : X5) : Prop := x.1.2.length <= 2199023255552 /\ x.2.length <= 2199023255552
def C1c (a b : D1g) : Rat := Rat.divInt (iv a) (iv b)
def X7 (n : Nat) : Nat := if n = 0 then 0 else Nat.log2 n + 1
def G3n (A B u0 u1 v0 v1 : Int) (ev : Bool) : Prop := v0 = 0 \/ ∃ A' B' : Int, A' = (if ev then u0 * A - v0 * B else v0 * B - u0 * A) /\ B' = (if ev then v1 * B - u1 * A else u1 * A - v1 * B) /\ 0 <= B' /\ B' <= A' /\ A = v1 * A' + v0 * B' /\ B = u1 * A' + u0 * B' /\ 1 <= v0 /\ 1 <= v1 /\ 0 <= u0 /\ 0 <= u1
def B2n (l : List Int) : Prop := l.getD (l.length - 1) 0 ≠ 0
end Go.Proofs.YtkdmjgcjpmcjjaaGreat
namespace Go.Proofs.YtkdmjgcjpmcjjaaGreat
open Go.Vc Go.Gw
theorem Z6 (a b : Bool) : sel a true b = (a || b) := by cases a <;> rfl
theorem U2 (a b : Bool) : sel a b false = (a && b) := by cases a <;> rfl
theorem wr {a : Int} (h1 : -9223372036854775808 <= a) (h2 : a <= 9223372036854775807) : IntKind.i64.wrap a = a := IntWalk.i64_in _ ⟨h1, h2⟩
theorem T6 {α : Type} {d : α} {l : List α} {i : Int} (h0 : 0 <= i) (h1 : i < (l.length : Int)) : gx d l i ∈ l := List.mem_of_getElem? (M7 h0 h1)
theorem Y6 {α : Type} {d : α} {l : List α} {i : Int} (h0 : 0 <= i) (h1 : i < (l.length : Int)) : gx d l i = l.getD i.toNat d := by
  have := M7 (d := d) h0 h1
  rw [List.getD_eq_getElem?_getD, this]; rfl
theorem A8e {α : Type} {d : α} {l : List α} {q : α -> Prop} {i : Int} (h0 : 0 <= i) (h1 : i < (l.length : Int)) (hb : ∀ x ∈ l.take i.toNat, q x) (hq : q (gx d l i)) : ∀ x ∈ l.take (i + 1).toNat, q x := by
  intro x hx
  rw [show (i + 1).toNat = i.toNat + 1 from by omega, List.take_add_one, M7 (d := d) h0 h1] at hx
  simp at hx
  rcases hx with hx | rfl
  . exact hb x hx
  . exact hq
theorem G7 {α : Type} {l : List α} {i : Int} (h : (l.length : Int) <= i) : l.take i.toNat = l := List.take_of_length_le (by omega)
theorem D7f : IntKind.u32.max = 4294967295 := by decide
theorem D7z : IntKind.u32.min = 0 := by decide
theorem C3a : IntKind.u64.max = 18446744073709551615 := by decide
theorem E4e : IntKind.u64.min = 0 := by decide
theorem C4a : IntKind.i64.max = 9223372036854775807 := by decide
theorem B5r : IntKind.i64.min = -9223372036854775808 := by decide
theorem A5 {l : List Int} (h : ∀ x ∈ l, IntKind.u32.min <= x /\ x <= IntKind.u32.max) : A9 l := fun x hx => by
  have := h x hx
  rw [D7z, D7f] at this
  exact this
theorem w64 {a : Int} (h0 : 0 <= a) (h1 : a <= 18446744073709551615) : IntKind.u64.wrap a = a := IntWalk.u64_in _ ⟨h0, h1⟩
theorem w32 {a : Int} (h0 : 0 <= a) (h1 : a <= 4294967295) : IntKind.u32.wrap a = a := IntWalk.u32_in _ ⟨h0, h1⟩
theorem A1a (a : Int) : IntKind.u32.wrap a = a % 4294967296 := IntKind.wrap_u32 a
theorem A0z (a : Int) : IntKind.u64.wrap a = a % 18446744073709551616 := IntKind.wrap_u64 a
theorem B7n {l : List Int} (h : A9 l) {i : Int} (h0 : 0 <= i) (h1 : i < (l.length : Int)) : 0 <= gx 0 l i /\ gx 0 l i <= 4294967295 := h _ (T6 h0 h1)
theorem C9i {v : Int} (h0 : 0 <= v) (h1 : v < 18446744073709551616) : (BitVec.ofInt 64 v).toNat = v.toNat := by
  rw [BitVec.toNat_ofInt]; congr 1; omega
theorem E0g {v b : Int} {k : Nat} (v0 : 0 <= v) (v1 : v < 2 ^ k) (b0 : 0 <= b) (hb : b * 2 ^ k < 18446744073709551616) (hv : v < 18446744073709551616) : (((BitVec.ofInt 64 v ||| BitVec.ofInt 64 (b * 2 ^ k)).toNat : Nat) : Int) = v + b * 2 ^ k := by
  have hb0 : 0 <= b * 2 ^ k := Int.mul_nonneg b0 (Int.pow_nonneg (by decide))
  rw [BitVec.toNat_or, C9i v0 hv, C9i hb0 hb]
  have e : (b * 2 ^ k).toNat = b.toNat <<< k := by
    rw [Nat.shiftLeft_eq, Int.toNat_mul b0 (Int.pow_nonneg (by decide)), Int.toNat_pow_of_nonneg (by decide)]; rfl
  have hv2 : v.toNat < 2 ^ k := by
    have : (v.toNat : Int) < ((2 ^ k : Nat) : Int) := by rw [Int.toNat_of_nonneg v0, Int.natCast_pow]; exact v1
    exact Int.ofNat_lt.1 this
  rw [e, Nat.or_comm, <- Nat.shiftLeft_add_eq_or_of_lt hv2, <- e, Int.natCast_add, Int.toNat_of_nonneg v0, Int.toNat_of_nonneg hb0, Int.add_comm]
theorem C4z {l : List Int} {i : Int} (h0 : 0 <= i) (h1 : i < (l.length : Int)) : nv (l.take (i + 1).toNat) = nv (l.take i.toNat) + 4294967296 ^ i.toNat * (gx 0 l i).toNat := by
  rw [show (i + 1).toNat = i.toNat + 1 from by omega, List.take_add_one, M7 (d := (0 : Int)) h0 h1, Option.toList_some, B0u, List.length_take, Nat.min_eq_left (by omega)]
  simp [nv]
theorem T0 {l : List Int} {i : Int} (h0 : 0 <= i) (h1 : i < (l.length : Int)) : l.drop i.toNat = gx 0 l i :: l.drop (i + 1).toNat := by
  have h := M7 (d := (0 : Int)) h0 h1
  have hlt : i.toNat < l.length := by omega
  rw [List.getElem?_eq_getElem hlt] at h
  rw [List.drop_eq_getElem_cons hlt, show (i + 1).toNat = i.toNat + 1 from by omega]
  congr 1
  exact Option.some.inj h
theorem E4z {a b : List Int} (ha : A9 a) (_ : A9 b) (hl : a.length = b.length) {i : Int} (h0 : 0 <= i) (h1 : i < (a.length : Int)) (he : a.drop (i + 1).toNat = b.drop (i + 1).toNat) (hlt : gx 0 a i < gx 0 b i) : nv a < nv b := by
  have ea : nv a = nv (a.take i.toNat) + 4294967296 ^ i.toNat * nv (a.drop i.toNat) := by
    conv => lhs; rw [<- List.take_append_drop i.toNat a, B0u, List.length_take, Nat.min_eq_left (by omega)]
  have eb : nv b = nv (b.take i.toNat) + 4294967296 ^ i.toNat * nv (b.drop i.toNat) := by
    conv => lhs; rw [<- List.take_append_drop i.toNat b, B0u, List.length_take, Nat.min_eq_left (by omega)]
  have hlim := B7n ha h0 h1
  have h2 : nv (a.drop i.toNat) + 1 <= nv (b.drop i.toNat) := by
    rw [T0 h0 h1, T0 h0 (by omega), he]
    simp only [nv]
    omega
  have h3 : nv (a.take i.toNat) < 4294967296 ^ i.toNat := by
    have := A8p (l := a.take i.toNat) fun x hx => ha x (List.mem_of_mem_take hx)
    rwa [List.length_take, Nat.min_eq_left (by omega)] at this
  have h4 := Nat.mul_le_mul_left (4294967296 ^ i.toNat) h2
  rw [Nat.mul_add, Nat.mul_one] at h4
  omega
theorem B9f {m n : Nat} (h : (nc m).length < (nc n).length) : m < n := by
  rcases Nat.lt_or_ge m n with h1 | h1
  . exact h1
  . have := M5 h1; omega
theorem C5a : nc 1 = [1] := by rw [D3u (by decide)]; simp [Q6]
theorem G1d : nv [1] = 1 := rfl
theorem E5o : nv [] = 0 := rfl
theorem D9v (n : Nat) : B7b n n = 0 := by simp [B7b]
theorem B0x {m n : Nat} (h : m < n) : B7b m n = -1 := by simp [B7b, h]
theorem D5u {m n : Nat} (h : n < m) : B7b m n = 1 := by
  unfold B7b; rw [if_neg (by omega), if_pos h]
theorem D8g {m n : Nat} : B7b m n = 0 ↔ m = n := by
  unfold B7b; split
  . omega
  . split <;> omega
theorem A2i (v : Int) : iv (ic v) = v := by
  unfold iv ic
  simp only [decide_eq_true_eq, H2]
  split <;> omega
theorem F7g {neg : Bool} {m : Nat} : ic (iv (neg, nc m)) = (neg && decide (m ≠ 0), nc m) := by
  unfold ic iv
  simp only [H2]
  cases neg
  . simp
  . simp only [Bool.true_and, if_true, Prod.mk.injEq, decide_eq_decide]
    constructor
    . omega
    . congr 1; omega
theorem G3j {x : D1g} : ic (iv x) = (x.1 && decide (nv x.2 ≠ 0), nc (nv x.2)) := by
  have : iv x = iv (x.1, nc (nv x.2)) := by unfold iv; simp only [H2]
  rw [this, F7g]
theorem F0g (k : Int) : rc (k : Rat) = ri k := by
  unfold rc ri
  rw [Rat.num_intCast, Rat.den_intCast, C5a]
theorem A5e (q : Rat) : rv (rc q) = q := by
  unfold rv rc
  simp only [A2i, H2]
  exact Rat.mkRat_self q
theorem F8s (x : X5) : G3b x = (rv x).num.sign := by
  unfold G3b rv
  split
  . rename_i h; rw [h, Rat.mkRat_zero]; rfl
  . rename_i h
    rw [Rat.num_mkRat, if_neg h]
    have hg : (0 : Int) < (((nv x.2).gcd (iv x.1).natAbs : Nat) : Int) := by
      have := Nat.gcd_pos_of_pos_left (iv x.1).natAbs (Nat.pos_of_ne_zero h); omega
    have hd : (((nv x.2).gcd (iv x.1).natAbs : Nat) : Int) ∣ iv x.1 := Int.ofNat_dvd_left.2 (Nat.gcd_dvd_right ..)
    obtain ⟨c, hc⟩ := hd
    generalize (((nv x.2).gcd (iv x.1).natAbs : Nat) : Int) = g at hg hc
    rw [hc, Int.mul_ediv_cancel_left _ (by omega), Int.sign_mul, Int.sign_eq_one_of_pos hg, Int.one_mul]
theorem A8j {x : Int} {d : Nat} (hd : d ≠ 0) : (mkRat x d).num = x / ((d.gcd x.natAbs : Nat) : Int) /\ (mkRat x d).den = d / d.gcd x.natAbs := by
  rw [Rat.num_mkRat, Rat.den_mkRat, if_neg hd, if_neg hd]; exact ⟨rfl, rfl⟩
def dg (l : List Int) (i : Nat) : Nat := (l.getD i 0).toNat
theorem J4 (l : List Int) (i : Nat) : nv (l.take (i + 1)) = nv (l.take i) + 4294967296 ^ i * dg l i := by
  unfold dg
  by_cases h : i < l.length
  . have := C4z (l := l) (i := (i : Int)) (by omega) (by omega)
    rw [show ((i : Int) + 1).toNat = i + 1 from by omega, Int.toNat_natCast] at this
    rw [this, Y6 (by omega) (by omega), Int.toNat_natCast]
  . rw [List.take_of_length_le (by omega), List.take_of_length_le (by omega), List.getD_eq_getElem?_getD, List.getElem?_eq_none (by omega)]
    simp
theorem R9 {l : List Int} (h : A9 l) (i : Nat) : dg l i <= 4294967295 := by
  unfold dg
  by_cases hi : i < l.length
  . rw [List.getD_eq_getElem?_getD, List.getElem?_eq_getElem hi]
    have := h l[i] (List.getElem_mem hi)
    unfold F3q at this
    simp only [Option.getD_some]; omega
  . rw [List.getD_eq_getElem?_getD, List.getElem?_eq_none (by omega)]; simp
theorem A7d {l : List Int} (h : A9 l) {i : Int} (h0 : 0 <= i) (h1 : i < (l.length : Int)) : gx 0 l i = (dg l i.toNat : Int) := by
  have := B7n h h0 h1
  unfold dg
  rw [<- Y6 (d := (0 : Int)) h0 h1]; omega
theorem X1 {l : List Int} (h : A9 l) {i : Nat} : l.getD i 0 = (dg l i : Int) := by
  unfold dg
  by_cases hi : i < l.length
  . have := h l[i] (List.getElem_mem hi)
    unfold F3q at this
    rw [List.getD_eq_getElem?_getD, List.getElem?_eq_getElem hi]
    simp only [Option.getD_some]; omega
  . rw [List.getD_eq_getElem?_getD, List.getElem?_eq_none (by omega)]; rfl
theorem B4o {l : List Int} {i : Nat} (h : l.length <= i) : dg l i = 0 := by
  unfold dg; rw [List.getD_eq_getElem?_getD, List.getElem?_eq_none h]; rfl
theorem P3 {l : List Int} {i : Nat} {v : Int} (h : i < l.length) : nv ((l.set i v).take (i + 1)) = nv (l.take i) + 4294967296 ^ i * v.toNat := by
  rw [J4, List.take_set_of_le (Nat.le_refl _)]
  unfold dg
  rw [List.getD_eq_getElem?_getD, List.getElem?_set_self h]; rfl
theorem A9i : ∀ {l : List Int} {k : Nat} {v : Int}, k < l.length -> nv (l.set k v) + 4294967296 ^ k * dg l k = nv l + 4294967296 ^ k * v.toNat
  | [], _, _, h => by simp at h
  | a :: l, 0, v, _ => by simp [nv, dg]; omega
  | a :: l, k + 1, v, h => by
    have ih := A9i (l := l) (k := k) (v := v) (by simpa using h)
    have e : dg (a :: l) (k + 1) = dg l k := by simp [dg]
    rw [e]
    simp only [List.set_cons_succ, nv, Nat.pow_succ]
    generalize nv (l.set k v) = A at *
    have e1 : 4294967296 ^ k * 4294967296 * dg l k = 4294967296 * (4294967296 ^ k * dg l k) := by rw [Nat.mul_comm (4294967296 ^ k) 4294967296, Nat.mul_assoc]
    have e2 : 4294967296 ^ k * 4294967296 * v.toNat = 4294967296 * (4294967296 ^ k * v.toNat) := by rw [Nat.mul_comm (4294967296 ^ k) 4294967296, Nat.mul_assoc]
    rw [e1, e2, Nat.add_assoc, Nat.add_assoc, <- Nat.mul_add, <- Nat.mul_add, ih]
theorem D8x {l : List Int} {k : Nat} {v : Int} (h : A9 l) (hv : F3q v) : A9 (l.set k v) := fun x hx => by
  rcases List.mem_or_eq_of_mem_set hx with hx | hx
  . exact h x hx
  . rw [hx]; exact hv
theorem C4w {l : List Int} {k i : Nat} {v : Int} (hk : k < l.length) : dg (l.set k v) i = if i = k then v.toNat else dg l i := by
  unfold dg
  rw [List.getD_eq_getElem?_getD, List.getElem?_set]
  by_cases h : k = i
  . subst h; rw [if_pos rfl, if_pos hk, if_pos rfl]; rfl
  . rw [if_neg h, if_neg (fun e => h e.symm), List.getD_eq_getElem?_getD]
theorem C5j (n i : Nat) : dg (List.replicate n 0) i = 0 := by
  unfold dg
  rw [List.getD_eq_getElem?_getD, List.getElem?_replicate]; split <;> rfl
theorem D1d {l : List Int} {i : Nat} (h : ∀ j, i <= j -> dg l j = 0) : nv (l.take i) = nv l := by
  have key : ∀ k, nv (l.take (i + k)) = nv (l.take i) := by
    intro k
    induction k with
    | zero => rfl
    | succ k ih => rw [<- Nat.add_assoc, J4, ih, h (i + k) (by omega), Nat.mul_zero, Nat.add_zero]
  rw [<- key l.length, List.take_of_length_le (by omega)]
theorem E0l {P A B o c a b s c' : Nat} (h : o + P * c = A + B) (hs : s + 4294967296 * c' = c + a + b) : (o + P * s) + (P * 4294967296) * c' = (A + P * a) + (B + P * b) := by
  have := congrArg (P * ·) hs
  simp only [Nat.mul_add, <- Nat.mul_assoc] at this
  omega
theorem D5a {P A B o c a b s c' : Nat} (h : A + P * c = o + B) (hs : a + 4294967296 * c' = s + b + c) : (A + P * a) + (P * 4294967296) * c' = (o + P * s) + (B + P * b) := by
  have := congrArg (P * ·) hs
  simp only [Nat.mul_add, <- Nat.mul_assoc] at this
  omega
theorem F0i {a b : List Int} (ha : A9 a) (hb : A9 b) : nv a + nv b < 4294967296 ^ (max a.length b.length + 1) := by
  have hA := A8p ha
  have hB := A8p hb
  have hA' : 4294967296 ^ a.length <= 4294967296 ^ (max a.length b.length) := Nat.pow_le_pow_right (by decide) (Nat.le_max_left ..)
  have hB' : 4294967296 ^ b.length <= 4294967296 ^ (max a.length b.length) := Nat.pow_le_pow_right (by decide) (Nat.le_max_right ..)
  rw [Nat.pow_succ]
  generalize 4294967296 ^ (max a.length b.length) = P at *
  omega
theorem C3h {P c x : Nat} (h : P * c <= x) (hx : x < P) : c = 0 := by
  rcases Nat.eq_zero_or_pos c with h1 | h1
  . exact h1
  . have := Nat.mul_le_mul_left P h1
    omega
theorem B4s (l : List Int) : iv (false, l) = (nv l : Int) := rfl
theorem D9q (l : List Int) : iv (true, l) = -(nv l : Int) := rfl
theorem F5z (b : Bool) (l : List Int) : iv (!b, l) = - iv (b, l) := by
  cases b
  . rfl
  . show (nv l : Int) = - -(nv l : Int); omega
theorem A5n (v : Int) : (ic v).2.length = (nc v.natAbs).length := rfl
theorem E9p : ic 1 = (false, [1]) := by unfold ic; rw [show (1 : Int).natAbs = 1 from rfl, C5a]; rfl
theorem E2r : ic 0 = (false, []) := by unfold ic; rw [show (0 : Int).natAbs = 0 from rfl, Q6]; rfl
theorem F0m : rc 0 = ((false, []), [1]) := by
  unfold rc
  rw [Rat.zero_num, Rat.zero_den, E2r, C5a]
theorem E4s {a : D1g} {b : D1g} (h : iv b = 1) : C1c a b = ((iv a : Int) : Rat) := by
  unfold C1c
  rw [h]
  have := Rat.divInt_ofNat (iv a) 1
  rw [show ((1 : Nat) : Int) = 1 from rfl] at this
  rw [this]
  exact Rat.mkRat_one _
theorem E9h {a : D1g} {b : D1g} (h : iv b = 0) : C1c a b = 0 := by
  unfold C1c; rw [h, Rat.divInt_zero]
theorem F8v (x : X5) : C1c x.1 (false, x.2) = rv x := by
  unfold C1c rv
  rw [B4s, Rat.divInt_ofNat]
end Go.Proofs.YtkdmjgcjpmcjjaaGreat
namespace Go.Proofs.YtkdmjgcjpmcjjaaGreat
structure Dig (U V v1 v2 t u2 P : Nat) : Prop where
  pos : 0 < P
  v1p : 0 < v1
  v1b : v1 < 4294967296
  v2b : v2 < 4294967296
  u2b : u2 < 4294967296
  vlo : (v1 * 4294967296 + v2) * P <= V
  vhi : V < (v1 * 4294967296 + v2 + 1) * P
  ulo : (t * 4294967296 + u2) * P <= U
  uhi : U < (t * 4294967296 + u2 + 1) * P
  lt : U < V * 4294967296
variable {U V v1 v2 t u2 P : Nat}
theorem Dig.vpos (h : Dig U V v1 v2 t u2 P) : 0 < V := by
  have h1 := h.vlo
  have h2 : 0 < (v1 * 4294967296 + v2) * P := Nat.mul_pos (by have := h.v1p; omega) h.pos
  omega
theorem Dig.quo (h : Dig U V v1 v2 t u2 P) : U / V < 4294967296 := by
  rw [Nat.div_lt_iff_lt_mul h.vpos, Nat.mul_comm]
  exact h.lt
theorem E9x {a b c P Q : Nat} (hP : 0 < P) (h : a * P <= Q) (hq : Q < (b + 1) * P) (hc : c <= a) : c <= b := by
  have h1 : c * P <= a * P := Nat.mul_le_mul_right _ hc
  have h2 : c * P < (b + 1) * P := by omega
  have := Nat.lt_of_mul_lt_mul_right h2
  omega
theorem Dig.top (h : Dig U V v1 v2 t u2 P) : t * 4294967296 + u2 < (v1 * 4294967296 + v2 + 1) * 4294967296 := by
  have h1 := h.ulo
  have h2 := h.lt
  have h3 := Nat.mul_le_mul_right 4294967296 (Nat.le_of_lt h.vhi)
  have h4 : (t * 4294967296 + u2) * P < ((v1 * 4294967296 + v2 + 1) * 4294967296) * P := by
    have h5 : V * 4294967296 < (v1 * 4294967296 + v2 + 1) * P * 4294967296 := Nat.mul_lt_mul_of_pos_right h.vhi (by decide)
    rw [Nat.mul_right_comm]; omega
  exact Nat.lt_of_mul_lt_mul_right h4
theorem Dig.t_le (h : Dig U V v1 v2 t u2 P) : t <= v1 * 4294967296 + v2 := by
  have := h.top
  omega
theorem Dig.est (h : Dig U V v1 v2 t u2 P) : U / V * v1 <= t := by
  have h1 : U / V * V <= U := Nat.div_mul_le_self U V
  have h2 : U / V * (v1 * 4294967296 + v2) * P <= U := by
    rw [Nat.mul_assoc]
    exact Nat.le_trans (Nat.mul_le_mul_left _ h.vlo) h1
  have h3 : U / V * (v1 * 4294967296 + v2) <= t * 4294967296 + u2 := E9x h.pos h2 h.uhi (Nat.le_refl _)
  rw [Nat.mul_add, <- Nat.mul_assoc] at h3
  have := h.u2b
  omega
theorem Dig.dec (h : Dig U V v1 v2 t u2 P) {d r : Nat} (ht : t = d * v1 + r) (hq : U / V <= d) (hb : 4294967296 <= d \/ r * 4294967296 + u2 < d * v2) : U / V + 1 <= d := by
  rcases Nat.lt_or_ge (U / V) d with h1 | h1
  . omega
  . exfalso
    have he : U / V = d := by omega
    rcases hb with hb | hb
    . have := h.quo; omega
    . have h1 : d * V <= U := by rw [<- he]; exact Nat.div_mul_le_self U V
      have h2 : d * (v1 * 4294967296 + v2) * P <= U := by
        rw [Nat.mul_assoc]
        exact Nat.le_trans (Nat.mul_le_mul_left _ h.vlo) h1
      have h3 : d * (v1 * 4294967296 + v2) <= t * 4294967296 + u2 := E9x h.pos h2 h.uhi (Nat.le_refl _)
      rw [Nat.mul_add, <- Nat.mul_assoc, ht, Nat.add_mul] at h3
      omega
theorem Dig.near (h : Dig U V v1 v2 t u2 P) {d r : Nat} (ht : t = d * v1 + r) (hd : d < 4294967296) (hok : d * v2 <= r * 4294967296 + u2) : d <= U / V + 1 := by
  have h1 := h.ulo
  have h2 : d * (v1 * 4294967296 + v2) <= t * 4294967296 + u2 := by
    rw [ht, Nat.add_mul, Nat.mul_add, <- Nat.mul_assoc]; omega
  have h3 : d * (v1 * 4294967296 + v2) * P <= U := Nat.le_trans (Nat.mul_le_mul_right _ h2) h1
  have h4 : d * V <= d * ((v1 * 4294967296 + v2 + 1) * P) := Nat.mul_le_mul_left _ (Nat.le_of_lt h.vhi)
  have h5 : d * ((v1 * 4294967296 + v2 + 1) * P) = d * (v1 * 4294967296 + v2) * P + d * P := by
    rw [<- Nat.mul_assoc, Nat.mul_add d, Nat.mul_one, Nat.add_mul]
  have h6 : d * P < V := by
    have h7 : d * P < 4294967296 * P := Nat.mul_lt_mul_of_pos_right hd h.pos
    have h8 : 4294967296 * P <= (v1 * 4294967296 + v2) * P := Nat.mul_le_mul_right _ (by have := h.v1p; omega)
    have := h.vlo
    omega
  have h9 : d * V < U + V := Nat.lt_of_le_of_lt (Nat.le_trans h4 (Nat.le_of_eq h5)) (Nat.add_lt_add_of_le_of_lt h3 h6)
  rcases Nat.eq_zero_or_pos d with h0 | h0
  . rw [h0]; exact Nat.zero_le _
  . have h10 : (d - 1) * V < U := by
      have : d * V = (d - 1) * V + V := by
        conv => lhs; rw [show d = d - 1 + 1 from by omega, Nat.add_mul, Nat.one_mul]
      omega
    have := (Nat.le_div_iff_mul_le h.vpos).2 (Nat.le_of_lt h10)
    omega
theorem Dig.out (h : Dig U V v1 v2 t u2 P) {d r : Nat} (ht : t = d * v1 + r) (hr : 4294967296 <= r) (hd : U / V <= d) : d < 4294967296 /\ d * v2 <= r * 4294967296 + u2 := by
  have h1 := h.t_le
  have h2 := h.v2b
  have hlt : d < 4294967296 := by
    rcases Nat.lt_or_ge d 4294967296 with h3 | h3
    . exact h3
    . have := Nat.mul_le_mul_right v1 h3
      rw [Nat.mul_comm 4294967296] at this
      omega
  refine ⟨hlt, ?_⟩
  have h3 : d * v2 <= 4294967295 * 4294967295 := Nat.mul_le_mul (by omega) (by omega)
  omega
end Go.Proofs.YtkdmjgcjpmcjjaaGreat
namespace Go.Proofs.YtkdmjgcjpmcjjaaGreat
open Go.Vc Go.Gw
theorem C0c : X7 0 = 0 := rfl
theorem E4h (n : Nat) : n < 2 ^ X7 n := by
  unfold X7
  split
  . rename_i h; subst h; decide
  . exact Nat.lt_log2_self
theorem C3q {n : Nat} (h : n ≠ 0) : 2 ^ (X7 n - 1) <= n /\ 1 <= X7 n := by
  unfold X7
  rw [if_neg h, Nat.add_sub_cancel]
  exact ⟨Nat.log2_self_le h, by omega⟩
theorem F8z {n k : Nat} (h0 : 2 ^ k <= n) (h1 : n < 2 ^ (k + 1)) : X7 n = k + 1 := by
  have hp : 0 < 2 ^ k := Nat.pow_pos (by decide)
  unfold X7
  rw [if_neg (by omega)]
  congr 1
  exact (Nat.log2_eq_iff (by omega)).2 ⟨h0, h1⟩
theorem C7j {n k : Nat} (h : 2 ^ k <= n) : X7 n = X7 (n / 2 ^ k) + k := by
  have hp : 0 < 2 ^ k := Nat.pow_pos (by decide)
  have hm : n / 2 ^ k ≠ 0 := by
    have : 1 <= n / 2 ^ k := (Nat.le_div_iff_mul_le hp).2 (by omega)
    omega
  obtain ⟨h1, h2⟩ := C3q hm
  have h3 := E4h (n / 2 ^ k)
  have e : X7 (n / 2 ^ k) + k = (X7 (n / 2 ^ k) - 1 + k) + 1 := by omega
  rw [e]
  apply F8z
  . rw [Nat.pow_add]
    have := (Nat.le_div_iff_mul_le hp).1 h1
    exact this
  . rw [show X7 (n / 2 ^ k) - 1 + k + 1 = X7 (n / 2 ^ k) + k from by omega, Nat.pow_add]
    exact (Nat.div_lt_iff_lt_mul hp).1 h3
theorem L7 (x : D1g) : (iv x).natAbs = nv x.2 := by
  unfold iv; split <;> omega
theorem C3m {a b : List Int} (ha : A9 a) (hb : A9 b) : (nc (nv a * nv b)).length <= a.length + b.length := by
  have h1 := B5f (nv a) (nv b)
  have h2 := C5 ha
  have h3 := C5 hb
  omega
theorem C3n {x y : D1g} (hx : A9 x.2) (hy : A9 y.2) : (ic (iv x * iv y)).2.length <= x.2.length + y.2.length := by
  rw [A5n, Int.natAbs_mul, L7, L7]
  exact C3m hx hy
theorem D4q {x y : D1g} {k : Nat} (hx : A9 x.2) (hy : A9 y.2) (h1 : x.2.length <= k) (h2 : y.2.length <= k) : (ic (iv x + iv y)).2.length <= k + 1 := by
  rw [A5n]
  have e : (iv x + iv y).natAbs <= nv x.2 + nv y.2 := by
    have := Int.natAbs_add_le (iv x) (iv y)
    rwa [L7, L7] at this
  have h := D3z (nv x.2) (nv y.2)
  have a := C5 hx
  have b := C5 hy
  have c := M5 e
  omega
theorem E5e (v : Int) : A9 (ic v).2 := N0 _
theorem E5c {V : Int} {D : Nat} (hD : D ≠ 0) : rc (mkRat V D) = ((decide (V < 0), nc (V.natAbs / Nat.gcd V.natAbs D)), nc (D / Nat.gcd V.natAbs D)) := by
  obtain ⟨hn, hdn⟩ := A8j (x := V) (d := D) hD
  unfold rc
  rw [hn, hdn, Nat.gcd_comm V.natAbs D]
  unfold ic
  have hdvd : ((D.gcd V.natAbs : Nat) : Int) ∣ V := Int.ofNat_dvd_left.2 (Nat.gcd_dvd_right ..)
  have hgN : 0 < D.gcd V.natAbs := Nat.gcd_pos_of_pos_left _ (Nat.pos_of_ne_zero hD)
  generalize D.gcd V.natAbs = G at hdvd hgN
  obtain ⟨c, rfl⟩ := hdvd
  rw [Int.mul_ediv_cancel_left _ (by omega)]
  have hsgn : (G : Int) * c < 0 ↔ c < 0 := by
    constructor
    . intro h
      rcases Int.lt_or_le c 0 with h1 | h1
      . exact h1
      . have := Int.mul_nonneg (Int.le_of_lt (Int.ofNat_lt.2 hgN)) h1; omega
    . intro h
      exact Int.mul_neg_of_pos_of_neg (by omega) h
  rw [Int.natAbs_mul, Int.natAbs_natCast, Nat.mul_div_cancel_left _ hgN]
  simp only [hsgn]
theorem F7z {V : Int} {D : Nat} (hD : D ≠ 0) (h : Nat.gcd V.natAbs D = 1) : rc (mkRat V D) = (ic V, nc D) := by
  rw [E5c hD, h, Nat.div_one, Nat.div_one]; rfl
theorem C8e {a b : Int} {c d : Nat} (hc : c ≠ 0) (hd : d ≠ 0) : mkRat a c + mkRat b d = mkRat (a * d + b * c) (c * d) := Rat.mkRat_add_mkRat a b hc hd
theorem E8h {a b : Int} {c : Nat} (hc : c ≠ 0) : mkRat a c + mkRat b c = mkRat (a + b) c := by
  rw [C8e hc hc, <- Int.add_mul, Rat.mkRat_mul_right hc]
theorem C0e {x : X5} {n : D1g} {d : List Int} (h : (nv x.2 = 0 -> n = zi /\ d = [1]) /\ (nv x.2 ≠ 0 -> n = x.1 /\ d = x.2)) : nv d ≠ 0 /\ rv x = mkRat (iv n) (nv d) := by
  rcases Decidable.em (nv x.2 = 0) with h0 | h0
  . obtain ⟨rfl, rfl⟩ := h.1 h0
    refine ⟨by decide, ?_⟩
    unfold rv
    rw [h0, Rat.mkRat_zero]
    exact (Rat.zero_mkRat _).symm
  . obtain ⟨rfl, rfl⟩ := h.2 h0
    exact ⟨h0, rfl⟩
theorem B1v {x : X5} {n : D1g} {d : List Int} {k : Nat} (h : (nv x.2 = 0 -> n = zi /\ d = [1]) /\ (nv x.2 ≠ 0 -> n = x.1 /\ d = x.2)) (h1 : x.1.2.length <= k) (h2 : x.2.length <= k) (hk : 1 <= k) : n.2.length <= k /\ d.length <= k := by
  rcases Decidable.em (nv x.2 = 0) with h0 | h0
  . obtain ⟨rfl, rfl⟩ := h.1 h0
    exact ⟨by simp [zi], by simpa using hk⟩
  . obtain ⟨rfl, rfl⟩ := h.2 h0
    exact ⟨h1, h2⟩
theorem G1b (A B : Nat) : (A : Int) / (B : Int) = ((A / B : Nat) : Int) /\ (A : Int) % (B : Int) = ((A % B : Nat) : Int) := ⟨rfl, rfl⟩
theorem G0p {A B : Nat} (hB : B ≠ 0) : (A % B = 0 -> -(A : Int) / (B : Int) = -((A / B : Nat) : Int) /\ -(A : Int) % (B : Int) = 0) /\ (A % B ≠ 0 -> -(A : Int) / (B : Int) = -((A / B : Nat) : Int) - 1 /\ -(A : Int) % (B : Int) = (B : Int) - ((A % B : Nat) : Int)) := by
  have h1 := Nat.div_add_mod A B
  have h2 := Nat.mod_lt A (Nat.pos_of_ne_zero hB)
  have h3 : (A : Int) = (B : Int) * ((A / B : Nat) : Int) + ((A % B : Nat) : Int) := by
    rw [<- Int.natCast_mul, <- Int.natCast_add, h1]
  generalize A / B = Q at *
  generalize A % B = M at *
  refine ⟨fun h => ?_, fun h => ?_⟩
  . subst h
    refine (Int.ediv_emod_unique (by omega)).2 ⟨?_, by omega, by omega⟩
    rw [h3]; grind
  . refine (Int.ediv_emod_unique (by omega)).2 ⟨?_, by omega, by omega⟩
    rw [h3]; grind
theorem G0l {sa sb : Bool} {A B : Nat} (hB : B ≠ 0) {a b q m : Int} (ha : a = if sa = true then -(A : Int) else A) (hb : b = if sb = true then -(B : Int) else B) (hq : q = if (sa != sb) = true then -((A / B : Nat) : Int) else ((A / B : Nat) : Int)) (hm : m = if sa = true then -((A % B : Nat) : Int) else ((A % B : Nat) : Int)) :
    (m < 0 -> a % b = m + B /\ (sb = true -> a / b = q + 1) /\ (sb = false -> a / b = q - 1)) /\ (¬ m < 0 -> a % b = m /\ a / b = q) := by
  obtain ⟨n1, n2⟩ := G0p (A := A) hB
  obtain ⟨p1, p2⟩ := G1b A B
  generalize hQ : A / B = Q at *
  generalize hM : A % B = M at *
  cases sa <;> cases sb <;> simp at ha hb hq hm <;> subst ha hb hq hm <;> simp only [Int.ediv_neg, Int.emod_neg]
  . exact ⟨fun h => by omega, fun h => ⟨p2, p1⟩⟩
  . exact ⟨fun h => by omega, fun h => ⟨p2, by rw [p1]⟩⟩
  . refine ⟨fun h => ?_, fun h => ?_⟩
    . obtain ⟨e1, e2⟩ := n2 (by omega)
      exact ⟨by rw [e2]; omega, ⟨fun h => absurd h (by decide), fun _ => e1⟩⟩
    . obtain ⟨e1, e2⟩ := n1 (by omega)
      exact ⟨by rw [e2]; omega, e1⟩
  . refine ⟨fun h => ?_, fun h => ?_⟩
    . obtain ⟨e1, e2⟩ := n2 (by omega)
      exact ⟨by rw [e2]; omega, ⟨fun _ => by rw [e1]; omega, fun h => by cases h⟩⟩
    . obtain ⟨e1, e2⟩ := n1 (by omega)
      exact ⟨by rw [e2]; omega, by rw [e1]; omega⟩
theorem B2v {q : X5} {k : Nat} (h1 : A9 q.1.2) (h2 : A9 q.2) (l1 : q.1.2.length <= k) (l2 : q.2.length <= k) (hk : 1 <= k) : (ic (rv q).num).2.length <= k /\ (nc (rv q).den).length <= k := by
  unfold rv
  rcases Decidable.em (nv q.2 = 0) with h0 | h0
  . rw [h0, Rat.mkRat_zero]
    have a1 : (0 : Rat).num = 0 := rfl
    have a2 : (0 : Rat).den = 1 := rfl
    rw [a1, a2, E2r, C5a]
    exact ⟨Nat.zero_le _, hk⟩
  . obtain ⟨e1, e2⟩ := A8j (x := iv q.1) (d := nv q.2) h0
    have b1 := C5 h1
    have b2 := C5 h2
    rw [e1, e2, A5n]
    refine ⟨?_, Nat.le_trans (M5 (Nat.div_le_self _ _)) (by omega)⟩
    refine Nat.le_trans (M5 ?_) (Nat.le_trans b1 l1)
    rw [<- L7]
    exact Int.natAbs_ediv_le_natAbs _ _
theorem D8t {A : Int} {G : Nat} (hG : 0 < G) (hd : (G : Int) ∣ A) : ic (A / (G : Int)) = (decide (A < 0), nc (A.natAbs / G)) := by
  obtain ⟨c, rfl⟩ := hd
  rw [Int.mul_ediv_cancel_left _ (by omega)]
  have hsgn : (G : Int) * c < 0 ↔ c < 0 := by
    constructor
    . intro h
      rcases Int.lt_or_le c 0 with h1 | h1
      . exact h1
      . have := Int.mul_nonneg (Int.le_of_lt (Int.ofNat_lt.2 hG)) h1; omega
    . intro h
      exact Int.mul_neg_of_pos_of_neg (by omega) h
  unfold ic
  rw [Int.natAbs_mul, Int.natAbs_natCast, Nat.mul_div_cancel_left _ hG]
  simp only [hsgn]
theorem D3p {A B : Int} (hB : 0 < B) : Rat.divInt A B = mkRat A B.natAbs := by
  rw [<- Rat.divInt_ofNat, show ((B.natAbs : Nat) : Int) = B from by omega]
theorem E2l {A B : Int} (hB : B < 0) : Rat.divInt A B = mkRat (-A) B.natAbs := by
  rw [<- Rat.divInt_ofNat, show ((B.natAbs : Nat) : Int) = -B from by omega, Rat.neg_divInt_neg]
theorem F3n {A B : Int} (hB : B ≠ 0) {G : Nat} (hG : G = Nat.gcd A.natAbs B.natAbs) : 0 < G /\ (B / (G : Int) < 0 ↔ B < 0) /\ (B < 0 -> (ic (-(A / (G : Int))), (ic (-(B / (G : Int)))).2) = rc (Rat.divInt A B)) /\ (¬ B < 0 -> (ic (A / (G : Int)), (ic (B / (G : Int))).2) = rc (Rat.divInt A B)) := by
  have hBn : B.natAbs ≠ 0 := by omega
  have hGp : 0 < G := by rw [hG]; exact Nat.gcd_pos_of_pos_right _ (by omega)
  have hdA : (G : Int) ∣ A := by rw [hG]; exact Int.ofNat_dvd_left.2 (Nat.gcd_dvd_left ..)
  have hdB : (G : Int) ∣ B := by rw [hG]; exact Int.ofNat_dvd_left.2 (Nat.gcd_dvd_right ..)
  refine ⟨hGp, ?_, fun h => ?_, fun h => ?_⟩
  . have := congrArg (·.1) (D8t hGp hdB)
    exact decide_eq_decide.1 this
  . rw [<- Int.neg_ediv_of_dvd hdA, <- Int.neg_ediv_of_dvd hdB, D8t hGp (Int.dvd_neg.2 hdA), D8t hGp (Int.dvd_neg.2 hdB), E2l h, E5c hBn, Int.natAbs_neg, Int.natAbs_neg, hG]
  . rw [D8t hGp hdA, D8t hGp hdB, D3p (by omega), E5c hBn, hG]
theorem E8k (p q : Rat) : Rat.divInt (p.num * q.den + q.num * p.den) (p.den * q.den) = p + q := by
  have h1 := Rat.den_pos p
  have h2 := Rat.den_pos q
  rw [<- Rat.divInt_add_divInt _ _ (by omega) (by omega), Rat.num_divInt_den, Rat.num_divInt_den]
def qs (k : Nat) (q : Rat) : Prop := (nc q.num.natAbs).length <= k /\ (nc q.den).length <= k
def sz (k : Nat) (x : X5) : Prop := x.1.2.length <= k /\ x.2.length <= k
def G0c (x : X5) : Prop := A9 x.1.2 /\ A9 x.2
theorem E0z {k : Nat} {x : X5} (hl : G0c x) (h : sz k x) (hk : 1 <= k) : qs k (rv x) := B2v hl.1 hl.2 h.1 h.2 hk
theorem C1r {j k : Nat} {q : Rat} (h : qs j q) (hk : j <= k) : qs k q := ⟨Nat.le_trans h.1 hk, Nat.le_trans h.2 hk⟩
theorem F1d {j k : Nat} {x : X5} (h : sz j x) (hk : j <= k) : sz k x := ⟨Nat.le_trans h.1 hk, Nat.le_trans h.2 hk⟩
theorem D5s {V : Int} {D k : Nat} (hD : D ≠ 0) (h1 : (nc V.natAbs).length <= k) (h2 : (nc D).length <= k) : qs k (mkRat V D) := by
  obtain ⟨e1, e2⟩ := A8j (x := V) hD
  unfold qs
  rw [e1, e2]
  refine ⟨Nat.le_trans (M5 ?_) h1, Nat.le_trans (M5 (Nat.div_le_self _ _)) h2⟩
  exact Int.natAbs_ediv_le_natAbs _ _
theorem B0l {k : Nat} (hk : 1 <= k) : qs k 0 := by
  refine ⟨?_, ?_⟩
  . show (nc 0).length <= k
    rw [Q6]; exact Nat.zero_le _
  . show (nc 1).length <= k
    rw [C5a]; exact hk
theorem G0v {k : Nat} {q : Rat} (h : qs k q) : 1 <= k := by
  have h1 := h.2
  have h2 : nc q.den ≠ [] := fun e => q.den_nz (C4s.1 e)
  have := List.length_pos_iff.2 h2
  omega
theorem G0k {k : Nat} {q : Rat} (h : qs k q) : qs k (-q) := by
  unfold qs at h ⊢
  rw [Rat.neg_num, Rat.neg_den, Int.natAbs_neg]; exact h
theorem C5e {j k : Nat} {p q : Rat} (h1 : qs j p) (h2 : qs k q) : qs (j + k) (p * q) := by
  rw [Rat.mul_def']
  refine D5s (Nat.mul_ne_zero p.den_nz q.den_nz) ?_ ?_
  . rw [Int.natAbs_mul]
    exact Nat.le_trans (B5f _ _) (Nat.add_le_add h1.1 h2.1)
  . exact Nat.le_trans (B5f _ _) (Nat.add_le_add h1.2 h2.2)
theorem E4p {j k : Nat} {p q : Rat} (h1 : qs j p) (h2 : qs k q) : qs (j + k + 1) (p + q) := by
  rw [Rat.add_def']
  refine D5s (Nat.mul_ne_zero p.den_nz q.den_nz) ?_ ?_
  . have e : (p.num * (q.den : Int) + q.num * (p.den : Int)).natAbs <= p.num.natAbs * q.den + q.num.natAbs * p.den := by
      refine Nat.le_trans (Int.natAbs_add_le _ _) ?_
      rw [Int.natAbs_mul, Int.natAbs_mul, Int.natAbs_natCast, Int.natAbs_natCast]
      exact Nat.le_refl _
    have a1 := B5f p.num.natAbs q.den
    have a2 := B5f q.num.natAbs p.den
    have a3 := D3z (p.num.natAbs * q.den) (q.num.natAbs * p.den)
    have a4 := M5 e
    have := h1.1; have := h1.2; have := h2.1; have := h2.2
    omega
  . have := B5f p.den q.den
    have := h1.2; have := h2.2
    omega
theorem F0t {k : Nat} {q : Rat} (h : qs k q) : qs k q⁻¹ := by
  have hk := G0v h
  by_cases h0 : q = 0
  . subst h0; rw [Rat.inv_zero]; exact B0l hk
  have hn : q.num ≠ 0 := fun e => h0 (Rat.num_eq_zero.1 e)
  refine ⟨?_, ?_⟩
  . rw [Rat.num_inv, Int.natAbs_mul, Int.natAbs_natCast, Int.natAbs_sign_of_ne_zero hn, Nat.one_mul]; exact h.2
  . rw [Rat.den_inv, if_neg hn]; exact h.1
theorem F6m {a : Int} (h : a.natAbs < 4294967296) : qs 1 (a : Rat) := by
  refine ⟨?_, ?_⟩
  . rw [Rat.num_intCast]; exact A5i (by simpa using h)
  . rw [Rat.den_intCast, C5a]; exact Nat.le_refl _
abbrev K0 : Nat := 1073741824
abbrev K1 : Nat := 549755813888
theorem B1n {k : Nat} {x : X5} (h : sz k x) (hk : k <= 2199023255552) : sh3 x := ⟨Nat.le_trans h.1 hk, Nat.le_trans h.2 hk⟩
theorem C0w {k : Nat} {q : Rat} (h : qs k q) (hk : k <= 2199023255552) : sh3 (rc q) := ⟨Nat.le_trans h.1 hk, Nat.le_trans h.2 hk⟩
abbrev Ent := Int × X5
def F2 : List Ent -> Int -> Rat
  | [], _ => 0
  | e :: v, i => (if e.1 = i then rv e.2 else 0) + F2 v i
def asc (v : List Ent) : Prop := v.Pairwise fun a b => a.1 < b.1
instance (v : List Ent) : Decidable (asc v) := by unfold asc; infer_instance
def C5c (v : List Ent) : Prop := asc v /\ ∀ e ∈ v, rv e.2 ≠ 0 /\ e.2 = rc (rv e.2)
def V5 (v : List Ent) (n : Int) : Prop := asc v /\ ∀ e ∈ v, 0 <= e.1 /\ e.1 < n /\ rv e.2 ≠ 0
instance (v : List Ent) (n : Int) : Decidable (V5 v n) := by unfold V5; infer_instance
def szV (k : Nat) (v : List Ent) : Prop := ∀ e ∈ v, sz k e.2
def szL (k : Nat) (l : List X5) : Prop := ∀ x ∈ l, sz k x
def okV (k : Nat) (v : List Ent) : Prop := asc v /\ szV k v /\ v.length <= 100000
def F6h (v : List Ent) : Prop := ∀ e ∈ v, G0c e.2
theorem D8f (i : Int) : F2 [] i = 0 := rfl
theorem H8 {v : List Ent} {i : Int} (h : ∀ e ∈ v, e.1 ≠ i) : F2 v i = 0 := by
  induction v with
  | nil => rfl
  | cons e v ih =>
    rw [F2, if_neg (h e (List.mem_cons_self ..)), ih fun x hx => h x (List.mem_cons_of_mem _ hx), Rat.zero_add]
theorem A4n (a b : List Ent) (i : Int) : F2 (a ++ b) i = F2 a i + F2 b i := by
  induction a with
  | nil => rw [List.nil_append, D8f, Rat.zero_add]
  | cons e a ih => rw [List.cons_append, F2, F2, ih, Rat.add_assoc]
theorem K3 {e : Ent} {v : List Ent} : asc (e :: v) ↔ (∀ x ∈ v, e.1 < x.1) /\ asc v := List.pairwise_cons
theorem A3t {e : Ent} {v : List Ent} (h : asc (e :: v)) : asc v := (K3.1 h).2
theorem R0 {e : Ent} {v : List Ent} (h : asc (e :: v)) : F2 (e :: v) e.1 = rv e.2 := by
  rw [F2, if_pos rfl, H8 fun x hx he => by have := (K3.1 h).1 x hx; omega, Rat.add_zero]
theorem D6s {e : Ent} {v : List Ent} (h : asc (e :: v)) {i : Int} (hi : i < e.1) : F2 (e :: v) i = 0 :=
  H8 fun x hx => by
    rcases List.mem_cons.1 hx with rfl | hx
    . omega
    . have := (K3.1 h).1 x hx; omega
theorem A1e {e : Ent} {v : List Ent} {i : Int} (hi : e.1 ≠ i) : F2 (e :: v) i = F2 v i := by
  rw [F2, if_neg hi, Rat.zero_add]
theorem B2w {v : List Ent} (h : asc v) {e : Ent} (he : e ∈ v) : F2 v e.1 = rv e.2 := by
  induction v with
  | nil => cases he
  | cons x v ih =>
    rcases List.mem_cons.1 he with rfl | he
    . exact R0 h
    . have := (K3.1 h).1 e he
      rw [A1e (by omega), ih (A3t h) he]
theorem C7h : C5c [] := ⟨List.Pairwise.nil, fun _ h => by cases h⟩
theorem E0j {e : Ent} {v : List Ent} (h : C5c (e :: v)) : C5c v := ⟨A3t h.1, fun x hx => h.2 x (List.mem_cons_of_mem _ hx)⟩
theorem E6r : ∀ {a b : List Ent}, C5c a -> C5c b -> (∀ i, F2 a i = F2 b i) -> a = b
  | [], [], _, _, _ => rfl
  | [], e :: b, _, hb, h => absurd ((R0 hb.1).symm.trans (h e.1).symm) (hb.2 e (List.mem_cons_self ..)).1
  | e :: a, [], ha, _, h => absurd ((R0 ha.1).symm.trans (h e.1)) (ha.2 e (List.mem_cons_self ..)).1
  | e :: a, f :: b, ha, hb, h => by
    have h1 := ha.2 e (List.mem_cons_self ..)
    have h2 := hb.2 f (List.mem_cons_self ..)
    have he : e.1 = f.1 := by
      rcases Int.lt_trichotomy e.1 f.1 with hl | hl | hl
      . have := h e.1
        rw [R0 ha.1, D6s hb.1 hl] at this
        exact absurd this h1.1
      . exact hl
      . have := h f.1
        rw [R0 hb.1, D6s ha.1 hl] at this
        exact absurd this.symm h2.1
    have hv : rv e.2 = rv f.2 := by
      have := h e.1
      rw [R0 ha.1, he, R0 hb.1] at this
      exact this
    have hef : e = f := by
      obtain ⟨i, x⟩ := e
      obtain ⟨j, y⟩ := f
      simp only at he hv h1 h2
      rw [he, h1.2, h2.2, hv]
    subst hef
    rw [E6r (E0j ha) (E0j hb) fun i => by
      by_cases hi : e.1 = i
      . subst hi
        rw [H8 fun x hx hxe => by have := (K3.1 ha.1).1 x hx; omega, H8 fun x hx hxe => by have := (K3.1 hb.1).1 x hx; omega]
      . have := h i
        rwa [A1e hi, A1e hi] at this]
theorem F5s {v : List Ent} {e : Ent} (h : asc v) (he : ∀ x ∈ v, x.1 < e.1) : asc (v ++ [e]) := by
  unfold asc
  rw [List.pairwise_append]
  refine ⟨h, List.pairwise_singleton .., fun a ha b hb => ?_⟩
  rw [List.mem_singleton] at hb
  subst hb; exact he a ha
theorem C8n {v : List Ent} {i : Int} {q : Rat} (h : C5c v) (hq : q ≠ 0) (he : ∀ x ∈ v, x.1 < i) : C5c (v ++ [(i, rc q)]) := by
  refine ⟨F5s h.1 he, fun x hx => ?_⟩
  rcases List.mem_append.1 hx with hx | hx
  . exact h.2 x hx
  . rw [List.mem_singleton] at hx
    subst hx
    simp only [A5e]
    exact ⟨hq, trivial⟩
theorem B9w (v : List Ent) (i : Int) (q : Rat) (j : Int) : F2 (v ++ [(i, rc q)]) j = F2 v j + (if i = j then q else 0) := by
  rw [A4n]
  simp only [F2, A5e, Rat.add_zero]
theorem F9b {v : List Ent} (h : C5c v) {k : Nat} (hq : ∀ i, qs k (F2 v i)) : szV k v := fun e he => by
  rw [(h.2 e he).2, <- B2w h.1 he]; exact hq _
theorem D0d {v : List Ent} (h : asc v) (hl : F6h v) {k : Nat} (hs : szV k v) (hk : 1 <= k) (i : Int) : qs k (F2 v i) := by
  by_cases hi : ∃ e ∈ v, e.1 = i
  . obtain ⟨e, he, rfl⟩ := hi
    rw [B2w h he]; exact E0z (hl e he) (hs e he) hk
  . rw [H8 fun e he hei => hi ⟨e, he, hei⟩]; exact B0l hk
theorem D5w {v : List Ent} {n : Int} (h : V5 v n) : (v.length : Int) <= max n 0 := by
  have key : ∀ (v : List Ent) (k n : Int), asc v -> (∀ e ∈ v, k <= e.1 /\ e.1 < n) -> (v.length : Int) <= max (n - k) 0 := by
    intro v
    induction v with
    | nil => intro k n _ _; simp only [List.length_nil]; omega
    | cons e v ih =>
      intro k n ha hb
      have h1 := hb e (List.mem_cons_self ..)
      have := ih (e.1 + 1) n (A3t ha) fun x hx => ⟨by have := (K3.1 ha).1 x hx; omega, (hb x (List.mem_cons_of_mem _ hx)).2⟩
      simp only [List.length_cons]; omega
  have := key v 0 n h.1 fun e he => ⟨(h.2 e he).1, (h.2 e he).2.1⟩
  omega
abbrev B4g := Int × Int × List (List Ent)
def el (m : B4g) (i j : Nat) : Rat := F2 (m.2.2.getD i []) (j : Int)
def A6 (m : B4g) : Prop := 0 <= m.1 /\ m.1 <= 16384 /\ 0 <= m.2.1 /\ m.2.1 <= 16384 /\ (m.2.2.length : Int) = m.1 /\ ∀ v ∈ m.2.2, V5 v m.2.1
instance (m : B4g) : Decidable (A6 m) := by unfold A6; infer_instance
def zm : B4g := (0, 0, [])
def isM (R C : Nat) (f : Nat -> Nat -> Rat) (m : B4g) : Prop :=
  m.1 = (R : Int) /\ m.2.1 = (C : Int) /\ m.2.2.length = R /\ ∀ i, i < R -> C5c (m.2.2.getD i []) /\ (∀ e ∈ m.2.2.getD i [], 0 <= e.1 /\ e.1 < (C : Int)) /\ ∀ j, j < C -> F2 (m.2.2.getD i []) (j : Int) = f i j
def isV (n : Nat) (f : Nat -> Rat) (v : List Ent) : Prop := C5c v /\ (∀ e ∈ v, 0 <= e.1 /\ e.1 < (n : Int)) /\ ∀ j, j < n -> F2 v (j : Int) = f j
theorem D8i {n : Nat} {f : Nat -> Rat} {v : List Ent} (h : isV n f v) (i : Int) : F2 v i = if 0 <= i /\ i < (n : Int) then f i.toNat else 0 := by
  by_cases hi : 0 <= i /\ i < (n : Int)
  . rw [if_pos hi, <- h.2.2 i.toNat (by omega)]; congr 1; omega
  . rw [if_neg hi, H8 fun e he hei => hi (by rw [<- hei]; exact h.2.1 e he)]
theorem F7p {n : Nat} {f g : Nat -> Rat} {a b : List Ent} (ha : isV n f a) (hb : isV n g b) (h : ∀ j, j < n -> f j = g j) : a = b :=
  E6r ha.1 hb.1 fun i => by
    rw [D8i ha, D8i hb]
    split
    . exact h _ (by omega)
    . rfl
theorem C8c {n : Nat} {f g : Nat -> Rat} {v : List Ent} (h : isV n f v) (e : ∀ j, j < n -> f j = g j) : isV n g v := ⟨h.1, h.2.1, fun j hj => by rw [h.2.2 j hj, e j hj]⟩
theorem B2s {α : Type} (l : List α) (d : α) {i : Nat} (h : i < l.length) : l.getD i d = l[i] := by rw [List.getD_eq_getElem?_getD, List.getElem?_eq_getElem h]; rfl
theorem D5t {R C : Nat} {f g : Nat -> Nat -> Rat} {a b : B4g} (ha : isM R C f a) (hb : isM R C g b) (h : ∀ i j, i < R -> j < C -> f i j = g i j) : a = b := by
  obtain ⟨r, c, d⟩ := a
  obtain ⟨r', c', d'⟩ := b
  obtain ⟨a1, a2, a3, a4⟩ := ha
  obtain ⟨b1, b2, b3, b4⟩ := hb
  simp only at a1 a2 a3 a4 b1 b2 b3 b4
  subst a1; subst a2; subst b1; subst b2
  have : d = d' := by
    refine List.ext_getElem (by omega) fun i h1 h2 => ?_
    have x1 := a4 i (by omega)
    have x2 := b4 i (by omega)
    have := F7p x1 x2 fun j hj => h i j (by omega) hj
    rwa [B2s _ _ h1, B2s _ _ h2] at this
  rw [this]
theorem A4j {R C : Nat} {f g : Nat -> Nat -> Rat} {m : B4g} (h : isM R C f m) (e : ∀ i j, i < R -> j < C -> f i j = g i j) : isM R C g m :=
  ⟨h.1, h.2.1, h.2.2.1, fun i hi => C8c (h.2.2.2 i hi) fun j hj => e i j hi hj⟩
theorem A5k {R C : Nat} {f : Nat -> Nat -> Rat} {m : B4g} (h : isM R C f m) {i j : Nat} (hi : i < R) (hj : j < C) : el m i j = f i j := (h.2.2.2 i hi).2.2 j hj
theorem U5 {α : Type} {l : List α} {i : Nat} {d : α} (h : i < l.length) : l.getD i d ∈ l := by rw [B2s _ _ h]; exact List.getElem_mem h
theorem C7n {α : Type} {l : List α} {x : α} (d : α) (h : x ∈ l) : ∃ i, i < l.length /\ l.getD i d = x := by
  obtain ⟨i, hi, e⟩ := List.mem_iff_getElem.1 h
  exact ⟨i, hi, by rw [B2s _ _ hi]; exact e⟩
theorem D8u {n : Nat} {f : Nat -> Rat} {v : List Ent} (h : isV n f v) : V5 v (n : Int) := ⟨h.1.1, fun e he => ⟨(h.2.1 e he).1, (h.2.1 e he).2, (h.1.2 e he).1⟩⟩
theorem B2b {R C : Nat} {f : Nat -> Nat -> Rat} {m : B4g} (h : isM R C f m) (hR : R <= 16384) (hC : C <= 16384) : A6 m := by
  obtain ⟨h1, h2, h3, h4⟩ := h
  refine ⟨by omega, by omega, by omega, by omega, by omega, fun v hv => ?_⟩
  obtain ⟨i, hi, rfl⟩ := C7n [] hv
  rw [h2]
  exact D8u (h4 i (by omega))
def okM (k : Nat) (m : B4g) : Prop := ∀ v ∈ m.2.2, szV k v
def G0f (m : B4g) : Prop := ∀ v ∈ m.2.2, F6h v
theorem F6s {R C k : Nat} {f : Nat -> Nat -> Rat} {m : B4g} (h : isM R C f m) (hk : 1 <= k) (hf : ∀ i j, i < R -> j < C -> qs k (f i j)) : okM k m := fun v hv => by
  obtain ⟨i, hi, rfl⟩ := C7n [] hv
  rw [h.2.2.1] at hi
  refine F9b (h.2.2.2 i hi).1 fun j => ?_
  rw [D8i (h.2.2.2 i hi)]
  split
  . exact hf i _ hi (by omega)
  . exact B0l hk
def isC (f : Int -> Rat) (v : List Ent) : Prop := C5c v /\ ∀ i, F2 v i = f i
def dl (n : Int) (f : Int -> Rat) : List X5 := (List.range n.toNat).map fun j : Nat => rc (f (j : Int))
def F4s (m : B4g) (i j r c : Nat) : Rat := el m (if r < i then r else r + 1) (if c < j then c else c + 1) - el m (if r < i then r else r + 1) j * el m i (if c < j then c else c + 1) / el m i j
def F3e (x : X5) : Prop := ∃ q, qs 1 q /\ x = rc q
def F9g (R C : Nat) (m : B4g) : Prop := ∃ f, (∀ i j, qs 1 (f i j)) /\ isM R C f m
def A0h : Nat -> (Nat -> Rat) -> Rat
  | 0, _ => 0
  | n + 1, f => A0h n f + f n
theorem W9 {n : Nat} {f g : Nat -> Rat} (h : ∀ i, i < n -> f i = g i) : A0h n f = A0h n g := by
  induction n with
  | zero => rfl
  | succ n ih => rw [A0h, A0h, ih fun i hi => h i (by omega), h n (by omega)]
theorem C0s {n : Nat} {f : Nat -> Rat} (h : ∀ i, i < n -> f i = 0) : A0h n f = 0 := by
  induction n with
  | zero => rfl
  | succ n ih => rw [A0h, ih fun i hi => h i (by omega), h n (by omega), Rat.add_zero]
theorem D7e (n : Nat) (f g : Nat -> Rat) : A0h n (fun i => f i + g i) = A0h n f + A0h n g := by
  induction n with
  | zero => rw [A0h, A0h, A0h, Rat.add_zero]
  | succ n ih => rw [A0h, A0h, A0h, ih]; grind
theorem E5x (n : Nat) (c : Rat) (f : Nat -> Rat) : A0h n (fun i => c * f i) = c * A0h n f := by
  induction n with
  | zero => rw [A0h, A0h, Rat.mul_zero]
  | succ n ih => rw [A0h, A0h, ih, Rat.mul_add]
theorem F0v (n : Nat) (c : Rat) (f : Nat -> Rat) : A0h n (fun i => f i * c) = A0h n f * c := by
  induction n with
  | zero => rw [A0h, A0h, Rat.zero_mul]
  | succ n ih => rw [A0h, A0h, ih, Rat.add_mul]
theorem F1o (m n : Nat) (f : Nat -> Nat -> Rat) : A0h m (fun i => A0h n (f i)) = A0h n fun j => A0h m fun i => f i j := by
  induction m with
  | zero => rw [A0h]; exact (C0s fun _ _ => rfl).symm
  | succ m ih =>
    rw [A0h, ih, <- D7e]
    exact W9 fun j _ => rfl
theorem E1z {n k : Nat} {f : Nat -> Rat} (hk : k < n) (h : ∀ i, i < n -> i ≠ k -> f i = 0) : A0h n f = f k := by
  induction n with
  | zero => omega
  | succ n ih =>
    rw [A0h]
    by_cases he : k = n
    . subst he
      rw [C0s fun i hi => h i (by omega) (by omega), Rat.zero_add]
    . rw [ih (by omega) fun i hi => h i (by omega), h n (by omega) (by omega), Rat.add_zero]
theorem F9n {n k : Nat} {f : Nat -> Rat} (hf : ∀ i, i < n -> qs k (f i)) : qs (n * (k + 1) + 1) (A0h n f) := by
  induction n with
  | zero => rw [A0h]; exact B0l (by omega)
  | succ n ih =>
    rw [A0h]
    refine C1r (E4p (ih fun i hi => hf i (by omega)) (hf n (by omega))) ?_
    rw [Nat.add_mul, Nat.one_mul]; omega
def A9e : List Ent -> (Int -> Rat) -> Rat
  | [], _ => 0
  | e :: v, h => rv e.2 * h e.1 + A9e v h
theorem E2c (a b : List Ent) (h : Int -> Rat) : A9e (a ++ b) h = A9e a h + A9e b h := by
  induction a with
  | nil => rw [List.nil_append, A9e, Rat.zero_add]
  | cons e a ih => rw [List.cons_append, A9e, A9e, ih, Rat.add_assoc]
theorem F2s {d : Ent} {v : List Ent} {i : Int} (h0 : 0 <= i) (h1 : i < (v.length : Int)) (h : Int -> Rat) : A9e (v.take (i + 1).toNat) h = A9e (v.take i.toNat) h + rv (gx d v i).2 * h (gx d v i).1 := by
  rw [show (i + 1).toNat = i.toNat + 1 from by omega, List.take_add_one, M7 (d := d) h0 h1, E2c]
  simp only [Option.toList_some, A9e, Rat.add_zero]
theorem F8u {v : List Ent} {n : Nat} (hv : ∀ e ∈ v, 0 <= e.1 /\ e.1 < (n : Int)) (h : Int -> Rat) : A9e v h = A0h n fun j => F2 v (j : Int) * h (j : Int) := by
  induction v with
  | nil => rw [A9e]; exact (C0s fun j _ => Rat.zero_mul _).symm
  | cons e v ih =>
    obtain ⟨h0, h1⟩ := hv e (List.mem_cons_self ..)
    rw [A9e, ih fun x hx => hv x (List.mem_cons_of_mem _ hx)]
    have e1 : (A0h n fun j => F2 (e :: v) (j : Int) * h (j : Int)) = (A0h n fun j => (if e.1 = (j : Int) then rv e.2 else 0) * h (j : Int)) + A0h n fun j => F2 v (j : Int) * h (j : Int) := by
      rw [<- D7e]
      exact W9 fun j _ => by rw [F2, Rat.add_mul]
    have e2 : (A0h n fun j => (if e.1 = (j : Int) then rv e.2 else 0) * h (j : Int)) = rv e.2 * h e.1 := by
      rw [E1z (k := e.1.toNat) (by omega) fun i _ hi => by rw [if_neg (by omega), Rat.zero_mul], if_pos (by omega), show ((e.1.toNat : Nat) : Int) = e.1 from by omega]
    rw [e1, e2]
theorem F7l {v : List Ent} {h : Int -> Rat} {j k : Nat} (hl : F6h v) (hs : szV j v) (hj : 1 <= j) (hh : ∀ e ∈ v, qs k (h e.1)) : qs (v.length * (j + k + 1) + 1) (A9e v h) := by
  induction v with
  | nil => rw [A9e]; exact B0l (by omega)
  | cons e v ih =>
    rw [A9e]
    refine C1r (E4p (C5e (E0z (hl e (List.mem_cons_self ..)) (hs e (List.mem_cons_self ..)) hj) (hh e (List.mem_cons_self ..))) (ih (fun x hx => hl x (List.mem_cons_of_mem _ hx)) (fun x hx => hs x (List.mem_cons_of_mem _ hx)) fun x hx => hh x (List.mem_cons_of_mem _ hx))) ?_
    rw [List.length_cons, Nat.add_mul, Nat.one_mul]; omega
theorem E2p : rv zr = 0 := Rat.mkRat_zero _
def put (i : Int) (x : X5) (l : List Ent) : List Ent := if rv x = 0 then l else (i, x) :: l
def M9 (φ : X5 × X5 × Unit -> X5) : List Ent -> List Ent -> List Ent
  | [], [] => []
  | e :: a, [] => put e.1 (φ (e.2, zr, ())) (M9 φ a [])
  | [], f :: b => put f.1 (φ (zr, f.2, ())) (M9 φ [] b)
  | e :: a, f :: b => if e.1 < f.1 then put e.1 (φ (e.2, zr, ())) (M9 φ a (f :: b)) else if e.1 = f.1 then put e.1 (φ (e.2, f.2, ())) (M9 φ a b) else put f.1 (φ (zr, f.2, ())) (M9 φ (e :: a) b)
termination_by a b => a.length + b.length
theorem C0u (i : Int) (q : Rat) (l : List Ent) (j : Int) : F2 (put i (rc q) l) j = (if i = j then q else 0) + F2 l j := by
  unfold put
  rw [A5e]
  split
  . rename_i h; subst h; simp only [ite_self, Rat.zero_add]
  . rw [F2, A5e]
theorem C9d {i : Int} {x : X5} {l : List Ent} {e : Ent} (h : e ∈ put i x l) : e.1 = i \/ e ∈ l := by
  unfold put at h
  split at h
  . exact .inr h
  . rcases List.mem_cons.1 h with rfl | h
    . exact .inl rfl
    . exact .inr h
theorem C1f {i : Int} {q : Rat} {l : List Ent} (h : C5c l) (hl : ∀ e ∈ l, i < e.1) : C5c (put i (rc q) l) := by
  unfold put
  rw [A5e]
  split
  . exact h
  . rename_i h0
    refine ⟨K3.2 ⟨hl, h.1⟩, fun e he => ?_⟩
    rcases List.mem_cons.1 he with rfl | he
    . simp only [A5e]; exact ⟨h0, trivial⟩
    . exact h.2 e he
theorem E3p (φ : X5 × X5 × Unit -> X5) (g : Rat -> Rat -> Rat) (g0 : g 0 0 = 0) (a b : List Ent) :
    (∀ x y, (x = zr \/ ∃ e ∈ a, e.2 = x) -> (y = zr \/ ∃ e ∈ b, e.2 = y) -> φ (x, y, ()) = rc (g (rv x) (rv y))) -> asc a -> asc b ->
    C5c (M9 φ a b) /\ (∀ e ∈ M9 φ a b, (∃ x ∈ a, x.1 = e.1) \/ ∃ y ∈ b, y.1 = e.1) /\ ∀ i, F2 (M9 φ a b) i = g (F2 a i) (F2 b i) := by
  induction a, b using M9.induct with
  | case1 =>
    intro _ _ _
    rw [M9]
    exact ⟨C7h, fun e he => (by cases he), fun i => g0.symm⟩
  | case2 e a ih =>
    intro hφ ha hb
    obtain ⟨h1, h2, h3⟩ := ih (fun x y hx hy => hφ x y (hx.imp id fun ⟨z, hz, hzx⟩ => ⟨z, List.mem_cons_of_mem _ hz, hzx⟩) hy) (A3t ha) hb
    rw [M9, hφ e.2 zr (.inr ⟨e, List.mem_cons_self .., rfl⟩) (.inl rfl), E2p]
    refine ⟨C1f h1 fun x hx => ?_, fun x hx => ?_, fun i => ?_⟩
    . rcases h2 x hx with ⟨z, hz, hzx⟩ | ⟨z, hz, _⟩
      . rw [<- hzx]; exact (K3.1 ha).1 z hz
      . cases hz
    . rcases C9d hx with hx | hx
      . exact .inl ⟨e, List.mem_cons_self .., hx.symm⟩
      . exact (h2 x hx).imp (fun ⟨z, hz, hzx⟩ => ⟨z, List.mem_cons_of_mem _ hz, hzx⟩) id
    . rw [C0u, h3, D8f]
      by_cases hi : e.1 = i
      . subst hi
        rw [if_pos rfl, R0 ha, H8 fun x hx hxe => by have := (K3.1 ha).1 x hx; omega, g0, Rat.add_zero]
      . rw [if_neg hi, A1e hi, Rat.zero_add]
  | case3 f b ih =>
    intro hφ ha hb
    obtain ⟨h1, h2, h3⟩ := ih (fun x y hx hy => hφ x y hx (hy.imp id fun ⟨z, hz, hzx⟩ => ⟨z, List.mem_cons_of_mem _ hz, hzx⟩)) ha (A3t hb)
    rw [M9, hφ zr f.2 (.inl rfl) (.inr ⟨f, List.mem_cons_self .., rfl⟩), E2p]
    refine ⟨C1f h1 fun x hx => ?_, fun x hx => ?_, fun i => ?_⟩
    . rcases h2 x hx with ⟨z, hz, _⟩ | ⟨z, hz, hzx⟩
      . cases hz
      . rw [<- hzx]; exact (K3.1 hb).1 z hz
    . rcases C9d hx with hx | hx
      . exact .inr ⟨f, List.mem_cons_self .., hx.symm⟩
      . exact (h2 x hx).imp id fun ⟨z, hz, hzx⟩ => ⟨z, List.mem_cons_of_mem _ hz, hzx⟩
    . rw [C0u, h3, D8f]
      by_cases hi : f.1 = i
      . subst hi
        rw [if_pos rfl, R0 hb, H8 fun x hx hxe => by have := (K3.1 hb).1 x hx; omega, g0, Rat.add_zero]
      . rw [if_neg hi, A1e hi, Rat.zero_add]
  | case4 e a f b hlt ih =>
    intro hφ ha hb
    obtain ⟨h1, h2, h3⟩ := ih (fun x y hx hy => hφ x y (hx.imp id fun ⟨z, hz, hzx⟩ => ⟨z, List.mem_cons_of_mem _ hz, hzx⟩) hy) (A3t ha) hb
    rw [M9, if_pos hlt, hφ e.2 zr (.inr ⟨e, List.mem_cons_self .., rfl⟩) (.inl rfl), E2p]
    refine ⟨C1f h1 fun x hx => ?_, fun x hx => ?_, fun i => ?_⟩
    . rcases h2 x hx with ⟨z, hz, hzx⟩ | ⟨z, hz, hzx⟩
      . rw [<- hzx]; exact (K3.1 ha).1 z hz
      . rw [<- hzx]
        rcases List.mem_cons.1 hz with rfl | hz
        . exact hlt
        . have := (K3.1 hb).1 z hz; omega
    . rcases C9d hx with hx | hx
      . exact .inl ⟨e, List.mem_cons_self .., hx.symm⟩
      . exact (h2 x hx).imp (fun ⟨z, hz, hzx⟩ => ⟨z, List.mem_cons_of_mem _ hz, hzx⟩) id
    . rw [C0u, h3]
      by_cases hi : e.1 = i
      . subst hi
        rw [if_pos rfl, R0 ha, H8 (v := a) fun x hx hxe => by have := (K3.1 ha).1 x hx; omega, D6s hb hlt, g0, Rat.add_zero]
      . rw [if_neg hi, A1e hi, Rat.zero_add]
  | case5 e a f b hlt heq ih =>
    intro hφ ha hb
    obtain ⟨h1, h2, h3⟩ := ih (fun x y hx hy => hφ x y (hx.imp id fun ⟨z, hz, hzx⟩ => ⟨z, List.mem_cons_of_mem _ hz, hzx⟩) (hy.imp id fun ⟨z, hz, hzx⟩ => ⟨z, List.mem_cons_of_mem _ hz, hzx⟩)) (A3t ha) (A3t hb)
    rw [M9, if_neg hlt, if_pos heq, hφ e.2 f.2 (.inr ⟨e, List.mem_cons_self .., rfl⟩) (.inr ⟨f, List.mem_cons_self .., rfl⟩)]
    refine ⟨C1f h1 fun x hx => ?_, fun x hx => ?_, fun i => ?_⟩
    . rcases h2 x hx with ⟨z, hz, hzx⟩ | ⟨z, hz, hzx⟩
      . rw [<- hzx]; exact (K3.1 ha).1 z hz
      . rw [<- hzx, heq]; exact (K3.1 hb).1 z hz
    . rcases C9d hx with hx | hx
      . exact .inl ⟨e, List.mem_cons_self .., hx.symm⟩
      . exact (h2 x hx).imp (fun ⟨z, hz, hzx⟩ => ⟨z, List.mem_cons_of_mem _ hz, hzx⟩) fun ⟨z, hz, hzx⟩ => ⟨z, List.mem_cons_of_mem _ hz, hzx⟩
    . rw [C0u, h3]
      by_cases hi : e.1 = i
      . subst hi
        have hb' := R0 hb
        rw [<- heq] at hb'
        rw [if_pos rfl, R0 ha, hb', H8 (v := a) fun x hx hxe => by have := (K3.1 ha).1 x hx; omega, H8 (v := b) fun x hx hxe => by have := (K3.1 hb).1 x hx; omega, g0, Rat.add_zero]
      . rw [if_neg hi, A1e hi, A1e (e := f) (by omega), Rat.zero_add]
  | case6 e a f b hlt heq ih =>
    intro hφ ha hb
    obtain ⟨h1, h2, h3⟩ := ih (fun x y hx hy => hφ x y hx (hy.imp id fun ⟨z, hz, hzx⟩ => ⟨z, List.mem_cons_of_mem _ hz, hzx⟩)) ha (A3t hb)
    rw [M9, if_neg hlt, if_neg heq, hφ zr f.2 (.inl rfl) (.inr ⟨f, List.mem_cons_self .., rfl⟩), E2p]
    refine ⟨C1f h1 fun x hx => ?_, fun x hx => ?_, fun i => ?_⟩
    . rcases h2 x hx with ⟨z, hz, hzx⟩ | ⟨z, hz, hzx⟩
      . rw [<- hzx]
        rcases List.mem_cons.1 hz with rfl | hz
        . omega
        . have := (K3.1 ha).1 z hz; omega
      . rw [<- hzx]; exact (K3.1 hb).1 z hz
    . rcases C9d hx with hx | hx
      . exact .inr ⟨f, List.mem_cons_self .., hx.symm⟩
      . exact (h2 x hx).imp id fun ⟨z, hz, hzx⟩ => ⟨z, List.mem_cons_of_mem _ hz, hzx⟩
    . rw [C0u, h3]
      by_cases hi : f.1 = i
      . subst hi
        rw [if_pos rfl, R0 hb, H8 (v := b) fun x hx hxe => by have := (K3.1 hb).1 x hx; omega, D6s ha (by omega), g0, Rat.add_zero]
      . rw [if_neg hi, A1e (e := f) hi, Rat.zero_add]
def F6b (p : Int -> Bool) (l : List Int) : Int := match l.findIdx? p with
  | some i => (i : Int)
  | none => -1
end Go.Proofs.YtkdmjgcjpmcjjaaGreat
namespace Go.Gw
open Go Go.RowKit Go.ChangeShapes Go.WideShapes Go.ChangeAt
section
variable {H : Type} {enc : TypeId × Value -> H} {P : Program}
theorem B8s (hl : laidOutB P = true) {W W' : World} {sp : Nat -> Bool} (hb : Ext W W') : ∀ (ts : List TypeId) (vs : List Value) (ds : List (DataW H)) (ps : List MemPlace),
    (∀ t ∈ ts, P.readableRec t = true /\ t < P.types.size) -> DataW.TrodAll enc P W 0 (fun _ => true) true ts vs ds ps -> (∀ x ∈ ps, x.block < W.heap.size) -> (∀ x ∈ ps, sp x.block = true) -> DataW.TrodAll enc P W' 0 sp true ts vs ds ps
  | [], vs, ds, ps, _, h, _, _ => by
    cases vs <;> cases ds <;> simp [DataW.TrodAll] at h ⊢
    exact h
  | t :: ts, vs, ds, ps, ht, h, hlt, hsp => by
    obtain ⟨v, vs', d, ds', p, q, rfl, rfl, rfl, h1, h2⟩ := trodAll_cons h
    refine trodAll_cons_mk ?_ (B8s hl hb ts vs' ds' q (fun x hx => ht x (by simp [hx])) h2 (fun x hx => hlt x (by simp [hx])) (fun x hx => hsp x (by simp [hx])))
    exact WideElems.Trod_stays hl (ht t (by simp)).1 (ht t (by simp)).2 h1 (fun x hx => hb.same (hlt x (by simp [hx]))) (fun x hx => hsp x (by simp [hx]))
theorem F3u (hl : laidOutB P = true) {f : Func} {s : ChangeSpec} {W W' : World} {args : Array Value} {ds gs : List (DataW H)} {before : List MemPlace} {tb : TypeId}
    (hW : DataW.Whole enc P f.params.toList s.vars false W args.toList ds gs before) (hv : s.vars = []) (hres : f.resultTypes = #[tb]) (htb : P.underlying tb = some .bool)
    (hfn : s.fn H ds = { results := [.lit (.bool true)], args := ds }) (hr : ∀ t ∈ f.params.toList, P.readableRec t = true /\ t < P.types.size) (hb : Ext W W') :
    s.post enc P f false true false false W args (.bool true) W' := by
  have hlt : ∀ p ∈ before, p.block < W.heap.size := fun p hp => hW.lt p hp
  have hW0 := hW
  obtain ⟨p, q, hA, hV, hpq, _, _⟩ := hW
  rw [hv] at hV
  obtain ⟨rfl, rfl⟩ := trodVars_none hV
  rw [List.append_nil] at hpq
  subst hpq
  refine ⟨ds, [], before, [], before, [], hW0, ?_, ?_, ?_, ?_, fun h => by cases h⟩
  . rw [List.append_nil, hfn, hres]
    exact trodAll_mk1 (shut_bool htb _)
  . rw [List.append_nil, hfn]
    exact B8s hl hb _ _ _ _ hr hA hlt (fun x hx => by simpa using hlt x hx)
  . rw [List.append_nil, hfn, hv]
    rfl
  . refine World.keptBut_mono ?_ (hb.frame (· ∈ before))
    intro x hx
    exact ⟨hx, .inr (.inl hx)⟩
end
end Go.Gw
namespace Go.Vc
open Go Go.RowKit Go.Gw Go.ChangeShapes Go.WideShapes Go.ChangeAt
def F6e (P : Program) : Nat -> TypeId -> Ty -> Bool
  | 0, _, _ => false
  | n + 1, T, ty => match P.underlying T with
    | some (.int k) => (match ty with | .int k' => decide (k = k') | _ => false)
    | some .bool => (match ty with | .bool => true | _ => false)
    | some .string => (match ty with | .str => true | _ => false)
    | some (.slice e) => (match ty with | .sl t => F6e P n e t && Nat.beq (P.cellsOf e) t.size && Nat.ble 1 t.size | _ => false)
    | some (.struct fs) => F4w P (F6e P n) fs.toList 0 ty && Nat.beq (P.cellsOf T) ty.size
    | some (.array k e) => F3r (F6e P n e) (P.cellsOf e) k ty && Nat.beq (P.cellsOf T) ty.size
    | _ => false
section
variable {H : Type} {α : Type} {enc : TypeId × Value -> H} {P : Program} {W : World}
theorem cells?_at {base : Nat} {a : Addr} {n : Nat} {cs : List Value} (h : W.cells? base a n = some cs) : cs.length = n /\ M6 W a cs := by
  obtain ⟨_, hl, hc⟩ := World.cells?_some h
  exact ⟨hl, fun j v hj => by have := hc j (by have := D9g hj; omega); rw [this]; exact hj⟩
theorem F2d {a : Addr} {v : Value} (h : W.cell? a = some v) : a.spot = none := by
  unfold World.cell? at h
  split at h
  . cases hs : a.spot with
    | none => rfl
    | some _ => simp [hs] at h
  . cases h
end
def G2g (P : Program) (T : TypeId) (a : Bool) : Bool := match P.underlying T with
  | some (.struct _) => a
  | some (.array _ _) => false
  | _ => !a
def E5r (P : Program) : List TypeId -> List AM -> Bool
  | [], [] => true
  | T :: ts, .val a ty :: as => F6e P 40 T ty && G2g P T a && E5r P ts as
  | _, _ => false
section
variable {H : Type} {enc : TypeId × Value -> H} {P : Program} {W : World}
theorem E2w {f : FuncId} {s : B9} (h : ∀ x, ¬ s.pre x) : C0 P f s := fun _ _ _ x _ _ _ hp => absurd hp (h x)
theorem A3 : D8o P [] := fun _ _ h => by cases h
theorem A0 {f : FuncId} {s : B9} {l : B6} (h1 : C0 P f s) (h2 : D8o P l) (hi : s.inl = none := by rfl) : D8o P ((f, s) :: l) := fun g t h => by
  unfold A8n at h
  cases hb : Nat.beq f g with
  | true =>
    rw [hb] at h
    obtain rfl := Nat.eq_of_beq_eq_true hb
    obtain rfl : s = t := by simpa using h
    exact ⟨h1, fun run hr => by rw [hi] at hr; cases hr⟩
  | false => rw [hb] at h; exact h2 g t h
theorem A3q {f : FuncId} {run : Inl} {l : B6} (h1 : D7s P f run) (h2 : D8o P l) : D8o P ((f, A4l run) :: l) := fun g t h => by
  unfold A8n at h
  cases hb : Nat.beq f g with
  | true =>
    rw [hb] at h
    obtain rfl := Nat.eq_of_beq_eq_true hb
    obtain rfl : A4l run = t := by simpa using h
    exact ⟨fun _ _ _ _ _ _ _ hp => hp.elim, fun r hr => by cases hr; exact h1⟩
  | false => rw [hb] at h; exact h2 g t h
theorem A6u : F5f P [] := fun _ h => by cases h
theorem A3w {d : Nat} {sp : B6} {an : An} {l : List (Nat × B6 × An)} (h1 : D8o P sp) (h2 : F5f P l) : F5f P ((d, sp, an) :: l) := fun x hx => by
  rcases List.mem_cons.1 hx with rfl | hx
  . exact h1
  . exact h2 x hx
end
end Go.Vc
namespace Go.Vc
open Go Go.RowKit Go.Gw
def C3v (g : FuncId) (t : Ty) (e : TypeId) (φ : t.den -> t.den -> Int) (_ : Nat) (st : St) (ss : List SV) (k : St -> List SV -> Prop) : Prop :=
  match ss with
  | [⟨false, [.row q]⟩, ⟨false, [.fn g' []]⟩] => bif Nat.beq g' g then (match E0p st t e q with
    | some l => l.length <= 100000 /\ ∀ l' : List t.den, (Ty.sl t).wf l' -> l'.Perm l -> l'.Pairwise (fun a b => ¬ φ b a < 0) -> k (addM [.row t e] (l', ()) [q] (dropM st [q])) []
    | none => False) else False
  | _ => False
theorem E9q (g : FuncId) (t : Ty) (e : TypeId) (φ : t.den -> t.den -> Int) {st : St} {d : Nat} {ss : List SV} {k k' : St -> List SV -> Prop} (h : C3v g t e φ d st ss k) (hk : ∀ st' ss', Evo st st' -> k st' ss' -> k' st' ss') : C3v g t e φ d st ss k' := by
  unfold C3v at h ⊢
  split at h
  . obtain ⟨hb, h⟩ := B4 h
    rw [hb, cond_true]
    split at h
    . exact ⟨h.1, fun l' hw hp hs => hk _ _ ((Evo.dropM _ _).trans (Evo.addM _ _ _ _)) (h.2 l' hw hp hs)⟩
    . exact h.elim
  . exact h.elim
def E2q (g : FuncId) (t : Ty) (e : TypeId) (φ : t.den -> t.den -> Int) : Inl := { run := C3v g t e φ, step := E9q g t e φ }
def Y0 (t : Ty) (e : TypeId) (φ : t.den -> t.den -> Int) : B9 :=
  { args := [.row t e], res := [], shared := true, pre := fun _ => True, post := fun _ _ => True, mpost := fun (x : List t.den × Unit) _ (o : List t.den × Unit) => o.1.Perm x.1 /\ o.1.Pairwise fun a b => ¬ φ b a < 0 }
def F1a (P : Program) (f g : FuncId) (t : Ty) (e : TypeId) (φ : t.den -> t.den -> Int) : Prop :=
  ∀ (w : World) (Z : Nat -> Prop) (v : Value) (l : List t.den), (∀ b, Z b -> b < w.heap.size) -> E6x P w Z (.row t e) v l -> l.length <= 100000 -> F9e P f (Y0 t e φ) [v, .func (.func g) #[] #[]] w Z (l, ())
theorem E8l {P : Program} {tys : List (Nat × TI)} {f g : FuncId} {t : Ty} {e : TypeId} {φ : t.den -> t.den -> Int} (hs : F1a P f g t e φ) : D7s P f (E2q g t e φ) := by
  refine { go := ?_ }
  intro za w0 st E w Z B d ss vs k hb0 h hrs href hr
  replace hr : C3v g t e φ d st ss k := hr
  unfold C3v at hr
  split at hr
  . rename_i q g'
    obtain ⟨hg, hr2⟩ := B4 hr
    clear hr
    obtain rfl := Nat.eq_of_beq_eq_true hg
    split at hr2
    . rename_i l hl
      obtain ⟨hlen, hr3⟩ := hr2
      obtain ⟨v1, vs1, rfl, h1, v2, vs2, rfl, h2, rfl⟩ := hrs
      have e1 : v1 = B q := by
        obtain ⟨u, us, e1, e2, e3⟩ := h1
        cases e1; exact e2
      have e2 : v2 = .func (.func g') #[] #[] := by
        obtain ⟨u, us, e1, e2, e3⟩ := h2
        cases e1; exact e2
      subst e1 e2
      have hL := h.locs q
      have hq : ∃ t', ∃ e', ∃ l' : List t'.den, st.L q = .row t' e' l' := by
        unfold E0p at hl
        split at hl
        . exact ⟨_, _, _, by assumption⟩
        . cases hl
      obtain ⟨t', e', l0, hq⟩ := hq
      unfold E0p at hl
      rw [hq] at hl hL
      simp only at hl
      split at hl
      . rename_i ht
        subst ht
        cases hbe : Nat.beq e' e with
        | false => simp [hbe] at hl
        | true =>
          simp only [hbe, cond_true, Option.some.injEq] at hl
          obtain rfl := Nat.eq_of_beq_eq_true hbe
          subst hl
          obtain ⟨xs, hown, hea, hZ⟩ := hL
          have hrep : E6x P w Z (.row t' e') (B q) l0 := ⟨xs, hown, hea, fun b hb => (hZ b hb).2⟩
          have hret := hs w Z (B q) l0 h.zlt hrep hlen
          have hlv : live (st.L q) := by rw [hq]; trivial
          have hz : lz w st [q] B Z true = Z := by funext b; simp [lz]
          have := C7r (cx := ⟨P, tys⟩) (s := Y0 t' e' φ) (x := (l0, ())) (vs := [B q, .func (.func g') #[] #[]]) (mu := [q]) h (by rw [show (Y0 t' e' φ).shared = true from rfl, hz]; exact hret) rfl
            ⟨⟨rfl, fun b hb => by rw [hq]; exact hb⟩, trivial⟩ (by simp) (fun q2 hq2 => by simp at hq2; subst hq2; exact hlv)
          refine Gw.Ret.mono this fun v w' ⟨_, r, o, us, _, how, _, hmp, hv, Z', B', h3, h4, _⟩ => ?_
          obtain ⟨hp, hsrt⟩ := hmp rfl
          have hus : us = [] := h4
          subst hus
          exact ⟨_, Z', B', [], [], h3, hv, rfl, fun s hs => (by cases hs), hr3 o.1 how.1 hp hsrt⟩
      . cases hl
    . exact hr2.elim
  . exact hr.elim
def C1s (g : FuncId) (e : TypeId) (_ : Nat) (st : St) (ss : List SV) (k : St -> List SV -> Prop) : Prop :=
  match ss with
  | [⟨false, [.fn g' [kb]]⟩] => bif Nat.beq g' g then (match st.L kb with
    | .box _ [.mp j] => (match st.L j with
      | .map false (.int .i64) _ _ es => (es.length <= 100000 /\ List.Nodup (α := Int) (es.map (·.1))) /\ ∀ l : List Int, l.Perm (es.map (·.1)) -> l.Pairwise (· <= ·) -> k (st.newL (.row (.int .i64) e l)) [⟨false, [.row st.nx]⟩]
      | _ => False)
    | _ => False) else False
  | _ => False
theorem F2p (g : FuncId) (e : TypeId) {st : St} {d : Nat} {ss : List SV} {k k' : St -> List SV -> Prop} (h : C1s g e d st ss k) (hk : ∀ st' ss', Evo st st' -> k st' ss' -> k' st' ss') : C1s g e d st ss k' := by
  unfold C1s at h ⊢
  split at h
  . obtain ⟨hb, h⟩ := B4 h
    rw [hb, cond_true]
    split at h
    . split at h
      . exact ⟨h.1, fun l hp hs => hk _ _ (Evo.place [.own (.int .i64) e] (l, ()) st) (h.2 l hp hs)⟩
      . exact h.elim
    . exact h.elim
  . exact h.elim
def E3c (g : FuncId) (e : TypeId) : Inl := { run := C1s g e, step := F2p g e }
def E6m (e : TypeId) (ks : List Int) : B9 :=
  { args := [], res := [.own (.int .i64) e], shared := false, pre := fun _ => True, post := fun _ (r : List Int × Unit) => r.1.Perm ks /\ r.1.Pairwise (· <= ·) }
def G0b (P : Program) (f g : FuncId) (e : TypeId) : Prop :=
  ∀ (w : World) (Z : Nat -> Prop) (va : Bool) (vt : Ty) (bm b clock : Nat) (T : TypeId) (ents : Array MapEntry) (es : List (Int × vt.den)), Blk w bm #[.map (some b)] T -> w.heap[b]? = some (.map ents clock) -> MOk ents clock -> D5f w Z false (.int .i64) va vt ents.toList es -> es.length <= 100000 -> List.Nodup (α := Int) (es.map (·.1)) ->
    F9e P f (E6m e (es.map (·.1))) [.func (.func g) #[] #[.pointer (some ⟨bm, 0, none⟩)]] w (fun _ => False) ()
theorem E6w {P : Program} {tys : List (Nat × TI)} {f g : FuncId} {e : TypeId} (hs : G0b P f g e) : D7s P f (E3c g e) := by
  refine { go := ?_ }
  intro za w0 st E w Z B d ss vs k hb0 h hrs href hr
  replace hr : C1s g e d st ss k := hr
  unfold C1s at hr
  split at hr
  . rename_i g' kb
    obtain ⟨hg, hr2⟩ := B4 hr
    clear hr
    obtain rfl := Nat.eq_of_beq_eq_true hg
    split at hr2
    . rename_i T j hkb
      split at hr2
      . rename_i va vt es hj
        obtain ⟨hlen, hr3⟩ := hr2
        obtain ⟨v1, vs1, rfl, h1, rfl⟩ := hrs
        have e1 : v1 = .func (.func g') #[] #[B kb] := by
          obtain ⟨u, us, e1, e2, e3⟩ := h1
          cases e1; exact e2
        subst e1
        have h2 := h.locs kb
        have h3 := h.locs j
        rw [hkb] at h2
        rw [hj] at h3
        obtain ⟨bm, cs, hB, _, _, hblk, u, us, hcs, hu, hus⟩ := h2
        obtain ⟨b, ents, clock, hBj, _, _, hheap, hmok, hents⟩ := h3
        have hcs' : cs = #[.map (some b)] := by
          rw [show us = [] from hus, show u = B j from hu, hBj] at hcs
          cases cs; simpa using hcs
        subst hcs'
        have hret := hs w Z va vt bm b clock T ents es hblk hheap hmok hents hlen.1 hlen.2
        rw [hB]
        have := C7r (cx := ⟨P, tys⟩) (s := E6m e (es.map (·.1))) (x := ()) (vs := [.func (.func g') #[] #[.pointer (some ⟨bm, 0, none⟩)]]) (mu := []) h (hret.mono fun v w' ⟨hx, r, o, us, Zn, a1, a2, a3, a4, a5⟩ => ⟨hx, r, o, us, Zn, a1, a2, a3, fun b hb => (a4 b hb).imp id fun hh => hh.2.elim, a5⟩) rfl trivial (by simp) (fun q2 hq2 => by cases hq2)
        refine Gw.Ret.mono this fun v w' ⟨_, r, o, us, _, _, hpost, _, hv, Z', B', h4, h5, h6⟩ => ?_
        exact ⟨_, Z', B', _, us, h4, hv, h5, h6, hr3 r.1 hpost.1 hpost.2⟩
      . exact hr2.elim
    . exact hr2.elim
  . exact hr.elim
def D9x (P : Program) (as : List (Bool × Ty)) (ra : Bool) (r a : Ty) (φ : a.den -> A1h as -> r.den) : List SV -> Option SV
  | [⟨false, [.val a' n]⟩] => if h : a' = a then some ⟨false, [.fv P as ra r (fun _ => True) (φ (h ▸ n))]⟩ else none
  | _ => none
def F9p (P : Program) (as : List (Bool × Ty)) (ra : Bool) (r a : Ty) (φ : a.den -> A1h as -> r.den) : Inl :=
  { run := fun _ st ss k => match D9x P as ra r a φ ss with
      | some sv => k st [sv]
      | none => False
    res := D9x P as ra r a φ
    step := fun {st d ss k k'} h hk => by
      cases hr : D9x P as ra r a φ ss with
      | none => rw [hr] at h; exact h.elim
      | some sv => rw [hr] at h; exact hk _ _ (Evo.refl _) h }
def G4e (P : Program) (f : FuncId) (as : List (Bool × Ty)) (ra : Bool) (r a : Ty) (φ : a.den -> A1h as -> r.den) : Prop :=
  ∀ (w : World) (Z : Nat -> Prop) (v : Value) (n : a.den), Rep a w Z [v] n -> Gw.Ret P f [v] w fun u w' => Ext w w' /\ ∃ Zn : Nat -> Prop, (∀ b, Zn b -> Z b \/ (w.heap.size <= b /\ b < w'.heap.size)) /\ F7e P w' Zn u as ra r (fun _ => True) (φ n)
theorem F7e.mono {P : Program} {w : World} {Z Z' : Nat -> Prop} {v : Value} {as : List (Bool × Ty)} {ra : Bool} {r : Ty} {ok : A1h as -> Prop} {φ : A1h as -> r.den} (h : F7e P w Z v as ra r ok φ) (hz : ∀ b, Z b -> Z' b) : F7e P w Z' v as ra r ok φ :=
  RC.mono (B := fun _ => v) (B' := fun _ => v) (n := 0) (c := .fv P as ra r ok φ) hz (fun _ _ => rfl) (fun _ _ => rfl) trivial h
theorem F3g {P : Program} {f : FuncId} {as : List (Bool × Ty)} {ra : Bool} {r a : Ty} {φ : a.den -> A1h as -> r.den} (hs : G4e P f as ra r a φ) : D7s P f (F9p P as ra r a φ) := by
  have res : ∀ {za : Zn} {w0 : World} {st : St} {E : Env} {w : World} {Z : Nat -> Prop} {B : Nat -> Value} {ss : List SV} {vs : List Value} {sv : SV}, Rel za w0 st E w Z B -> RSs w Z B ss vs -> D9x P as ra r a φ ss = some sv ->
      Gw.Ret P f vs w fun v w' => Ext w w' /\ ∃ Z' : Nat -> Prop, (∀ b, Z b -> Z' b) /\ (∀ b, Z' b -> Z b \/ (w.heap.size <= b /\ b < w'.heap.size)) /\ RS w' Z' B sv v := by
    intro za w0 st E w Z B ss vs sv h hrs hsv
    unfold D9x at hsv
    split at hsv
    . rename_i a' n
      split at hsv
      . rename_i ha
        subst ha
        cases hsv
        obtain ⟨v1, vs1, rfl, h1, rfl⟩ := hrs
        obtain ⟨u, us, e1, e2, e3⟩ := h1
        cases e1
        refine Gw.Ret.mono (hs w Z v1 n e2) fun u w' ⟨hx, Zn, hz, hf⟩ => ⟨hx, fun b => Z b \/ Zn b, fun _ => .inl, fun b hb => hb.elim .inl (hz b), ?_⟩
        exact ⟨u, [], rfl, hf.mono fun _ => .inr, rfl⟩
      . cases hsv
    . cases hsv
  refine { go := ?_, res := res }
  intro za w0 st E w Z B d ss vs k hb0 h hrs href hr
  replace hr : (match D9x P as ra r a φ ss with | some sv => k st [sv] | none => False) := hr
  cases hv : D9x P as ra r a φ ss with
  | none => rw [hv] at hr; exact hr.elim
  | some sv =>
    rw [hv] at hr
    refine Gw.Ret.mono (res h hrs hv) fun v w' ⟨hx, Z', hz, hz', hrep⟩ => ⟨st, Z', B, [sv], [v], h.more hx hz hz', rfl, ⟨v, [], rfl, hrep, rfl⟩, fun s hs => ?_, hr⟩
    rw [List.mem_singleton] at hs
    subst hs
    unfold D9x at hv
    split at hv
    . split at hv
      . cases hv
        intro c hc
        rw [List.mem_singleton] at hc
        subst hc; trivial
      . cases hv
    . cases hv
end Go.Vc
namespace Go.Proofs.YtkdmjgcjpmcjjaaGreat
open Go.Vc Go.Gw
def fill {α : Type} (n i : Nat) (F : Nat -> α) (out : List α) : Prop := out.length = n /\ ∀ j, j < i -> out[j]? = some (F j)
theorem E5n {α : Type} {i : Int} (F : Nat -> α) (h0 : 0 <= i) : (List.range (i + 1).toNat).map F = (List.range i.toNat).map F ++ [F i.toNat] := by
  rw [show (i + 1).toNat = i.toNat + 1 from by omega, List.range_succ, List.map_append]; rfl
def E2z (n i : Nat) (P : Nat -> List Ent -> Prop) (out : List (List Ent)) : Prop := out.length = n /\ ∀ j, j < i -> P j (out.getD j [])
theorem F2r {n : Nat} {P : Nat -> List Ent -> Prop} {out : List (List Ent)} (h : out.length = n) : E2z n 0 P out := ⟨h, fun _ hj => by omega⟩
theorem C7w {n : Nat} {i : Int} {P : Nat -> List Ent -> Prop} {out : List (List Ent)} {x : List Ent} (h : E2z n i.toNat P out) (h0 : 0 <= i) (hi : i < (n : Int)) (hx : P i.toNat x) : E2z n (i + 1).toNat P (out.set i.toNat x) := by
  refine ⟨by rw [List.length_set]; exact h.1, fun j hj => ?_⟩
  rw [List.getD_eq_getElem?_getD, List.getElem?_set]
  by_cases he : i.toNat = j
  . rw [if_pos he, if_pos (by rw [h.1]; omega), <- he]; exact hx
  . rw [if_neg he, <- List.getD_eq_getElem?_getD]; exact h.2 j (by omega)
theorem B8e {k : Nat} {m : B4g} (hv : A6 m) (hs : okM k m) {v : List Ent} (h : v ∈ m.2.2) : okV k v := by
  refine ⟨(hv.2.2.2.2.2 v h).1, hs v h, ?_⟩
  have := D5w (hv.2.2.2.2.2 v h)
  have := hv.2.2.2.1; have := hv.2.2.1; omega
theorem E3s {n : Nat} {f : Nat -> Rat} {v : List Ent} {g : Int -> Rat} (h : isC g v) (h1 : ∀ i, ¬ (0 <= i /\ i < (n : Int)) -> g i = 0) (h2 : ∀ j : Nat, j < n -> g (j : Int) = f j) : isV n f v := by
  refine ⟨h.1, fun e he => ?_, fun j hj => by rw [h.2, h2 j hj]⟩
  refine Decidable.byContradiction fun hn => ?_
  have e1 := B2w h.1.1 he
  rw [h.2, h1 _ hn] at e1
  exact (h.1.2 e he).1 e1.symm
theorem B1r {v : List Ent} {n i : Int} (h : V5 v n) (hi : ¬ (0 <= i /\ i < n)) : F2 v i = 0 := H8 fun e he hei => hi (by rw [<- hei]; exact ⟨(h.2 e he).1, (h.2 e he).2.1⟩)
end Go.Proofs.YtkdmjgcjpmcjjaaGreat
namespace Go.Proofs.YtkdmjgcjpmcjjaaGreat
structure Leh (X Y w x y u0 u1 u2 v0 v1 v2 : Int) (ev : Bool) : Prop where
  yx : y <= x
  y0 : 0 <= y
  x0 : 0 < x
  u10 : 0 <= u1
  u20 : 0 <= u2
  v10 : 0 <= v1
  v20 : 1 <= v2
  uv2 : u2 <= v2
  ex : x = if ev then v1 * Y - u1 * X else u1 * X - v1 * Y
  ey : y = if ev then u2 * X - v2 * Y else v2 * Y - u2 * X
  idX : x * v2 + y * v1 = X
  idY : x * u2 + y * u1 = Y
  det : u1 * v2 - u2 * v1 = if ev then -1 else 1
  /-- At the start, or with what the cofactors before need. -/
  back : (u0 = 0 /\ u1 = 1 /\ v0 = 0 /\ v1 = 0 /\ ev = false /\ u2 = 0 /\ v2 = 1) \/ (0 <= u0 /\ 0 <= v0 /\ u1 <= v1 /\ v1 <= x /\ u0 <= w /\ v0 <= w /\ w - x >= v0 + v1 /\ (v0 = 0 \/ u0 <= v0) /\ 1 <= v1 /\
    w = (if ev then u0 * X - v0 * Y else v0 * Y - u0 * X) /\ (u0 * v1 - u1 * v0 = if ev then 1 else -1))
theorem Leh.start {X Y : Int} (hY : 0 <= Y) (h : Y <= X) (hX : 0 < X) : Leh X Y 0 X Y 0 1 0 0 0 1 false where
  yx := h
  y0 := hY
  x0 := hX
  u10 := by decide
  u20 := by decide
  v10 := by decide
  v20 := by decide
  uv2 := by decide
  ex := by simp
  ey := by simp
  idX := by omega
  idY := by omega
  det := by simp
  back := .inl ⟨rfl, rfl, rfl, rfl, rfl, rfl, rfl⟩
theorem Leh.step {X Y w x y u0 u1 u2 v0 v1 v2 : Int} {ev : Bool} (h : Leh X Y w x y u0 u1 u2 v0 v1 v2 ev) (c1 : v2 <= y) (c2 : v1 + v2 <= x - y) : Leh X Y x y (x % y) u1 u2 (u1 + x / y * u2) v1 v2 (v1 + x / y * v2) (!ev) := by
  have hv := h.v20
  have hy : 0 < y := by omega
  have hq1 : 1 <= x / y := by
    rw [Int.le_ediv_iff_mul_le hy]; have := h.yx; omega
  have hr0 := Int.emod_nonneg x (b := y) (by omega)
  have hr1 := Int.emod_lt_of_pos x hy
  have hdm : x = y * (x / y) + x % y := (Int.mul_ediv_add_emod x y).symm
  have he : x % y = x - x / y * y := by rw [Int.mul_comm (x / y)]; omega
  have hidX := h.idX
  have hidY := h.idY
  have hdet := h.det
  have hex := h.ex
  have hey := h.ey
  have hu20 := h.u20
  have hu10 := h.u10
  have hv10 := h.v10
  have huv2 := h.uv2
  generalize x / y = q at *
  have hqu : 0 <= q * u2 := Int.mul_nonneg (by omega) hu20
  have hqv : 1 * v2 <= q * v2 := Int.mul_le_mul_of_nonneg_right hq1 (by omega)
  have hquv : q * u2 <= q * v2 := Int.mul_le_mul_of_nonneg_left huv2 (by omega)
  refine ⟨Int.le_of_lt hr1, hr0, hy, hu20, Int.add_nonneg hu10 hqu, by omega, by omega, ?_, ?_, ?_, ?_, ?_, ?_, .inr ⟨hu10, hv10, huv2, c1, ?_, by omega, by omega, ?_, hv, ?_, ?_⟩⟩
  . rcases h.back with ⟨_, b1, _, b2, _, b3, b4⟩ | ⟨_, _, b1, _⟩
    . subst b3 b4; omega
    . omega
  . cases ev <;> simpa using hey
  . rw [he]
    cases ev
    . simp only [Bool.not_false, if_true, Bool.false_eq_true, if_false] at hex hey ⊢
      rw [hex, hey]
      grind
    . simp only [Bool.not_true, if_true, Bool.false_eq_true, if_false] at hex hey ⊢
      rw [hex, hey]
      grind
  . rw [he, <- hidX]
    grind
  . rw [he, <- hidY]
    grind
  . have e1 : u2 * (v1 + q * v2) - (u1 + q * u2) * v2 = -(u1 * v2 - u2 * v1) := by
      grind
    rw [e1, hdet]
    cases ev <;> simp
  . rcases h.back with ⟨_, b1, _, b2, _⟩ | ⟨_, _, b1, _⟩ <;> omega
  . rcases h.back with ⟨_, b1, _, b2, _⟩ | ⟨_, _, b1, _⟩
    . exact .inl b2
    . exact .inr b1
  . cases ev <;> simpa using hex
  . rw [hdet]; cases ev <;> simp
theorem Leh.apply {X Y w x y u0 u1 u2 v0 v1 v2 : Int} {ev : Bool} (h : Leh X Y w x y u0 u1 u2 v0 v1 v2 ev) (hv0 : v0 ≠ 0) {P α β A B : Int} (hP : 0 < P) (ha0 : 0 <= α) (ha1 : α < P) (hb0 : 0 <= β) (hb1 : β < P) (hA : A = X * P + α) (hB : B = Y * P + β) :
    ∃ A' B' : Int, A' = (if ev then u0 * A - v0 * B else v0 * B - u0 * A) /\ B' = (if ev then v1 * B - u1 * A else u1 * A - v1 * B) /\ 0 <= B' /\ B' <= A' /\ A = v1 * A' + v0 * B' /\ B = u1 * A' + u0 * B' /\ 1 <= v0 /\ 1 <= v1 /\ 0 <= u0 /\ 0 <= u1 := by
  rcases h.back with ⟨_, _, b2, _⟩ | ⟨a0, b0, uv1, vx, uw, vw, gap, ouv, v1p, ew, det⟩
  . exact absurd b2 hv0
  have huv0 : u0 <= v0 := ouv.resolve_left hv0
  have hu1 := h.u10
  refine ⟨_, _, rfl, rfl, ?_, ?_, ?_, ?_, by omega, v1p, a0, hu1⟩
  . -- the second combination is not negative
    have hex := h.ex
    have h1 : 0 <= (x - v1) * P := Int.mul_nonneg (by omega) (by omega)
    have h2 : 0 <= u1 * α := Int.mul_nonneg hu1 ha0
    have h3 : v1 * β <= v1 * P := Int.mul_le_mul_of_nonneg_left (by omega) (by omega)
    have h4 : 0 <= v1 * β := Int.mul_nonneg (by omega) hb0
    have h5 : u1 * α <= u1 * P := Int.mul_le_mul_of_nonneg_left (by omega) hu1
    have h6 : u1 * P <= v1 * P := Int.mul_le_mul_of_nonneg_right uv1 (by omega)
    rw [Int.sub_mul] at h1
    cases ev
    . simp only [Bool.false_eq_true, if_false] at hex ⊢
      have : u1 * A - v1 * B = x * P + u1 * α - v1 * β := by
        rw [hA, hB, hex]; grind
      omega
    . simp only [if_true] at hex ⊢
      have : v1 * B - u1 * A = x * P + v1 * β - u1 * α := by
        rw [hA, hB, hex]; grind
      omega
  . have hex := h.ex
    have h1 : 0 <= (w - x - (v0 + v1)) * P := Int.mul_nonneg (by omega) (by omega)
    have h2 : 0 <= (u0 + u1) * α := Int.mul_nonneg (by omega) ha0
    have h3 : (v0 + v1) * β <= (v0 + v1) * P := Int.mul_le_mul_of_nonneg_left (by omega) (by omega)
    have h4 : 0 <= (v0 + v1) * β := Int.mul_nonneg (by omega) hb0
    have h5 : (u0 + u1) * α <= (u0 + u1) * P := Int.mul_le_mul_of_nonneg_left (by omega) (by omega)
    have h6 : (u0 + u1) * P <= (v0 + v1) * P := Int.mul_le_mul_of_nonneg_right (by omega) (by omega)
    rw [Int.sub_mul] at h1
    cases ev
    . simp only [Bool.false_eq_true, if_false] at hex ew ⊢
      have : v0 * B - u0 * A - (u1 * A - v1 * B) = (w - x) * P + (v0 + v1) * β - (u0 + u1) * α := by
        rw [hA, hB, hex, ew]; grind
      omega
    . simp only [if_true] at hex ew ⊢
      have : u0 * A - v0 * B - (v1 * B - u1 * A) = (w - x) * P + (u0 + u1) * α - (v0 + v1) * β := by
        rw [hA, hB, hex, ew]; grind
      omega
  . cases ev
    . simp only [Bool.false_eq_true, if_false] at det ⊢
      have : v1 * (v0 * B - u0 * A) + v0 * (u1 * A - v1 * B) = -(u0 * v1 - u1 * v0) * A := by
        grind
      rw [this, det]; omega
    . simp only [if_true] at det ⊢
      have : v1 * (u0 * A - v0 * B) + v0 * (v1 * B - u1 * A) = (u0 * v1 - u1 * v0) * A := by
        grind
      rw [this, det]; omega
  . cases ev
    . simp only [Bool.false_eq_true, if_false] at det ⊢
      have : u1 * (v0 * B - u0 * A) + u0 * (u1 * A - v1 * B) = -(u0 * v1 - u1 * v0) * B := by
        grind
      rw [this, det]; omega
    . simp only [if_true] at det ⊢
      have : u1 * (u0 * A - v0 * B) + u0 * (v1 * B - u1 * A) = (u0 * v1 - u1 * v0) * B := by
        grind
      rw [this, det]; omega
theorem F4g {A B A' B' u0 u1 v0 v1 s t p q : Int} (h1 : A = v1 * A' + v0 * B') (h2 : B = u1 * A' + u0 * B') (h3 : A' = s * A + t * B) (h4 : B' = p * A + q * B) : Int.gcd A B = Int.gcd A' B' := by
  apply Nat.dvd_antisymm
  . apply Int.dvd_gcd
    . rw [h3]; exact Int.dvd_add (Int.dvd_mul_of_dvd_right (Int.gcd_dvd_left ..)) (Int.dvd_mul_of_dvd_right (Int.gcd_dvd_right ..))
    . rw [h4]; exact Int.dvd_add (Int.dvd_mul_of_dvd_right (Int.gcd_dvd_left ..)) (Int.dvd_mul_of_dvd_right (Int.gcd_dvd_right ..))
  . apply Int.dvd_gcd
    . rw [h1]; exact Int.dvd_add (Int.dvd_mul_of_dvd_right (Int.gcd_dvd_left ..)) (Int.dvd_mul_of_dvd_right (Int.gcd_dvd_right ..))
    . rw [h2]; exact Int.dvd_add (Int.dvd_mul_of_dvd_right (Int.gcd_dvd_left ..)) (Int.dvd_mul_of_dvd_right (Int.gcd_dvd_right ..))
end Go.Proofs.YtkdmjgcjpmcjjaaGreat
namespace Go.Proofs.YtkdmjgcjpmcjjaaGreat
open Go.Vc Go.Gw
theorem B8y {s : Nat} (hs : s <= 32) : 4294967296 = 2 ^ s * 2 ^ (32 - s) := by
  rw [<- Nat.pow_add, show s + (32 - s) = 32 from by omega]
theorem B2e (n : Nat) : 4294967296 ^ n = 2 ^ (32 * n) := by
  rw [show (4294967296 : Nat) = 2 ^ 32 from rfl, <- Nat.pow_mul]
theorem F9q {a low lo H P s : Nat} (hP : 0 < P) (ha : a = low + lo * P + H * (P * 4294967296)) (hlow : low < P) (hs : s <= 31) : a * 2 ^ s / (P * 4294967296) = H * 2 ^ s + lo / 2 ^ (32 - s) := by
  have hQ : 0 < P * 4294967296 := Nat.mul_pos hP (by decide)
  have h2 : 0 < 2 ^ s := Nat.pow_pos (by decide)
  have e : a * 2 ^ s = (low + lo * P) * 2 ^ s + H * 2 ^ s * (P * 4294967296) := by
    rw [ha, Nat.add_mul, Nat.mul_right_comm H]
  rw [e, Nat.add_mul_div_right _ _ hQ, Nat.add_comm]
  congr 1
  have e2 : P * 4294967296 = P * 2 ^ (32 - s) * 2 ^ s := by rw [Nat.mul_assoc, Nat.mul_comm (2 ^ (32 - s)), <- B8y (by omega)]
  rw [e2, Nat.mul_div_mul_right _ _ h2, <- Nat.div_div_eq_div_mul, Nat.add_mul_div_right _ _ hP, Nat.div_eq_of_lt hlow, Nat.zero_add]
theorem F2q {a s m : Nat} (h : s <= m) : a * 2 ^ s / 2 ^ m = a / 2 ^ (m - s) := by
  have h2 : 0 < 2 ^ s := Nat.pow_pos (by decide)
  conv => lhs; rw [show m = m - s + s from by omega, Nat.pow_add, Nat.mul_div_mul_right _ _ h2]
theorem E6h (l : List Int) (i : Nat) (h : i <= l.length) : nv l = nv (l.take i) + 4294967296 ^ i * nv (l.drop i) := by
  conv => lhs; rw [<- List.take_append_drop i l, B0u, List.length_take, Nat.min_eq_left h]
theorem R1 {l : List Int} (h : A9 l) (i : Nat) : nv (l.take i) < 4294967296 ^ i := by
  have h1 := A8p (l := l.take i) fun x hx => h x (List.mem_of_mem_take hx)
  refine Nat.lt_of_lt_of_le h1 (Nat.pow_le_pow_right (by decide) ?_)
  rw [List.length_take]; exact Nat.min_le_left ..
theorem B5x (l : List Int) {n : Nat} (h : l.length <= n + 1) : nv l = nv (l.take n) + 4294967296 ^ n * dg l n := by
  conv => lhs; rw [<- List.take_of_length_le h, J4]
theorem F1n (l : List Int) {n : Nat} (h : l.length <= n + 2) : nv l = nv (l.take n) + 4294967296 ^ n * (dg l (n + 1) * 4294967296 + dg l n) := by
  rw [B5x l (n := n + 1) h, J4, Nat.pow_succ, Nat.mul_add, Nat.mul_comm (dg l (n + 1)), <- Nat.mul_assoc]; omega
theorem F1b (l : List Int) {n : Nat} (h : l.length <= n + 3) : nv l = nv (l.take n) + 4294967296 ^ n * ((dg l (n + 2) * 4294967296 + dg l (n + 1)) * 4294967296 + dg l n) := by
  rw [F1n l (n := n + 1) h, J4, Nat.pow_succ]
  generalize 4294967296 ^ n = P
  grind
theorem F1z {a : List Int} (ha : A9 a) {n : Nat} (hn : a.length = n + 1) {s : Nat} (hs : s + X7 (dg a n) <= 32) : nv a * 2 ^ s < 4294967296 ^ (n + 1) := by
  have h1 := B5x a (n := n) (by omega)
  have h2 := R1 ha n
  have h3 := E4h (dg a n)
  have h4 : nv a < 4294967296 ^ n * 2 ^ X7 (dg a n) := by
    have : 4294967296 ^ n * (dg a n + 1) <= 4294967296 ^ n * 2 ^ X7 (dg a n) := Nat.mul_le_mul_left _ h3
    rw [Nat.mul_add, Nat.mul_one] at this
    omega
  have h5 : nv a * 2 ^ s < 4294967296 ^ n * 2 ^ X7 (dg a n) * 2 ^ s := Nat.mul_lt_mul_of_pos_right h4 (Nat.pow_pos (by decide))
  rw [Nat.mul_assoc, <- Nat.pow_add] at h5
  have h6 : 2 ^ (X7 (dg a n) + s) <= 2 ^ 32 := Nat.pow_le_pow_right (by decide) (by omega)
  have h7 := Nat.mul_le_mul_left (4294967296 ^ n) h6
  rw [Nat.pow_succ]
  exact Nat.lt_of_lt_of_le h5 h7
theorem D9b {n : Nat} (h : n ≠ 0) : B2n (nc n) := by
  have hlen : (nc n).length ≠ 0 := fun h0 => h (C4s.1 (List.eq_nil_of_length_eq_zero h0))
  unfold B2n
  intro h0
  have hb := N0 n
  have e := B5x (nc n) (n := (nc n).length - 1) (by omega)
  have hd : dg (nc n) ((nc n).length - 1) = 0 := by unfold dg; rw [h0]; rfl
  rw [hd, Nat.mul_zero, Nat.add_zero, H2] at e
  have hlt := R1 hb ((nc n).length - 1)
  rw [<- e] at hlt
  have := A5i hlt
  omega
theorem D0t {l : List Int} (hl : A9 l) (h : B2n l) : dg l (l.length - 1) ≠ 0 := by
  unfold B2n at h
  have := X1 hl (i := l.length - 1)
  rw [this] at h
  omega
theorem D4r {l : List Int} (hl : A9 l) (h : B2n l) : nv l ≠ 0 := by
  have h1 := D0t hl h
  have h0 : l.length ≠ 0 := fun e => by
    rw [List.eq_nil_of_length_eq_zero e] at h1; simp [dg] at h1
  have e := B5x l (n := l.length - 1) (by omega)
  have h2 : 0 < 4294967296 ^ (l.length - 1) := Nat.pow_pos (by decide)
  have h3 := Nat.mul_le_mul_left (4294967296 ^ (l.length - 1)) (Nat.pos_of_ne_zero h1)
  omega
theorem F4p {V low P x : Nat} (h : V = low + P * x) (hl : low < P) : x * P <= V /\ V < (x + 1) * P := by
  rw [Nat.add_mul, Nat.one_mul, Nat.mul_comm x, h]
  omega
theorem G0d {w v : List Int} (hw : A9 w) (hv : A9 v) {n : Nat} (hn : v.length = n + 2) (hwl : w.length = n + 3) (hv1 : dg v (n + 1) ≠ 0) (hlt : nv w < nv v * 4294967296) : Dig (nv w) (nv v) (dg v (n + 1)) (dg v n) (dg w (n + 2) * 4294967296 + dg w (n + 1)) (dg w n) (4294967296 ^ n) := by
  have ev := F1n v (n := n) (by omega)
  have ew := F1b w (n := n) (by omega)
  have lv := R1 hv n
  have lw := R1 hw n
  have b1 := R9 hv (n + 1)
  have b2 := R9 hv n
  have b3 := R9 hw n
  exact ⟨Nat.pow_pos (by decide), Nat.pos_of_ne_zero hv1, by omega, by omega, by omega, (F4p ev lv).1, (F4p ev lv).2, (F4p ew lw).1, (F4p ew lw).2, hlt⟩
theorem F6l {l : List Int} (h : A9 l) (i : Nat) : dg l i = nv l / 4294967296 ^ i % 4294967296 := by
  have hp : 0 < 4294967296 ^ i := Nat.pow_pos (by decide)
  by_cases hi : i < l.length
  . have e := E6h l (i + 1) (by omega)
    rw [J4] at e
    have h1 := R1 h i
    have h2 := R9 h i
    have e2 : nv l = nv (l.take i) + (dg l i + 4294967296 * nv (l.drop (i + 1))) * 4294967296 ^ i := by
      rw [e, Nat.pow_succ]
      generalize 4294967296 ^ i = P
      grind
    rw [e2, Nat.add_mul_div_right _ _ hp, Nat.div_eq_of_lt h1, Nat.zero_add, Nat.add_mul_mod_self_left, Nat.mod_eq_of_lt (by omega)]
  . rw [B4o (by omega)]
    have h1 := A8p h
    have h2 : 4294967296 ^ l.length <= 4294967296 ^ i := Nat.pow_le_pow_right (by decide) (by omega)
    rw [Nat.div_eq_of_lt (by omega)]
theorem F7j {l : List Int} (h : A9 l) (i : Nat) : dg l (i / 32) / 2 ^ (i % 32) % 2 = nv l / 2 ^ i % 2 := by
  rw [F6l h, B2e]
  have e : i = 32 * (i / 32) + i % 32 := by omega
  have h2 : (4294967296 : Nat) = 2 ^ (i % 32) * 2 ^ (32 - i % 32) := B8y (by omega)
  conv => rhs; rw [e, Nat.pow_add, <- Nat.div_div_eq_div_mul]
  generalize nv l / 2 ^ (32 * (i / 32)) = x
  rw [h2, Nat.mod_mul_right_div_self]
  have h3 : 2 ^ (32 - i % 32) = 2 * 2 ^ (31 - i % 32) := by rw [<- Nat.pow_succ']; congr 1; omega
  rw [h3, Nat.mod_mul_right_mod]
theorem F3v {a b i : Nat} (hb : b ≠ 0) : a / 2 ^ i = 2 * (a / 2 ^ (i + 1)) + a / 2 ^ i % 2 /\
    a / 2 ^ i / b = 2 * (a / 2 ^ (i + 1) / b) + (if b <= 2 * (a / 2 ^ (i + 1) % b) + a / 2 ^ i % 2 then 1 else 0) /\
    a / 2 ^ i % b = 2 * (a / 2 ^ (i + 1) % b) + a / 2 ^ i % 2 - (if b <= 2 * (a / 2 ^ (i + 1) % b) + a / 2 ^ i % 2 then b else 0) := by
  have e1 : a / 2 ^ (i + 1) = a / 2 ^ i / 2 := by rw [Nat.pow_succ, Nat.div_div_eq_div_mul]
  have e0 : a / 2 ^ i = 2 * (a / 2 ^ (i + 1)) + a / 2 ^ i % 2 := by rw [e1]; omega
  refine ⟨e0, ?_⟩
  have hbit : a / 2 ^ i % 2 < 2 := Nat.mod_lt _ (by decide)
  generalize a / 2 ^ i % 2 = d at *
  generalize a / 2 ^ (i + 1) = h at *
  rw [e0]
  have hd := Nat.div_add_mod h b
  have hm := Nat.mod_lt h (Nat.pos_of_ne_zero hb)
  generalize h % b = r at *
  generalize h / b = q at *
  have e2 : 2 * h + d = b * (2 * q) + (2 * r + d) := by rw [<- hd]; grind
  rw [e2, Nat.mul_add_div (Nat.pos_of_ne_zero hb), Nat.mul_add_mod]
  by_cases hc : b <= 2 * r + d
  . rw [if_pos hc, if_pos hc]
    have e3 : 2 * r + d = b + (2 * r + d - b) := by omega
    have h1 : (2 * r + d) / b = 1 := Nat.div_eq_of_lt_le (by omega) (by omega)
    refine ⟨by rw [h1], ?_⟩
    have := Nat.div_add_mod (2 * r + d) b
    rw [h1] at this; omega
  . rw [if_neg hc, if_neg hc, Nat.div_eq_of_lt (by omega), Nat.mod_eq_of_lt (by omega)]
    exact ⟨rfl, by omega⟩
theorem F7n {q : List Int} (hq : A9 q) {M i : Nat} (he : nv q = M * 2 ^ (i + 1)) (hi : i / 32 < q.length) : ∃ b : Nat, dg q (i / 32) = b * 2 ^ (i % 32 + 1) /\ nv (q.set (i / 32) ((dg q (i / 32) + 2 ^ (i % 32) : Nat) : Int)) = (2 * M + 1) * 2 ^ i := by
  have e : i = 32 * (i / 32) + i % 32 := by omega
  have hb : dg q (i / 32) = (M * 2 ^ (i % 32 + 1)) % 4294967296 := by
    rw [F6l hq, he, B2e]
    congr 1
    have e5 : i + 1 = 32 * (i / 32) + (i % 32 + 1) := by omega
    rw [e5, Nat.pow_add, Nat.mul_left_comm, Nat.mul_div_cancel_left _ (Nat.pow_pos (by decide))]
  refine ⟨M % 2 ^ (31 - i % 32), ?_, ?_⟩
  . rw [hb]
    have h2 : (4294967296 : Nat) = 2 ^ (31 - i % 32) * 2 ^ (i % 32 + 1) := by
      rw [<- Nat.pow_add, show 31 - i % 32 + (i % 32 + 1) = 32 from by omega]
    conv => lhs; rw [h2]
    rw [Nat.mul_mod_mul_right]
  . have h1 := A9i (l := q) (k := i / 32) (v := ((dg q (i / 32) + 2 ^ (i % 32) : Nat) : Int)) hi
    rw [Int.toNat_natCast, he, B2e, Nat.mul_add] at h1
    have h2 : 2 ^ (32 * (i / 32)) * 2 ^ (i % 32) = 2 ^ i := by rw [<- Nat.pow_add, <- e]
    rw [h2] at h1
    have h3 : (2 * M + 1) * 2 ^ i = M * 2 ^ (i + 1) + 2 ^ i := by rw [Nat.pow_succ]; grind
    rw [h3]; omega
theorem D3q {l : List Int} (h : A9 l) (i : Nat) : dg l i = nv l / 4294967296 ^ i % 4294967296 := by
  have hP : 0 < 4294967296 ^ i := Nat.pow_pos (by decide)
  have hd := R9 h i
  have ht := R1 h i
  rcases Nat.lt_or_ge i l.length with h1 | h1
  . have e1 := E6h l (i + 1) h1
    rw [J4, Nat.pow_succ] at e1
    have e2 : nv l = nv (l.take i) + (dg l i + nv (l.drop (i + 1)) * 4294967296) * 4294967296 ^ i := by rw [e1]; grind
    rw [e2, Nat.add_mul_div_right _ _ hP, Nat.div_eq_of_lt ht, Nat.zero_add, Nat.add_mul_mod_self_right, Nat.mod_eq_of_lt (by omega)]
  . rw [B4o h1]
    have hl := A8p h
    have hle : 4294967296 ^ l.length <= 4294967296 ^ i := Nat.pow_le_pow_right (by decide) h1
    rw [Nat.div_eq_of_lt (by omega)]
theorem E9a {l : List Int} (h : A9 l) (i : Nat) {s : Nat} (hs : s <= 31) : nv l / 2 ^ s / 4294967296 ^ i % 4294967296 = (dg l i + dg l (i + 1) * 4294967296) / 2 ^ s % 4294967296 := by
  have h2 : 0 < 2 ^ s := Nat.pow_pos (by decide)
  have e0 : nv l / 2 ^ s / 4294967296 ^ i = nv l / 4294967296 ^ i / 2 ^ s := by rw [Nat.div_div_eq_div_mul, Nat.div_div_eq_div_mul, Nat.mul_comm]
  have e1 : dg l i + dg l (i + 1) * 4294967296 = nv l / 4294967296 ^ i % (4294967296 * 4294967296) := by
    rw [Nat.mod_mul, <- D3q h i, Nat.div_div_eq_div_mul, <- Nat.pow_succ, <- D3q h (i + 1), Nat.mul_comm]
  rw [e0, e1]
  generalize nv l / 4294967296 ^ i = W
  have e2 : W = W % (4294967296 * 4294967296) + 2 ^ s * (4294967296 * (2 ^ (32 - s) * (W / (4294967296 * 4294967296)))) := by
    have a := Nat.mod_add_div W (4294967296 * 4294967296)
    have b := B8y (s := s) (by omega)
    conv => lhs; rw [<- a]
    congr 1
    calc 4294967296 * 4294967296 * (W / (4294967296 * 4294967296)) = 4294967296 * (4294967296 * (W / (4294967296 * 4294967296))) := Nat.mul_assoc ..
      _ = (2 ^ s * 2 ^ (32 - s)) * (4294967296 * (W / (4294967296 * 4294967296))) := by rw [<- b]
      _ = _ := by rw [Nat.mul_assoc, Nat.mul_left_comm (2 ^ (32 - s))]
  conv => lhs; rw [e2, Nat.add_mul_div_left _ _ h2, Nat.add_mul_mod_self_left]
theorem D9n {l : List Int} (h : A9 l) {k s : Nat} : nv l / 2 ^ (32 * k + s) = nv (l.drop k) / 2 ^ s := by
  rw [Nat.pow_add, <- B2e, <- Nat.div_div_eq_div_mul]
  congr 1
  have hP : 0 < 4294967296 ^ k := Nat.pow_pos (by decide)
  rcases Nat.lt_or_ge l.length k with h1 | h1
  . rw [List.drop_of_length_le (by omega)]
    have hl := A8p h
    have hle : 4294967296 ^ l.length <= 4294967296 ^ k := Nat.pow_le_pow_right (by decide) (by omega)
    rw [Nat.div_eq_of_lt (by omega)]; rfl
  . have e := E6h l k h1
    have ht := R1 h k
    rw [e, Nat.add_mul_div_left _ _ hP, Nat.div_eq_of_lt ht, Nat.zero_add]
theorem E7i {n k : Nat} (h : n < 2 ^ k) : X7 n <= k := by
  rcases Nat.eq_zero_or_pos n with h0 | h0
  . rw [h0, C0c]; omega
  . have h1 := (C3q (n := n) (by omega)).1
    rcases Nat.lt_or_ge k (X7 n) with h2 | h2
    . have : 2 ^ k <= 2 ^ (X7 n - 1) := Nat.pow_le_pow_right (by decide) (by omega)
      omega
    . exact h2
theorem F0d {n : Nat} (h : n ≠ 0) : X7 n = X7 (n / 2) + 1 := by
  rcases Nat.lt_or_ge n 2 with h1 | h1
  . have : n = 1 := by omega
    subst this; decide +kernel
  . have := C7j (n := n) (k := 1) h1
    rwa [Nat.pow_one] at this
theorem E9f {l : List Int} (h : A9 l) : X7 (nv l) <= 32 * l.length := by
  refine E7i ?_
  rw [<- B2e]; exact A8p h
theorem F5d {n : Nat} (h : n ≠ 0) : X7 n = X7 (dg (nc n) ((nc n).length - 1)) + 32 * ((nc n).length - 1) := by
  have hlen : (nc n).length ≠ 0 := fun h0 => h (C4s.1 (List.eq_nil_of_length_eq_zero h0))
  have h1 : 4294967296 ^ ((nc n).length - 1) <= n := F9i (by omega)
  have h2 := A7e n
  have hP : 0 < 4294967296 ^ ((nc n).length - 1) := Nat.pow_pos (by decide)
  rw [D3q (N0 n), H2, B2e, Nat.mod_eq_of_lt]
  . exact C7j (by rw [<- B2e]; exact h1)
  . rw [<- B2e, Nat.div_lt_iff_lt_mul hP, Nat.mul_comm, <- Nat.pow_succ, show ((nc n).length - 1).succ = (nc n).length from by omega]; exact h2
theorem F0s {z : Int} (h0 : 0 <= z) (h1 : z < 4294967296) : (BitVec.ofInt 32 z &&& BitVec.ofInt 32 1).toNat = z.toNat % 2 := by
  rw [BitVec.toNat_and, BitVec.toNat_ofInt, BitVec.toNat_ofInt, show ((1 : Int) % ((2 ^ 32 : Nat) : Int)).toNat = 1 from by decide, Nat.and_one_is_mod]
  rw [show z % ((2 ^ 32 : Nat) : Int) = z from by omega]
theorem F3z {d b s : Nat} (hd : d = b * 2 ^ (s + 1)) (h1 : d < 4294967296) (hs : s <= 31) : (BitVec.ofInt 32 (d : Int) ||| BitVec.ofInt 32 ((2 ^ s : Nat) : Int)).toNat = d + 2 ^ s /\ d + 2 ^ s < 4294967296 := by
  have hs2 : 2 ^ s <= 2 ^ 31 := Nat.pow_le_pow_right (by decide) hs
  have e : (BitVec.ofInt 32 (d : Int) ||| BitVec.ofInt 32 ((2 ^ s : Nat) : Int)).toNat = d + 2 ^ s := by
    rw [BitVec.toNat_or, BitVec.toNat_ofInt, BitVec.toNat_ofInt]
    rw [show ((d : Int) % ((2 ^ 32 : Nat) : Int)).toNat = d from by omega]
    generalize hz : 2 ^ s = z at *
    rw [show ((z : Int) % ((2 ^ 32 : Nat) : Int)).toNat = z from by omega, hd, <- Nat.shiftLeft_eq]
    exact (Nat.shiftLeft_add_eq_or_of_lt (by rw [<- hz]; exact Nat.pow_lt_pow_right (by decide) (by omega)) b).symm
  exact ⟨e, by have := (BitVec.ofInt 32 (d : Int) ||| BitVec.ofInt 32 ((2 ^ s : Nat) : Int)).isLt; omega⟩
theorem E2j (l : List Int) (j i : Nat) : dg (l.drop j) i = dg l (j + i) := by
  unfold dg; simp [List.getD, List.getElem?_drop]
theorem C3g {l : List Int} {k i : Nat} (h : i < k) : dg (l.take k) i = dg l i := by
  unfold dg; simp [List.getD, List.getElem?_take, h]
theorem A4v {l : List Int} (h : A9 l) (k : Nat) : nv (l.take k) = nv l % 4294967296 ^ k := by
  rcases Nat.lt_or_ge k l.length with h1 | h1
  . have e := E6h l k (by omega)
    rw [e, Nat.add_mul_mod_self_left, Nat.mod_eq_of_lt (R1 h k)]
  . rw [List.take_of_length_le h1, Nat.mod_eq_of_lt]
    exact Nat.lt_of_lt_of_le (A8p h) (Nat.pow_le_pow_right (by decide) h1)
theorem E3n {l : List Int} (h : A9 l) (j : Nat) : nv (l.drop j) = nv l / 4294967296 ^ j := by
  have := D9n h (k := j) (s := 0)
  rw [Nat.add_zero, Nat.pow_zero, Nat.div_one, <- B2e] at this
  exact this.symm
theorem G3g {u v : List Int} (hu : A9 u) (hv : A9 v) {j n : Nat} (hvl : n + 2 <= v.length) (hV : nv v < 4294967296 ^ (n + 2)) (hv1 : dg v (n + 1) ≠ 0) (hul : j + n + 3 <= u.length) (hlt : nv u < nv v * 4294967296 ^ (j + 1)) : Dig (nv u / 4294967296 ^ j) (nv v) (dg v (n + 1)) (dg v n) (dg u (j + n + 2) * 4294967296 + dg u (j + n + 1)) (dg u (j + n)) (4294967296 ^ n) := by
  have hP : 0 < 4294967296 ^ j := Nat.pow_pos (by decide)
  have hW : nv u / 4294967296 ^ j < nv v * 4294967296 := by
    rw [Nat.div_lt_iff_lt_mul hP, Nat.mul_assoc, Nat.mul_comm 4294967296, <- Nat.pow_succ]; exact hlt
  have hW2 : nv u / 4294967296 ^ j < 4294967296 ^ (n + 3) := by
    rw [Nat.pow_succ _ (n + 2)]
    exact Nat.lt_of_lt_of_le hW (Nat.mul_le_mul_right _ (Nat.le_of_lt hV))
  have hv' : A9 (v.take (n + 2)) := fun x hx => hv x (List.mem_of_mem_take hx)
  have hd' : A9 (u.drop j) := fun x hx => hu x (List.mem_of_mem_drop hx)
  have hw' : A9 ((u.drop j).take (n + 3)) := fun x hx => hd' x (List.mem_of_mem_take hx)
  have ev : nv (v.take (n + 2)) = nv v := by rw [A4v hv, Nat.mod_eq_of_lt hV]
  have ew : nv ((u.drop j).take (n + 3)) = nv u / 4294967296 ^ j := by rw [A4v hd', E3n hu, Nat.mod_eq_of_lt hW2]
  have h := G0d (w := (u.drop j).take (n + 3)) (v := v.take (n + 2)) hw' hv' (n := n) (by rw [List.length_take]; omega) (by rw [List.length_take, List.length_drop]; omega) (by rw [C3g (by omega)]; exact hv1) (by rw [ev, ew]; exact hW)
  rw [ev, ew, C3g (by omega), C3g (by omega), C3g (by omega), C3g (by omega), C3g (by omega), E2j, E2j, E2j] at h
  exact h
theorem F0f {o o' U Pk P c c' D x s t v : Nat} (h : o + P * (D * x) = U + Pk * c) (hs : o' + Pk * t = o + Pk * s) (he : t + 4294967296 * c' = s + (D * v + c)) {Pi : Nat} (hPk : Pk = P * Pi) : o' + P * (D * (x + Pi * v)) = U + Pk * 4294967296 * c' := by
  subst hPk
  have h1 := congrArg ((P * Pi) * ·) he
  simp only [Nat.mul_add] at h1 ⊢
  have e1 : P * (D * (Pi * v)) = P * Pi * (D * v) := by grind
  have e2 : P * Pi * (4294967296 * c') = P * Pi * 4294967296 * c' := by grind
  omega
theorem F2t {o o' U Pk P c c' x s t v : Nat} (h : o + Pk * c = U + P * x) (hs : o' + Pk * t = o + Pk * s) (he : s + 4294967296 * c' = c + (t + v)) {Pi : Nat} (hPk : Pk = P * Pi) : o' + Pk * 4294967296 * c' = U + P * (x + Pi * v) := by
  subst hPk
  have h1 := congrArg ((P * Pi) * ·) he
  simp only [Nat.mul_add] at h1 ⊢
  have e1 : P * (Pi * v) = P * Pi * v := by grind
  have e2 : P * Pi * (4294967296 * c') = P * Pi * 4294967296 * c' := by grind
  omega
theorem F4m {D v c t : Nat} (hD : D < 4294967296) (hv : v < 4294967296) (hc : c <= D) : D * v + c <= 18446744069414584320 /\ (D * v + c) / 4294967296 + (if t < (D * v + c) % 4294967296 then 1 else 0) <= D := by
  have h1 : D * v <= D * 4294967295 := Nat.mul_le_mul_left _ (by omega)
  generalize D * v = p at *
  split <;> omega
end Go.Proofs.YtkdmjgcjpmcjjaaGreat
namespace Go.Proofs.YtkdmjgcjpmcjjaaGreat
theorem F3y {B U P V e M w1 y z g t r o : Nat} (hP : 0 < P) (hV : 0 < V) (hW1 : w1 + P * ((e + 1) * V) = U + M * B) (hlt : w1 < M * B) (hd : e + 1 <= U / P / V + 1) (hy : y + M * g = w1 + P * V) (hz : z + M * t = y + M * r) (ho : t + g = r + B * o) (ho1 : o <= 1) (hzlt : z < M * B) : U / P / V = e /\ z + P * (e * V) = U := by
  have h1 : U / P / V < e + 1 := by
    rw [Nat.div_lt_iff_lt_mul hV, Nat.div_lt_iff_lt_mul hP, Nat.mul_comm]; omega
  have he : U / P / V = e := by omega
  have hU : P * (e * V) <= U := by
    rw [<- he, Nat.mul_comm]
    exact Nat.le_trans (Nat.mul_le_mul_right _ (Nat.div_mul_le_self _ _)) (Nat.div_mul_le_self _ _)
  have hfe : P * ((e + 1) * V) = P * (e * V) + P * V := by rw [Nat.add_mul, Nat.one_mul, Nat.mul_add]
  rw [hfe] at hW1
  have ho2 : M * t + M * g = M * r + M * B * o := by rw [<- Nat.mul_add, ho, Nat.mul_add, Nat.mul_assoc]
  have ho3 : o = 1 := by
    rcases Nat.lt_or_ge o 1 with h | h
    . have h0 : o = 0 := by omega
      subst h0
      simp only [Nat.mul_zero, Nat.add_zero] at ho2
      omega
    . omega
  subst ho3
  rw [Nat.mul_one] at ho2
  exact ⟨he, by omega⟩
theorem G3x (m : Nat) : 4294967296 ^ (m + 2) * 4294967296 = 4294967296 ^ (m + 3) := (Nat.pow_succ (n := 4294967296) (m := m + 2)).symm
end Go.Proofs.YtkdmjgcjpmcjjaaGreat
namespace Go.Vc
open Go Go.RowKit Go.Gw Go.ChangeShapes Go.WideShapes Go.ChangeAt
def bul : (t : Ty) -> t.den -> Nat
  | .sl t, l => (List.map (bul t) l).sum + 1
  | .pair a b, x => bul a x.1 + bul b x.2
  | .unit, _ => 0
  | _, _ => 1
def F4d : (as : List AM) -> A7 as -> Nat
  | .val _ ty :: as, x => bul ty x.1 + F4d as x.2
  | _, _ => 0
structure F6r {H : Type} (μ : DataW H -> Nat) (μA : List (DataW H) -> Nat) : Prop where
  pos : ∀ d, 1 <= μ d
  nil : μA [] = 0
  cons : ∀ d r, μA (d :: r) = μ d + μA r
  sl : ∀ e s, μA e + 1 <= μ (.slice e s)
  agg : ∀ l, μA l <= μ (.agg l)
section
variable {H : Type} {α : Type} {enc : TypeId × Value -> H} {P : Program} {W : World} {μ : DataW H -> Nat} {μA : List (DataW H) -> Nat}
theorem F6r.app (hb : F6r μ μA) : ∀ l r, μA (l ++ r) = μA l + μA r
  | [], r => by rw [List.nil_append, hb.nil, Nat.zero_add]
  | d :: l, r => by rw [List.cons_append, hb.cons, hb.cons, hb.app l r, Nat.add_assoc]
theorem C9o {R : List Value -> α -> Prop} {g : α -> Nat} {S : Nat -> Nat} {b o sz : Nat} : ∀ (len : Nat), (∀ i, i < len -> ∃ ec y, ec.length = sz /\ M6 W ⟨b, o + i * sz, none⟩ ec /\ R ec y /\ S i + g y <= S (i + 1)) -> ∃ ec l, l.length = len /\ ec.length = len * sz /\ M6 W ⟨b, o, none⟩ ec /\ Q3 R ec l /\ (l.map g).sum <= S len
  | 0, _ => ⟨[], [], rfl, by simp, fun j v hj => by simp at hj, rfl, Nat.zero_le _⟩
  | len + 1, h => by
    obtain ⟨ec, l, h1, h2, h3, h4, h5⟩ := C9o (R := R) (g := g) (S := S) (b := b) (o := o) (sz := sz) len (fun i hi => h i (by omega))
    obtain ⟨ec', y, g1, g2, g3, g4⟩ := h len (by omega)
    refine ⟨ec ++ ec', l ++ [y], by simp [h1], by rw [List.length_append, h2, g1, Nat.succ_mul], fun j v hj => ?_, h4.append ⟨ec', [], by simp, g3, rfl⟩, by rw [List.map_append, List.sum_append]; simp only [List.map_cons, List.map_nil, List.sum_cons, List.sum_nil]; omega⟩
    rw [List.getElem?_append] at hj
    split at hj
    . exact h3 j v hj
    . rename_i hlt
      have := g2 _ v hj
      rw [N2] at this ⊢
      rw [h2] at this hlt
      rw [show o + len * sz + (j - len * sz) = o + j from by omega] at this
      exact this
theorem E5m {n : Nat} {r : TypeId -> Ty -> Bool} {Z : Nat -> Prop} {cs : List Value} (hb : F6r μ μA) (hr : ∀ {T : TypeId} {ty : Ty} {cs : List Value} {x : DataW H × List MemPlace}, r T ty = true -> DataW.trod enc P W 0 (fun _ => true) true n T cs = some x -> ∃ y, Rep ty W Z cs y /\ bul ty y <= μ x.1) :
    ∀ {fs : List Field} {xs : List (DataW H × List MemPlace)} {off : Nat} {ty : Ty}, F4w P r fs off ty = true -> fs.length = xs.length -> (∀ (i : Nat) (f : Field), fs[i]? = some f -> DataW.trod enc P W 0 (fun _ => true) true n f.type ((cs.drop f.offset).take (P.cellsOf f.type)) = xs[i]?) -> cs.length = off + ty.size -> ∃ y, Rep ty W Z (cs.drop off) y /\ bul ty y <= μA (xs.map (·.1))
  | [], xs, off, ty, h, hlx, hx, hl => by
    cases ty <;> simp [F4w] at h
    exact ⟨(), by rw [List.drop_of_length_le (by simp [Ty.size] at hl; omega)]; exact ⟨rfl, Nat.zero_le _⟩⟩
  | [f], xs, off, ty, h, hlx, hx, hl => by
    have h' : (Nat.beq f.offset off && r f.type ty && Nat.beq (P.cellsOf f.type) ty.size) = true := by cases ty <;> exact h
    simp only [Bool.and_eq_true] at h'
    match xs, hlx with
    | [x], _ =>
      have hx : _ = some x := hx 0 f rfl
      obtain ⟨y, hy, hm⟩ := hr h'.1.2 hx
      rw [Nat.eq_of_beq_eq_true h'.1.1, Nat.eq_of_beq_eq_true h'.2, List.take_of_length_le (by rw [List.length_drop]; omega)] at hy
      refine ⟨y, hy, ?_⟩
      simp only [List.map_cons, hb.cons]
      omega
  | f :: g :: fs, [], off, ty, h, hlx, hx, hl => by simp at hlx
  | f :: g :: fs, x :: xs, off, ty, h, hlx, hx, hl => by
    cases ty <;> simp only [F4w] at h <;> try cases h
    rename_i a b
    simp only [Bool.and_eq_true] at h
    obtain ⟨⟨⟨h1, h2⟩, h3⟩, h4⟩ := h
    have hx1 : _ = some x := hx 0 f rfl
    obtain ⟨y, hy, hm⟩ := hr h2 hx1
    rw [Nat.eq_of_beq_eq_true h1, Nat.eq_of_beq_eq_true h3] at hy
    obtain ⟨z, hz, hn⟩ := E5m (xs := xs) hb hr h4 (by simpa using hlx) (fun i q hq => by have := hx (i + 1) q (by simpa using hq); simpa using this) (by rw [hl]; simp only [Ty.size]; omega)
    refine ⟨(y, z), ⟨(cs.drop off).take a.size, cs.drop (off + a.size), by rw [<- List.drop_drop, List.take_append_drop], hy, hz⟩, ?_⟩
    simp only [List.map_cons, hb.cons, bul]
    omega
theorem E5p {n : Nat} {r : TypeId -> Ty -> Bool} {Z : Nat -> Prop} {cs : List Value} {e : TypeId} {sz : Nat} (hb : F6r μ μA) (hr : ∀ {T : TypeId} {ty : Ty} {cs : List Value} {x : DataW H × List MemPlace}, r T ty = true -> DataW.trod enc P W 0 (fun _ => true) true n T cs = some x -> ∃ y, Rep ty W Z cs y /\ bul ty y <= μ x.1) :
    ∀ {xs : List (DataW H × List MemPlace)} {i : Nat} {ty : Ty}, F3r (r e) sz xs.length ty = true -> (∀ j, j < xs.length -> DataW.trod enc P W 0 (fun _ => true) true n e ((cs.drop ((i + j) * sz)).take sz) = xs[j]?) -> cs.length = i * sz + ty.size -> ∃ y, Rep ty W Z (cs.drop (i * sz)) y /\ bul ty y <= μA (xs.map (·.1))
  | [], i, ty, h, hx, hl => by
    cases ty <;> simp [F3r] at h
    exact ⟨(), by rw [List.drop_of_length_le (by simp [Ty.size] at hl; omega)]; exact ⟨rfl, Nat.zero_le _⟩⟩
  | [x], i, ty, h, hx, hl => by
    have h' : (r e ty && Nat.beq ty.size sz) = true := by cases ty <;> exact h
    simp only [Bool.and_eq_true] at h'
    have hx : _ = some x := hx 0 (by simp)
    rw [Nat.add_zero] at hx
    obtain ⟨y, hy, hm⟩ := hr h'.1 hx
    have := Nat.eq_of_beq_eq_true h'.2
    rw [List.take_of_length_le (by rw [List.length_drop]; omega)] at hy
    refine ⟨y, hy, ?_⟩
    simp only [List.map_cons, hb.cons]
    omega
  | x :: x2 :: xs, i, ty, h, hx, hl => by
    cases ty <;> simp only [List.length_cons, F3r] at h <;> try cases h
    rename_i a b
    simp only [Bool.and_eq_true] at h
    obtain ⟨⟨h1, h2⟩, h3⟩ := h
    have hx1 : _ = some x := hx 0 (by simp)
    rw [Nat.add_zero] at hx1
    obtain ⟨y, hy, hm⟩ := hr h1 hx1
    have h2 := Nat.eq_of_beq_eq_true h2
    have hy : Rep a W Z ((cs.drop (i * sz)).take a.size) y := by rw [h2]; exact hy
    have hi : (i + 1) * sz = i * sz + a.size := by rw [Nat.succ_mul, h2]
    obtain ⟨z, hz, hn⟩ := E5p (xs := x2 :: xs) (i := i + 1) hb hr h3 (fun j hj => by
      have := hx (j + 1) (by simp at hj ⊢; omega)
      rw [show i + (j + 1) = i + 1 + j from by omega] at this
      simpa using this) (by rw [hl, hi]; simp only [Ty.size]; omega)
    rw [hi] at hz
    refine ⟨(y, z), ⟨(cs.drop (i * sz)).take a.size, cs.drop (i * sz + a.size), by rw [<- List.drop_drop, List.take_append_drop], hy, hz⟩, ?_⟩
    rw [List.map_cons, hb.cons]
    simp only [bul]
    omega
theorem C7m (hb : F6r μ μA) : ∀ {m n : Nat} {T : TypeId} {ty : Ty} {cs : List Value} {x : DataW H × List MemPlace}, F6e P m T ty = true -> DataW.trod enc P W 0 (fun _ => true) true n T cs = some x -> ∃ y, Rep ty W (fun b => b < W.heap.size) cs y /\ bul ty y <= μ x.1
  | 0, _, _, _, _, _, h, _ => by cases h
  | m + 1, n, T, ty, cs, x, h, hx => by
    simp only [F6e] at h
    split at h
    . rename_i k hu
      cases ty <;> simp only at h <;> try cases h
      rename_i k'
      have := of_decide_eq_true h
      subst this
      obtain ⟨z, e, _, hw⟩ := DataW.trod_int hu hx
      exact ⟨z, ⟨e, by simp only [Lit.wf, Bool.and_eq_true, decide_eq_true_eq] at hw; exact hw⟩, hb.pos _⟩
    . rename_i hu
      cases ty <;> simp only at h <;> try cases h
      obtain ⟨b, e, _⟩ := DataW.trod_bool hu hx
      exact ⟨b, e, hb.pos _⟩
    . rename_i hu
      cases ty <;> simp only at h <;> try cases h
      obtain ⟨s, e, _⟩ := DataW.trod_string hu hx
      exact ⟨s, e, hb.pos _⟩
    . rename_i e hu
      cases ty <;> simp only at h <;> try cases h
      rename_i t
      simp only [Bool.and_eq_true] at h
      have hsz := Nat.eq_of_beq_eq_true h.1.2
      rcases DataW.trod_slice hu hx with ⟨hc, _⟩ | ⟨a, len, cap, D1s, rest, q, hq, hc, hxe, _, hlc, hcm, hel, hget, _⟩
      . exact ⟨[], ⟨none, 0, hc, Nat.le_refl _, Nat.zero_le _, fun _ => rfl, .inl rfl⟩, hb.pos _⟩
      . by_cases h0 : len = 0
        . subst h0
          exact ⟨[], ⟨some a, cap, hc, Nat.zero_le _, hcm, fun hh => (by cases hh), .inl rfl⟩, hb.pos _⟩
        . have hone : ∀ i, i < len -> ∃ ec y, ec.length = t.size /\ M6 W (a.add (i * t.size)) ec /\ Rep t W (fun b => b < W.heap.size) ec y /\ μA ((D1s.map (·.1)).take i) + bul t y <= μA ((D1s.map (·.1)).take (i + 1)) := fun i hi => by
            have h1 := hget i hi
            have hie : i < D1s.length := by omega
            rw [List.getElem?_eq_getElem hie, hsz] at h1
            obtain ⟨ec, hec, hx2⟩ := Option.bind_eq_some_iff.1 h1
            obtain ⟨g1, g2⟩ := cells?_at hec
            obtain ⟨y, hy, hm⟩ := C7m (m := m) hb h.1.1 hx2
            refine ⟨ec, y, g1, g2, hy, ?_⟩
            rw [List.take_add_one, List.getElem?_map, List.getElem?_eq_getElem hie]
            simp only [Option.map_some, Option.toList_some, hb.app, hb.cons, hb.nil]
            omega
          obtain ⟨e0, y0, g1, g2, _⟩ := hone 0 (by omega)
          have hs1 := Nat.le_of_ble_eq_true h.2
          obtain ⟨v0, hv0⟩ := F8l (l := e0) (i := 0) (by omega)
          have hcell := g2 0 v0 hv0
          have ha0 : (a.add (0 * t.size)).add 0 = a := by simp [Addr.add]
          rw [ha0] at hcell
          have hsp := F2d hcell
          obtain ⟨b, o, sp⟩ := a
          simp only at hsp
          subst hsp
          have hbl : b < W.heap.size := block_lt_of_cell hcell
          obtain ⟨ec, l, k1, _, k3, k4, k5⟩ := C9o (R := Rep t W (fun b => b < W.heap.size)) (g := bul t) (S := fun i => μA ((D1s.map (·.1)).take i)) (b := b) (o := o) (sz := t.size) len (fun i hi => by
            obtain ⟨ec, y, q1, q2, q3, q4⟩ := hone i hi
            rw [N2] at q2
            exact ⟨ec, y, q1, q2, q3, q4⟩)
          refine ⟨l, ⟨some ⟨b, o, none⟩, cap, by rw [hc, k1], by omega, hcm, fun hh => (by cases hh), .inr ⟨b, o, ec, rfl, hbl, k3, k4⟩⟩, ?_⟩
          have hsl := hb.sl (D1s.map (·.1)) (rest.map (·.1))
          rw [hxe]
          simp only [bul]
          rw [List.take_of_length_le (by rw [List.length_map]; omega)] at k5
          omega
    . rename_i fs hu
      simp only [Bool.and_eq_true] at h
      obtain ⟨xs, q, hq, hxe, hl, hxl, hf⟩ := DataW.trod_struct hu hx
      obtain ⟨y, hy, hm⟩ := E5m (enc := enc) (P := P) (W := W) (n := q) (Z := fun b => b < W.heap.size) (cs := cs) (xs := xs) hb (fun hh hx => C7m (m := m) hb hh hx) h.1 (by simpa using hxl.symm) (fun i f hi => hf i f (by simpa using hi)) (by rw [hl, Nat.eq_of_beq_eq_true h.2]; omega)
      refine ⟨y, by simpa using hy, ?_⟩
      have := hb.agg (xs.map (·.1))
      rw [hxe]
      exact Nat.le_trans hm this
    . rename_i k e hu
      simp only [Bool.and_eq_true] at h
      obtain ⟨xs, q, hq, hxe, hl, hxl, hf⟩ := DataW.trod_array hu hx
      obtain ⟨y, hy, hm⟩ := E5p (enc := enc) (P := P) (W := W) (n := q) (Z := fun b => b < W.heap.size) (cs := cs) (e := e) (xs := xs) (i := 0) hb (fun hh hx => C7m (m := m) hb hh hx) (by rw [hxl]; exact h.1) (fun j hj => by
        rw [Nat.zero_add]
        exact hf j (by omega)) (by rw [hl, Nat.eq_of_beq_eq_true h.2]; omega)
      refine ⟨y, by simpa using hy, ?_⟩
      have := hb.agg (xs.map (·.1))
      rw [hxe]
      exact Nat.le_trans hm this
    . cases h
theorem F1p (hb : F6r μ μA) {m : Nat} {T : TypeId} {ty : Ty} {a : Bool} {r : Reach} {b0 : Nat} {v : Value} {d : DataW H} {p : List MemPlace} (h : F6e P m T ty = true) (ha : G2g P T a = true) (hv : Value.okWide P W r b0 T v) (hd : DataW.Trod enc P W 0 (fun _ => true) true T v d p) :
    ∃ y, A7z a ty W (fun b => b < W.heap.size) v y /\ bul ty y <= μ d := by
  obtain ⟨n, hd⟩ := hd
  obtain ⟨y, hy, hm⟩ := C7m hb h hd
  refine ⟨y, ?_, hm⟩
  cases m with
  | zero => cases h
  | succ m =>
    simp only [F6e] at h
    unfold G2g at ha
    split at h
    . rename_i k hu
      simp only [hu, Bool.not_eq_true'] at ha
      obtain ⟨n, rfl⟩ := okWide_int hu hv
      subst ha; exact hy
    . rename_i hu
      simp only [hu, Bool.not_eq_true'] at ha
      obtain ⟨n, rfl⟩ := okWide_bool hu hv
      subst ha; exact hy
    . rename_i hu
      simp only [hu, Bool.not_eq_true'] at ha
      obtain ⟨n, rfl⟩ := okWide_string hu hv
      subst ha; exact hy
    . rename_i e hu
      simp only [hu, Bool.not_eq_true'] at ha
      obtain ⟨x1, x2, x3, rfl⟩ := okWide_slice hu hv
      subst ha; exact hy
    . rename_i fs hu
      simp only [hu] at ha
      obtain ⟨cs, rfl, _⟩ := okWide_struct hu hv
      subst ha
      exact ⟨cs.toList, by simp, hy⟩
    . rename_i hu
      simp only [hu] at ha
      cases ha
    . cases h
theorem D4y (hb : F6r μ μA) {r : Reach} {b0 : Nat} : ∀ {ts : List TypeId} {as : List AM} {vs : List Value} {ds : List (DataW H)} {ps : List MemPlace}, E5r P ts as = true -> DataW.TrodAll enc P W 0 (fun _ => true) true ts vs ds ps -> (∀ (j : Nat) (t : TypeId) (v : Value), ts[j]? = some t -> vs[j]? = some v -> Value.okWide P W r b0 t v) -> ∃ x, A1l P W (fun b => b < W.heap.size) as vs x /\ F4d as x <= μA ds
  | [], [], vs, ds, ps, _, h, _ => by
    cases vs with
    | nil => exact ⟨(), rfl, Nat.zero_le _⟩
    | cons _ _ => cases ds <;> exact h.elim
  | [], _ :: _, _, _, _, h, _, _ => by cases h
  | _ :: _, [], _, _, _, h, _, _ => by cases h
  | T :: ts, .row _ _ :: _, _, _, _, h, _, _ => by cases h
  | T :: ts, .box _ _ :: _, _, _, _, h, _, _ => by cases h
  | T :: ts, .fn _ _ _ :: _, _, _, _, h, _, _ => by cases h
  | T :: ts, .rows _ _ _ :: _, _, _, _, h, _, _ => by cases h
  | T :: ts, .val a ty :: as, vs, ds, ps, h, hA, hv => by
    simp only [E5r, Bool.and_eq_true] at h
    obtain ⟨v, vs', d, ds', p, q, rfl, rfl, rfl, h1, h2⟩ := trodAll_cons hA
    obtain ⟨y, hy, hm⟩ := F1p hb h.1.1 h.1.2 (hv 0 T v rfl rfl) h1
    obtain ⟨z, hz, hn⟩ := D4y hb h.2 h2 (fun j t u ht hu => hv (j + 1) t u (by simpa using ht) (by simpa using hu))
    refine ⟨(y, z), ⟨v, vs', rfl, hy, hz⟩, ?_⟩
    rw [hb.cons]
    simp only [F4d]
    omega
def D7w (as : List AM) (pre : A7 as -> Prop) : B9 := { args := as, res := [.val false .bool], pre := pre, post := fun _ r => r.1 = true }
theorem E7d {f : FuncId} {as : List AM} {pre : A7 as -> Prop} {vs : List Value} {x : A7 as} (ha : A0u as = true) (hm : C0 P f (D7w as pre)) (h : A1l P W (fun b => b < W.heap.size) as vs x) (hp : pre x) : Gw.Ret P f vs W fun v W' => v = .bool true /\ Ext W W' := by
  refine (hm W _ vs x (fun _ h => h) h (by show Dis W (W0 as vs); rw [C0r ha]; trivial) hp).mono fun v w' ⟨hx, r, o, us, Zn, hpost, _, hv, _, hrep, _⟩ => ⟨?_, hx.ext (fun b ⟨u, hu, _⟩ => by rw [show W0 (D7w as pre).args vs = [] from C0r ha vs] at hu; cases hu)⟩
  obtain ⟨u, us', e, h1, _, h2⟩ := hrep
  rw [show us' = [] from h2] at e
  subst e
  have h1 : [u] = [Value.bool r.1] := h1
  have hr : r.1 = true := hpost
  rw [hr] at h1
  rw [hv]
  simpa [D0j] using h1
end
end Go.Vc
