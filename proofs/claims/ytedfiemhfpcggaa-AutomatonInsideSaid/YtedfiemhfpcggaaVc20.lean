/- From what is shown of the code to what the function does. -/
import Derived.Test.YtedfiemhfpcggaaVc19
namespace Go.Vc
open Go Go.RowKit Go.Gw
section
variable {za : Zn} {w0 : World} {cx : Cx} {sp : Specs} {an : An}
theorem gath_rel {A : Ann} {st st1 : St} {p : A.den} {E : Env} {w : World} {Z : Nat → Prop} {B : Nat → Value} (h : Rel za w0 st E w Z B) (hg : gath A st = some (st1, p)) : ∃ Z', Rel za w0 st1 E w Z' B := by
  simp only [Vc.gath, Option.bind_eq_bind, bind_some] at hg
  obtain ⟨cs0, _, cs, _, tl, _, p', _, hg⟩ := hg
  obtain ⟨_, hg⟩ := bif_none hg
  cases hg
  exact Rel.settleSh h
def post (za : Zn) (w0 : World) (k : K) : Exit → Env → World → Prop := fun e E w => Nx za w0 (k.at e) E w
variable (hty : tysOk cx.P cx.tys = true) (hsp : SpOk cx.P sp)
include hty hsp in
theorem semC_ok (hb0 : za.b0 = 0) {n : Nat} : ∀ {c : Code} {k : K} {st : St} {E : Env} {w : World} {Z : Nat → Prop} {B : Nat → Value}, Rel za w0 st E w Z B → semC cx sp an c k st → Gw.Wp cx.P n c (post za w0 k) E w := by
  intro c
  induction c with
  | skip => intro k st E w Z B h hs _ a hr; exact wp_skip ⟨E, hr, st, Z, B, h, hs⟩
  | label l => intro k st E w Z B h hs _ a hr; exact wp_label ⟨E, hr, st, Z, B, h, hs⟩
  | exit i => intro k st E w Z B h hs _ a hr; exact wp_exit ⟨E, hr, st, Z, B, h, hs⟩
  | ret => intro k st E w Z B h hs _ a hr; exact wp_ret ⟨E, hr, st, Z, B, h, hs⟩
  | region id ops draw =>
    intro k st E w Z B h hs hok a hr
    simp only [codeOk] at hok
    simp only [semC] at hs
    have hops : ops = ops.toList.toArray := by simp
    cases draw with
    | false =>
      simp only [cond_false] at hs
      rw [hops]
      refine wp_region ?_
      have := opsI_wpOps (P := cx.P) (Q := post za w0 k) hok ops.toList 0 (by simp) a E w hr (semOps_ok hb0 hty hsp h hs)
      simpa [List.range_eq_range'] using this
    | true =>
      simp only [cond_true] at hs
      split at hs
      · rename_i heads tails p _
        obtain ⟨hp, hs⟩ := bif_prop hs
        simp only [Bool.and_eq_true] at hp
        obtain ⟨hp, hm⟩ := hp
        simp only [planned, Bool.and_eq_true] at hp
        rw [hops]
        refine wp_region_any hm (wpAny_of_K (S := Ext w.drew) (tails := tails) _ _ _ _ ?_)
        have hnone : anyTail tails (Array.replicate ops.toList.length false) = false := by
          unfold anyTail
          rw [List.any_eq_false]
          intro x _
          simp only [Array.getD_eq_getD_getElem?, Array.getElem?_replicate]
          split <;> simp
        have h1 := h.more (Z' := Z) (w' := w.drew) (Ext.refl w).drew (fun _ h => h) (fun _ => .inl)
        have hd := semPlan_ok (za0 := za) hty hsp (wd := w.drew) (n0 := st.nx) rfl rfl (fun h => h.unmark hb0) (fun _ => rfl) (.inr (Ext.refl _)) h1.marked hs
        have := dopsI_any (P := cx.P) (S := Ext w.drew) (Q := post za w0 k) hok hp.1.1 hp.1.2 (fun c E w hh => by obtain ⟨_, _, _, _, hh⟩ := hh; exact hh) p ops.toList.length _ hp.2 (fun ht => by rw [hnone] at ht; cases ht) false hnone.symm a E w.drew hr (.inr (Ext.refl _)) hd
        simpa using this
      · exact hs.elim
  | seq a b iha ihb =>
    intro k st E w Z B h hs hok act hr
    simp only [codeOk, Bool.and_eq_true] at hok
    simp only [semC] at hs
    split at hs
    · rename_i A _
      obtain ⟨J, h1, h2⟩ := hs
      have h1' := semC_step (k' := { n := fun st' => Evo st st' ∧ arrive A st J st', x := k.x, r := k.r }) h1 (fun e st' ev hh => by
        cases e with
        | normal => exact ⟨ev, hh⟩
        | exit i => exact hh
        | ret => exact hh
        | _ => exact hh)
      refine wp_seq (wp_mono (iha h h1' hok.1 act hr) ?_)
      rintro e a' w' ⟨E', hr', st', Z', B', h', hq⟩
      cases e with
      | normal =>
        obtain ⟨p, hw, hJ, Z2, B2, h3⟩ := arrive_ok hb0 h' hq.2 h.pure hq.1
        exact ihb h3 (h2 p hw hJ) hok.2 a' hr'
      | exit i => exact ⟨E', hr', st', Z', B', h', hq⟩
      | ret => exact ⟨E', hr', st', Z', B', h', hq⟩
      | _ => exact hq.elim
    · refine wp_seq (wp_mono (iha h hs hok.1 act hr) ?_)
      rintro e a' w' ⟨E', hr', st', Z', B', h', hq⟩
      cases e with
      | normal => exact ihb h' hq hok.2 a' hr'
      | exit i => exact ⟨E', hr', st', Z', B', h', hq⟩
      | ret => exact ⟨E', hr', st', Z', B', h', hq⟩
      | _ => exact hq.elim
  | cond c x y ihx ihy =>
    intro k st E w Z B h hs hok act hr
    simp only [codeOk, Bool.and_eq_true] at hok
    simp only [semC] at hs
    split at hs
    · rename_i e he
      obtain ⟨s, hs1, hs2⟩ := bind_some.1 he
      have hv := boolC_ok (h.ev (ctxNil E) hs1).1 hs2
      refine wp_cond (t := e) (by rw [hr.ev]; exact hv) ?_
      cases e with
      | true => exact ihx h (hs.1 rfl) hok.1 act hr
      | false => exact ihy h (hs.2 rfl) hok.2 act hr
    · exact hs.elim
  | block id c ih =>
    intro k st E w Z B h hs hok act hr
    refine wp_block (wp_mono (ih h hs hok act hr) ?_)
    rintro e a' w' ⟨E', hr', st', Z', B', h', hq⟩
    cases e with
    | normal => exact ⟨E', hr', st', Z', B', h', hq⟩
    | ret => exact ⟨E', hr', st', Z', B', h', hq⟩
    | exit j =>
      simp only [Exit.inBlock]
      simp only [K.at] at hq
      by_cases hj : j = id
      · subst hj
        simp only [if_true]
        simp at hq
        exact ⟨E', hr', st', Z', B', h', hq⟩
      · simp only [hj, if_false]
        rw [beq_false_of hj] at hq
        exact ⟨E', hr', st', Z', B', h', hq⟩
    | _ => exact hq.elim
  | loop c ih =>
    intro k st E w Z B h hs hok act hr
    simp only [codeOk] at hok
    simp only [semC] at hs
    split at hs
    · rename_i A _
      unfold Loop at hs
      split at hs
      · rename_i st1 p0 hg
        obtain ⟨hb, hs⟩ := bif_prop hs
        simp only [Bool.and_eq_true, List.all_eq_true] at hb
        obtain ⟨I, μ, h0, h1⟩ := hs
        obtain ⟨Z1, hr1⟩ := gath_rel h hg
        obtain ⟨hwf, Z2, B2, h2⟩ := gath_ok hb0 h hg hr1.pure (fun _ _ => rfl) (fun _ _ => rfl) (fun y hy => blt_lt (hb.1 y hy)) (fun y hy => blt_lt (hb.2 y hy))
        refine wp_loop_ghost (fun m a w => ∃ p E', μ p = m ∧ Gw.Rep n a E' ∧ A.wf p ∧ I p ∧ ∃ Z B, Rel za w0 (reflect A st1 p) E' w Z B) (μ p0) ⟨p0, E, rfl, hr, hwf, h0, Z2, B2, h2⟩ ?_
        rintro m a w ⟨p, E', hmu, hrep, hw, hI, Z3, B3, h3⟩
        have h4 := semC_step (k' := { n := fun st' => Evo (reflect A st1 p) st' ∧ arrive A st1 (fun p' => I p' ∧ μ p' < μ p) st', x := k.x, r := k.r }) (h1 p hw hI) (fun e st' ev hh => by
          cases e with
          | normal => exact ⟨ev, hh⟩
          | exit i => exact hh
          | ret => exact hh
          | _ => exact hh)
        refine wp_mono (ih h3 h4 hok a hrep) ?_
        rintro e a' w' ⟨E'', hr', st', Z', B', h', hq⟩
        cases e with
        | normal =>
          obtain ⟨p', hw', hJ, Z5, B5, h5⟩ := arrive_ok hb0 h' hq.2 hr1.pure ((Evo.told A st1 p).trans hq.1)
          exact ⟨μ p', by have := hJ.2; omega, p', E'', rfl, hr', hw', hJ.1, Z5, B5, h5⟩
        | exit j => exact ⟨E'', hr', st', Z', B', h', hq⟩
        | ret => exact ⟨E'', hr', st', Z', B', h', hq⟩
        | _ => exact hq.elim
      · exact hs.elim
    · exact hs.elim
  | _ => intro k st E w Z B h hs; exact hs.elim
end

/-- An empty list that bears its type. -/
abbrev nilL (α : Type) : List α := []
/-! ### Results -/
def resSV (cx : Cx) (st : St) : List ResultVar → Option (List SV)
  | [] => some []
  | .tmp t :: r => match st.S t with
    | .one s => (resSV cx st r).map (s :: ·)
    | _ => none
  | .cell a T :: r => do
    let ti ← cx.ti T
    match st.S a with
    | .one ⟨false, [.box k 0]⟩ => match st.L k with
      | .box _ cs => bif Nat.beq cs.length ti.ty.size then (resSV cx st r).map (⟨ti.agg, cs⟩ :: ·) else none
      | _ => none
    | _ => none
def settleR : St → List RT → List SV → St
  | st, .val _ _ :: rs, s :: ss => settleR (settle st s.cs) rs ss
  | st, .own _ _ :: rs, _ :: ss => settleR st rs ss
  | st, _, _ => st
def packR (st : St) : (rs : List RT) → List SV → Option (rdens rs)
  | [], [] => some ()
  | .val a t :: rs, s :: ss => (packS a t s).bind fun x => (packR st rs ss).map fun y => (x, y)
  | .own t e :: rs, s :: ss => ((c1 s).bind (rowFor st t e)).bind fun x => (packR st rs ss).map fun y => (x, y)
  | _, _ => none
def ownIdR : List RT → List SV → List Nat
  | .own _ _ :: rs, ⟨false, [.row k]⟩ :: ss => k :: ownIdR rs ss
  | _ :: rs, _ :: ss => ownIdR rs ss
  | _, _ => []
/-- What lies in boxes that were passed to be written becomes still. -/
def settleM : St → List AM → Nat → St
  | st, .box _ _ :: r, j => settleM (match st.L j with | .box _ cs => settle st cs | _ => st) r (j + 1)
  | st, .row _ _ :: r, j => settleM st r (j + 1)
  | st, .val _ _ :: r, j => settleM st r j
  | st, .fn _ _ :: r, j => settleM st r j
  | st, [], _ => st
def finO (st : St) : (as : List AM) → Nat → Option (outs as)
  | [], _ => some ()
  | .row t e :: r, j => (rowAt st t e j).bind fun x => (finO st r (j + 1)).map fun y => (x, y)
  | .box T t :: r, j => (boxAt st T t j).bind fun x => (finO st r (j + 1)).map fun y => (x, y)
  | .val _ _ :: r, j => finO st r j
  | .fn _ _ :: r, j => finO st r j
def flatA : AM → Bool
  | .row t _ => flatT t
  | .box _ t => flatT t
  | _ => true
def fin1 (s : FSpec) (x : dens s.args) (r : rdens s.res) (o : outs s.args) : Prop := bif hasMut s.args then s.post x r ∧ s.mpost x r o else s.post x r
/-- At the end: the results are as the specification says. -/
def fin (cx : Cx) (s : FSpec) (vars : List ResultVar) (x : dens s.args) (st : St) : Prop :=
  match resSV cx st vars with
  | some ss => match resSV cx (settleM (settleR st s.res ss) s.args 0) vars with
    | some ss1 => match packR (settleM (settleR st s.res ss) s.args 0) s.res ss1, finO (settleM (settleR st s.res ss) s.args 0) s.args 0 with
      | some r, some o => bif nodupB (ownIdR s.res ss1) && (s.shared || (s.res.all flatR && s.args.all flatA)) then fin1 s x r o else False
      | _, _ => False
    | none => False
  | none => False
def initL (P : Program) : (as : List AM) → dens as → Nat → Nat → List (Nat × Nat × DV)
  | [], _, _, _ => []
  | .val a t :: r, x, i, j => (i, 1, .one ⟨a, explode t x.1⟩) :: initL P r x.2 (i + 1) j
  | .row _ _ :: r, x, i, j => (i, 1, .one ⟨false, [.row j]⟩) :: initL P r x.2 (i + 1) (j + 1)
  | .box _ _ :: r, x, i, j => (i, 1, .one ⟨false, [.box j 0]⟩) :: initL P r x.2 (i + 1) (j + 1)
  | .fn as' r' :: r, x, i, j => (i, 1, .one ⟨false, [.fv P as' r' x.1.1 x.1.2]⟩) :: initL P r x.2 (i + 1) j
def initT : (as : List AM) → dens as → Nat → List (Nat × Nat × LC)
  | [], _, _ => []
  | .val _ _ :: r, x, j => initT r x.2 j
  | .fn _ _ :: r, x, j => initT r x.2 j
  | .row t e :: r, x, j => (j, 1, .row t e x.1) :: initT r x.2 (j + 1)
  | .box T t :: r, x, j => (j, 1, .box T (explode t x.1)) :: initT r x.2 (j + 1)
def nMut : List AM → Nat
  | [] => 0
  | .row _ _ :: r => nMut r + 1
  | .box _ _ :: r => nMut r + 1
  | .val _ _ :: r => nMut r
  | .fn _ _ :: r => nMut r
def initSt (P : Program) (as : List AM) (x : dens as) : St := ⟨initL P as x 0 0, initT as x 0, nMut as, 1, nMut as⟩
def semF (cx : Cx) (sp : Specs) (an : An) (s : FSpec) (vars : List ResultVar) (c : Code) (x : dens s.args) : Prop :=
  semC cx sp an c ⟨fin cx s vars x, fun _ _ => False, fin cx s vars x⟩ (initSt cx.P s.args x)
section
variable {za : Zn} {w0 w : World} {Z : Nat → Prop} {B : Nat → Value} {st : St} {E : Env} {cx : Cx} {sp : Specs} {an : An}
def getR (tmps : Array Value) : ResultVar → Sem Value
  | .tmp t => pure (tmps.getD t undef)
  | .cell a t => do loadVar t (← asAddr (tmps.getD a undef))
theorem resSV_ok (hty : tysOk cx.P cx.tys = true) (h : Rel za w0 st E w Z B) {tmps : Array Value} (ht : ∀ t, tmps.getD t undef = E t) : ∀ {vars : List ResultVar} {ss : List SV}, resSV cx st vars = some ss → ∃ vs, (vars.mapM (getR tmps)).run cx.P w = .ok vs w ∧ RSs w Z B ss vs
  | [], ss, hs => by cases hs; exact ⟨[], rfl, rfl⟩
  | .tmp t :: r, ss, hs => by
    simp only [resSV] at hs
    split at hs
    · rename_i s hd
      simp only [Option.map_eq_some_iff] at hs
      obtain ⟨ss', hs', rfl⟩ := hs
      obtain ⟨vs, h1, h2⟩ := resSV_ok hty h ht hs'
      have hsl := h.slots t
      rw [hd] at hsl
      refine ⟨E t :: vs, ?_, E t, vs, rfl, hsl, h2⟩
      rw [List.mapM_cons]
      simp only [getR, ht, Sem.run_bind, Sem.run_pure, Result.andThen_ok, h1]
    · cases hs
  | .cell a T :: r, ss, hs => by
    simp only [resSV, Option.bind_eq_bind, bind_some] at hs
    obtain ⟨ti, hti, hs⟩ := hs
    split at hs
    · rename_i k hd
      split at hs
      · rename_i T' cs hk
        obtain ⟨hb, hs⟩ := bif_none hs
        simp only [Option.map_eq_some_iff] at hs
        obtain ⟨ss', hs', rfl⟩ := hs
        obtain ⟨vs, h1, h2⟩ := resSV_ok hty h ht hs'
        have hlen := Nat.eq_of_beq_eq_true hb
        have hsl := h.slots a
        rw [hd] at hsl
        obtain ⟨_, _, e1, ⟨b, e2, e3⟩, _⟩ := hsl
        cases e1
        have hL := h.locs k
        rw [hk] at hL
        obtain ⟨b', us, e4, _, _, hblk, hcs⟩ := hL
        rw [e2] at e4; cases e4
        have hul : us.toList.length = ti.ty.size := by rw [← hlen, hcs.len]
        rcases (tyOk_parts (tysOk_spec hty hti)).2.1 with ⟨ha, hag⟩ | ⟨ha, hsc, hs1⟩
        · refine ⟨.agg us.toList.toArray :: vs, ?_, _, vs, rfl, by rw [ha]; exact ⟨us.toList, rfl, hcs⟩, h2⟩
          obtain ⟨g1, g2⟩ := run_isAgg_agg (P := cx.P) (w := w) hag
          have g3 := run_loadCells_list (P := cx.P) (w := w) ⟨b, 0, none⟩ us.toList hblk.cellsAt
          rw [hul] at g3
          unfold loadCells at g3
          rw [List.mapM_cons]
          simp [getR, ht, e3, asAddr, loadVar, g1, g2, g3, h1, go_sem]
        · rw [hs1] at hul
          match hus : us.toList, hul with
          | [u], _ =>
            rw [hus] at hcs
            have hcell : w.cell? ⟨b, 0, none⟩ = some u := by
              have := hblk.cellsAt 0 u (by rw [hus]; rfl)
              rwa [add_lit] at this
            refine ⟨u :: vs, ?_, u, vs, rfl, by rw [ha]; exact hcs, h2⟩
            have g1 := run_isAgg_scalar (P := cx.P) (w := w) hsc
            rw [List.mapM_cons]
            simp [getR, ht, e3, asAddr, loadVar, g1, hcell, h1, go_sem]
      · cases hs
    · cases hs
theorem Rel.settleR : ∀ {rs : List RT} {ss : List SV} {st : St} {Z : Nat → Prop}, Rel za w0 st E w Z B → ∃ Z', Rel za w0 (settleR st rs ss) E w Z' B
  | .val _ _ :: rs, s :: ss, st, Z, h => by
    obtain ⟨Z1, h1⟩ := h.settle s.cs
    exact Rel.settleR (rs := rs) (ss := ss) h1
  | .own _ _ :: rs, _ :: ss, st, Z, h => Rel.settleR (rs := rs) (ss := ss) h
  | [], _, st, Z, h => ⟨Z, h⟩
  | .val _ _ :: _, [], st, Z, h => ⟨Z, h⟩
  | .own _ _ :: _, [], st, Z, h => ⟨Z, h⟩
theorem packR_ok (h : Rel za w0 st E w Z B) {Zn : Nat → Prop} (hzn : ∀ b, Zn b → Z b) : ∀ {rs : List RT} {ss : List SV} {vs : List Value} {r : rdens rs}, ((∀ b, Z b → Zn b) ∨ rs.all flatR = true) → RSs w Z B ss vs → packR st rs ss = some r → (ownIdR rs ss).Nodup →
    RepRs w0.heap.size w Zn rs vs r ∧ ∀ u ∈ ownVals rs vs, ∀ b, u.ownBlock = some b → ∃ k ∈ ownIdR rs ss, live (st.L k) ∧ root (B k) = some b
  | [], [], vs, _, _, hr, _, _ => ⟨hr, fun u hu => by simp [ownVals] at hu⟩
  | [], _ :: _, _, _, _, _, hp, _ => by cases hp
  | .val _ _ :: _, [], _, _, _, _, hp, _ => by cases hp
  | .own _ _ :: _, [], _, _, _, _, hp, _ => by cases hp
  | .val a t :: rs, s :: ss, _, r, hf, ⟨v, vs', e, h1, h2⟩, hp, hn => by
    simp only [packR, bind_some, Option.map_eq_some_iff] at hp
    obtain ⟨x, hx, y, hy, rfl⟩ := hp
    have hid : ownIdR (.val a t :: rs) (s :: ss) = ownIdR rs ss := by
      obtain ⟨sa, sc⟩ := s
      simp only [ownIdR]
    rw [hid] at hn ⊢
    obtain ⟨g1, g2⟩ := packR_ok h hzn (hf.imp id fun hh => by simp only [List.all_cons, Bool.and_eq_true] at hh; exact hh.2) h2 hy hn
    subst e
    refine ⟨⟨v, vs', rfl, ?_, fun hh => (by cases hh), g1⟩, g2⟩
    have hrep := packS_ok h1 hx
    rcases hf with hf | hf
    · exact hrep.mono hf (fun _ _ => rfl)
    · simp only [List.all_cons, Bool.and_eq_true] at hf
      cases a with
      | true => obtain ⟨cs, e, hrep⟩ := hrep; exact ⟨cs, e, Rep.flat hf.1 hrep⟩
      | false => exact Rep.flat (cs := [v]) hf.1 hrep
  | .own t e0 :: rs, s :: ss, _, r, hf, ⟨v, vs', e, h1, h2⟩, hp, hn => by
    simp only [packR, bind_some, Option.map_eq_some_iff] at hp
    obtain ⟨l, ⟨c, hc, hl⟩, y, hy, rfl⟩ := hp
    subst e
    have hcs : s = ⟨false, [c]⟩ := by
      unfold c1 at hc; split at hc
      · cases hc; rfl
      · cases hc
    subst hcs
    obtain ⟨_, _, e1, hrc, _⟩ := h1
    cases e1
    obtain ⟨xs, o1, o2, o3, o4⟩ := rowFor_ok h hrc hl
    have hro := own_root o1
    have hEach : Each (Rep t w Zn) xs l := by
      rcases hf with hf | hf
      · exact o2.mono fun _ _ => Rep.mono hf (fun _ _ => rfl)
      · simp only [List.all_cons, Bool.and_eq_true] at hf
        exact o2.mono fun _ _ hh => Rep.flat hf.1 hh
    have hf' : (∀ b, Z b → Zn b) ∨ rs.all flatR = true := hf.imp id fun hh => by simp only [List.all_cons, Bool.and_eq_true] at hh; exact hh.2
    rcases o4 with ⟨q, rfl, hlq, hvq⟩ | ⟨hnr, hnq⟩
    · have hid : ownIdR (.own t e0 :: rs) (⟨false, [.row q]⟩ :: ss) = q :: ownIdR rs ss := rfl
      rw [hid] at hn ⊢
      have hn' := List.nodup_cons.1 hn
      obtain ⟨g1, g2⟩ := packR_ok h hzn hf' h2 hy hn'.2
      refine ⟨⟨v, vs', rfl, ⟨xs, o1, hEach, fun b hb hz => o3 b hb (hzn b hz)⟩, fun _ b hb u hu hub => ?_, g1⟩, fun u hu b hb => ?_⟩
      · obtain ⟨k, hk, hlk, hrk⟩ := g2 u hu b hub
        have hqb : root (B q) = some b := by rw [← hvq]; exact hro.trans hb
        exact h.disj q k b (fun hh => hn'.1 (hh ▸ hk)) hlq hlk hqb hrk
      · simp only [ownVals, List.mem_cons] at hu
        rcases hu with rfl | hu
        · exact ⟨q, by simp, hlq, by rw [← hvq]; exact hro.trans hb⟩
        · obtain ⟨k, hk, r⟩ := g2 u hu b hb
          exact ⟨k, List.mem_cons_of_mem _ hk, r⟩
    · have hid : ownIdR (.own t e0 :: rs) (⟨false, [c]⟩ :: ss) = ownIdR rs ss := by cases c <;> first | rfl | exact absurd rfl (hnq _)
      rw [hid] at hn ⊢
      obtain ⟨g1, g2⟩ := packR_ok h hzn hf' h2 hy hn
      have hno : ∀ b, v.ownBlock ≠ some b := fun b hb => by rw [← hro, hnr] at hb; cases hb
      refine ⟨⟨v, vs', rfl, ⟨xs, o1, hEach, fun b hb => absurd hb (hno b)⟩, fun _ b hb => absurd hb (hno b), g1⟩, fun u hu b hb => ?_⟩
      simp only [ownVals, List.mem_cons] at hu
      rcases hu with rfl | hu
      · exact absurd hb (hno b)
      · exact g2 u hu b hb
theorem Rel.settleM : ∀ {as : List AM} {st : St} {j : Nat} {Z : Nat → Prop}, Rel za w0 st E w Z B → ∃ Z', Rel za w0 (settleM st as j) E w Z' B
  | [], st, _, Z, h => ⟨Z, h⟩
  | .row _ _ :: r, st, j, Z, h => Rel.settleM (as := r) h
  | .val _ _ :: r, st, j, Z, h => Rel.settleM (as := r) h
  | .fn _ _ :: r, st, j, Z, h => Rel.settleM (as := r) h
  | .box _ _ :: r, st, j, Z, h => by
    simp only [Vc.settleM]
    split
    · obtain ⟨Z1, h1⟩ := h.settle _
      exact Rel.settleM (as := r) h1
    · exact Rel.settleM (as := r) h
theorem finO_ok (h : Rel za w0 st E w Z B) {Zn : Nat → Prop} : ∀ {as : List AM} {vs : List Value} {o : outs as} {j : Nat}, ((∀ b, Z b → Zn b) ∨ as.all flatA = true) → (∀ m u, (mutVals as vs)[m]? = some u → B (j + m) = u) → vs.length = as.length → finO st as j = some o → RepO w Zn as vs o
  | [], _, _, _, _, _, _, _ => trivial
  | a :: r, [], _, _, _, _, hl, _ => by simp at hl
  | .val _ _ :: r, v :: vs, o, j, hf, hB, hl, ho => finO_ok (as := r) h (hf.imp id fun hh => by simp only [List.all_cons, Bool.and_eq_true] at hh; exact hh.2) hB (by simpa using hl) ho
  | .fn _ _ :: r, v :: vs, o, j, hf, hB, hl, ho => finO_ok (as := r) h (hf.imp id fun hh => by simp only [List.all_cons, Bool.and_eq_true] at hh; exact hh.2) hB (by simpa using hl) ho
  | .row t e :: r, v :: vs, o, j, hf, hB, hl, ho => by
    simp only [finO, bind_some, Option.map_eq_some_iff] at ho
    obtain ⟨x, hx, y, hy, rfl⟩ := ho
    have hBj : B j = v := hB 0 v (by simp [mutVals, isMut])
    have hL := h.locs j
    rw [rowAt_ok hx] at hL
    obtain ⟨xs, g1, g2, _⟩ := hL
    rw [hBj] at g1
    refine ⟨⟨xs, g1, ?_⟩, finO_ok (as := r) h (hf.imp id fun hh => by simp only [List.all_cons, Bool.and_eq_true] at hh; exact hh.2) (fun m u hm => by rw [show j + 1 + m = j + (m + 1) from by omega]; exact hB (m + 1) u (by simpa [mutVals, isMut] using hm)) (by simpa using hl) hy⟩
    rcases hf with hf | hf
    · exact g2.mono fun _ _ => Rep.mono hf (fun _ _ => rfl)
    · simp only [List.all_cons, Bool.and_eq_true] at hf
      exact g2.mono fun _ _ hh => Rep.flat hf.1 hh
  | .box T t :: r, v :: vs, o, j, hf, hB, hl, ho => by
    simp only [finO, bind_some, Option.map_eq_some_iff] at ho
    obtain ⟨x, hx, y, hy, rfl⟩ := ho
    have hBj : B j = v := hB 0 v (by simp [mutVals, isMut])
    obtain ⟨cs, hc, hp⟩ := boxAt_ok hx
    have hL := h.locs j
    rw [hc] at hL
    obtain ⟨b, us, g1, _, _, g4, g5⟩ := hL
    rw [hBj] at g1
    refine ⟨⟨b, us, g1, g4, ?_⟩, finO_ok (as := r) h (hf.imp id fun hh => by simp only [List.all_cons, Bool.and_eq_true] at hh; exact hh.2) (fun m u hm => by rw [show j + 1 + m = j + (m + 1) from by omega]; exact hB (m + 1) u (by simpa [mutVals, isMut] using hm)) (by simpa using hl) hy⟩
    have := pack_all g5 hp
    rcases hf with hf | hf
    · exact Rep.mono hf (fun _ _ => rfl) this
    · simp only [List.all_cons, Bool.and_eq_true] at hf
      exact Rep.flat hf.1 this
variable {P : Program}
theorem initL_find {n : Nat} : ∀ {as : List AM} {vs : List Value} {x : dens as} {i j s : Nat}, RepAs P w Z as vs x → i ≤ s → (∀ m u, (mutVals as vs)[m]? = some u → B (j + m) = u) → j + nMut as ≤ n → RD w Z B E (find (0, .dead) s (initL P as x i j)).2 ((vs[s - i]?).getD undef) ∧ refD n (find (0, .dead) s (initL P as x i j)).2
  | [], _, _, _, _, _, _, _, _, _ => ⟨trivial, trivial⟩
  | a :: r, _, x, i, j, s, ⟨v, vs', e, h1, h2⟩, hi, hB, hn => by
    subst e
    by_cases his : i = s
    · subst his
      cases a with
      | val a t =>
        simp only [initL, find, Nat.beq_refl, cond_true, Nat.sub_self]
        exact ⟨RepV.explode h1, explode_ref⟩
      | row t e =>
        simp only [initL, find, Nat.beq_refl, cond_true, Nat.sub_self]
        have hBj : B j = v := hB 0 v (by simp [mutVals, isMut])
        exact ⟨⟨v, [], rfl, hBj.symm, rfl⟩, fun c hc => by simp at hc; subst hc; simp only [nMut] at hn; show j < n; omega⟩
      | box T t =>
        simp only [initL, find, Nat.beq_refl, cond_true, Nat.sub_self]
        have hBj : B j = v := hB 0 v (by simp [mutVals, isMut])
        obtain ⟨b, us, g1, _⟩ := h1
        exact ⟨⟨v, [], rfl, ⟨b, hBj.trans g1, g1⟩, rfl⟩, fun c hc => by simp at hc; subst hc; simp only [nMut] at hn; show j < n; omega⟩
      | fn as' r' =>
        simp only [initL, find, Nat.beq_refl, cond_true, Nat.sub_self]
        exact ⟨⟨v, [], rfl, h1, rfl⟩, fun c hc => by simp at hc; subst hc; trivial⟩
    · have he : s - i = (s - (i + 1)) + 1 := by omega
      rw [he]
      cases a with
      | val a t =>
        simp only [initL, find, beq_false_of his, cond_false, List.getElem?_cons_succ]
        exact initL_find (i := i + 1) (s := s) h2 (by omega) hB hn
      | fn as' r' =>
        simp only [initL, find, beq_false_of his, cond_false, List.getElem?_cons_succ]
        exact initL_find (i := i + 1) (s := s) h2 (by omega) hB hn
      | row t e =>
        simp only [initL, find, beq_false_of his, cond_false, List.getElem?_cons_succ]
        exact initL_find (i := i + 1) (s := s) h2 (by omega) (fun m u hm => by rw [show j + 1 + m = j + (m + 1) from by omega]; exact hB (m + 1) u (by simpa [mutVals, isMut] using hm)) (by simp only [nMut] at hn; omega)
      | box t e =>
        simp only [initL, find, beq_false_of his, cond_false, List.getElem?_cons_succ]
        exact initL_find (i := i + 1) (s := s) h2 (by omega) (fun m u hm => by rw [show j + 1 + m = j + (m + 1) from by omega]; exact hB (m + 1) u (by simpa [mutVals, isMut] using hm)) (by simp only [nMut] at hn; omega)
theorem initT_find {n : Nat} {U : Nat → Nat → Prop} : ∀ {as : List AM} {vs : List Value} {x : dens as} {j k : Nat}, RepAs P w Z as vs x → (∀ m u, (mutVals as vs)[m]? = some u → B (j + m) = u ∧ ∀ b, root u = some b → U (j + m) b) →
    RL (U k) w Z B k (find (0, .none) k (initT as x j)).2 ∧ refL n (find (0, .none) k (initT as x j)).2 ∧ (live (find (0, .none) k (initT as x j)).2 → j ≤ k ∧ (mutVals as vs)[k - j]? = some (B k))
  | [], _, _, _, _, _, _ => ⟨trivial, trivial, fun h => h.elim⟩
  | .val a t :: r, _, x, j, k, ⟨v, vs', e, h1, h2⟩, hB => by subst e; exact initT_find (as := r) h2 hB
  | .fn a t :: r, _, x, j, k, ⟨v, vs', e, h1, h2⟩, hB => by subst e; exact initT_find (as := r) h2 hB
  | .row t e0 :: r, _, x, j, k, ⟨v, vs', e, h1, h2⟩, hB => by
    subst e
    simp only [initT, find]
    by_cases hjk : j = k
    · subst hjk
      simp only [Nat.beq_refl, cond_true]
      obtain ⟨hBj, hUj⟩ := hB 0 v (by simp [mutVals, isMut])
      obtain ⟨xs, g1, g2, g3⟩ := h1
      have hBj : B j = v := hBj
      refine ⟨⟨xs, by rw [hBj]; exact g1, g2, fun b hb => ?_⟩, trivial, fun _ => ⟨Nat.le_refl _, by simp [mutVals, isMut, hBj]⟩⟩
      rw [hBj] at hb
      exact ⟨hUj b ((own_root g1).trans hb), g3 b hb⟩
    · simp only [beq_false_of hjk, cond_false]
      obtain ⟨q1, q2, q3⟩ := initT_find (n := n) (as := r) (j := j + 1) (k := k) (U := U) h2 (fun m u hm => by rw [show j + 1 + m = j + (m + 1) from by omega]; exact hB (m + 1) u (by simpa [mutVals, isMut] using hm))
      refine ⟨q1, q2, fun hl => ⟨by have := (q3 hl).1; omega, ?_⟩⟩
      obtain ⟨q4, q5⟩ := q3 hl
      rw [show k - j = (k - (j + 1)) + 1 from by omega]
      simpa [mutVals, isMut] using q5
  | .box T t :: r, _, x, j, k, ⟨v, vs', e, h1, h2⟩, hB => by
    subst e
    simp only [initT, find]
    by_cases hjk : j = k
    · subst hjk
      simp only [Nat.beq_refl, cond_true]
      obtain ⟨hBj, hUj⟩ := hB 0 v (by simp [mutVals, isMut])
      obtain ⟨b, us, g1, g2, g3, g4⟩ := h1
      have hBj : B j = v := hBj
      exact ⟨⟨b, us, hBj.trans g1, hUj b (by rw [g1]; rfl), g2, g3, explode_ok g4⟩, explode_ref, fun _ => ⟨Nat.le_refl _, by simp [mutVals, isMut, hBj]⟩⟩
    · simp only [beq_false_of hjk, cond_false]
      obtain ⟨q1, q2, q3⟩ := initT_find (n := n) (as := r) (j := j + 1) (k := k) (U := U) h2 (fun m u hm => by rw [show j + 1 + m = j + (m + 1) from by omega]; exact hB (m + 1) u (by simpa [mutVals, isMut] using hm))
      refine ⟨q1, q2, fun hl => ⟨by have := (q3 hl).1; omega, ?_⟩⟩
      obtain ⟨q4, q5⟩ := q3 hl
      rw [show k - j = (k - (j + 1)) + 1 from by omega]
      simpa [mutVals, isMut] using q5
theorem RepAs.len : ∀ {as : List AM} {vs : List Value} {x : dens as}, RepAs P w Z as vs x → vs.length = as.length
  | [], _, _, h => by rw [show _ = _ from h]; rfl
  | _ :: _, _, _, ⟨v, vs', e, _, h2⟩ => by rw [e, List.length_cons, List.length_cons, RepAs.len h2]
theorem mutVals_len : ∀ {as : List AM} {vs : List Value}, vs.length = as.length → (mutVals as vs).length = nMut as
  | [], vs, _ => by cases vs <;> rfl
  | a :: r, [], h => by simp at h
  | .val _ _ :: r, v :: vs, h => mutVals_len (as := r) (by simpa using h)
  | .fn _ _ :: r, v :: vs, h => mutVals_len (as := r) (by simpa using h)
  | .row _ _ :: r, v :: vs, h => by simp only [mutVals, isMut, cond_true, List.length_cons, nMut]; rw [mutVals_len (as := r) (by simpa using h)]
  | .box _ _ :: r, v :: vs, h => by simp only [mutVals, isMut, cond_true, List.length_cons, nMut]; rw [mutVals_len (as := r) (by simpa using h)]
theorem Dis.get : ∀ {l : List Value} {m m' b : Nat} {u u' : Value}, Dis l → m < m' → l[m]? = some u → l[m']? = some u' → root u = some b → root u' ≠ some b
  | [], _, _, _, _, _, _, _, h, _, _ => by simp at h
  | v :: l, 0, m' + 1, b, u, u', hd, hm, h, h', hb => by
    simp at h h'
    subst h
    exact hd.1 b hb u' (List.mem_of_getElem? h')
  | v :: l, m + 1, m' + 1, b, u, u', hd, hm, h, h', hb => by
    simp at h h'
    exact Dis.get hd.2 (by omega) h h' hb
  | v :: l, _, 0, _, _, _, _, hm, _, _, _ => by omega
def mutB (as : List AM) (vs : List Value) : Nat → Value := fun j => ((mutVals as vs)[j]?).getD (.bool false)
theorem mut_one : ∀ {as : List AM} {vs : List Value} {x : dens as}, RepAs P w Z as vs x → ∀ u ∈ mutVals as vs, u.oneCell' = true
  | [], vs, _, _, u, hu => by cases vs <;> cases hu
  | .val _ _ :: r, _, _, ⟨v, vs', e, _, h2⟩, u, hu => by subst e; exact mut_one (as := r) h2 u hu
  | .fn _ _ :: r, _, _, ⟨v, vs', e, _, h2⟩, u, hu => by subst e; exact mut_one (as := r) h2 u hu
  | .row t e0 :: r, _, _, ⟨v, vs', e, ⟨xs, g, _⟩, h2⟩, u, hu => by
    subst e
    simp only [mutVals, isMut, cond_true, List.mem_cons] at hu
    rcases hu with rfl | hu
    · rcases g.2 with ⟨hv, _⟩ | ⟨_, _, _, hv, _⟩ <;> rw [hv] <;> rfl
    · exact mut_one (as := r) h2 u hu
  | .box t e0 :: r, _, _, ⟨v, vs', e, ⟨b, us, g, _⟩, h2⟩, u, hu => by
    subst e
    simp only [mutVals, isMut, cond_true, List.mem_cons] at hu
    rcases hu with rfl | hu
    · rw [g]; rfl
    · exact mut_one (as := r) h2 u hu
theorem init_ok {as : List AM} {vs : List Value} {x : dens as} (hz : ∀ b, Z b → b < w.heap.size) (h : RepAs P w Z as vs x) (hd : Dis (mutVals as vs)) : Rel ⟨Z, mset as vs, nMut as, mutB as vs, 0, 0⟩ w (initSt P as x) (initE vs) w Z (mutB as vs) := by
  have hlen := mutVals_len (RepAs.len h)
  have hB : ∀ m u, (mutVals as vs)[m]? = some u → mutB as vs (0 + m) = u := fun m u hm => by simp only [mutB, Nat.zero_add, hm, Option.getD_some]
  have hT := fun k => initT_find (P := P) (w := w) (Z := Z) (B := mutB as vs) (n := nMut as) (U := fun k b => up ⟨Z, mset as vs, nMut as, mutB as vs, 0, 0⟩ w k b) (j := 0) (k := k) h (fun m u hm => ⟨hB m u hm, fun b hb => .inr ⟨by have := el_lt hm; simp only [Nat.zero_add]; omega, ⟨u, List.mem_of_getElem? hm, hb⟩⟩⟩)
  have hS := fun s => initL_find (P := P) (w := w) (Z := Z) (B := mutB as vs) (E := initE vs) (n := nMut as) (i := 0) (j := 0) (s := s) h (Nat.zero_le _) hB (by omega)
  refine ⟨ExtM.of (Ext.refl w), hz, fun s => (hS s).1, fun k => (hT k).1, fun k k' b hne l1 l2 hb => ?_, fun s => (hS s).2, fun k => (hT k).2.1, fun k hk => ?_, fun k => ?_, fun b hb => .inl hb, ⟨rfl, Nat.le_refl _⟩, fun _ _ => rfl, ⟨Nat.zero_le _, fun _ _ _ _ _ => Nat.zero_le _⟩⟩
  · have a1 := ((hT k).2.2 l1).2
    have a2 := ((hT k').2.2 l2).2
    simp only [Nat.sub_zero] at a1 a2
    rcases Nat.lt_or_ge k k' with hlt | hge
    · exact hd.get hlt a1 a2 hb
    · intro hb'
      exact hd.get (by omega : k' < k) a2 a1 hb' hb
  · by_cases hl : live ((initSt P as x).L k)
    · have a1 := ((hT k).2.2 hl).2
      simp only [Nat.sub_zero] at a1
      have := el_lt a1
      have hk : nMut as ≤ k := hk
      omega
    · cases hq : (initSt P as x).L k <;> rw [hq] at hl <;> first | rfl | exact absurd trivial hl
  · simp only [mutB]
    cases hm : (mutVals as vs)[k]? with
    | none => rfl
    | some u => exact mut_one h u (List.mem_of_getElem? hm)
/-- What is shown of the code is enough. -/
theorem meets_of {f : FuncId} {fn : Func} {c : Code} {s : FSpec} (hf : cx.P.funcs[f]? = some fn) (hb : fn.body = some c) (hn : s.args.length ≤ fn.ntmps) (hok : codeOk fn.ntmps c = true) (hty : tysOk cx.P cx.tys = true) (hsp : SpOk cx.P sp)
    (hv : ∀ x, awf s.args x → s.pre x → semF cx sp an s fn.results.toList c x) : Meets cx.P f s := by
  intro w Z vs x hz hre hdis hpre
  have hlen : vs.length = s.args.length := hre.len
  have hsem := hv x hre.awf hpre
  generalize hza : (⟨Z, mset s.args vs, nMut s.args, mutB s.args vs, 0, 0⟩ : Zn) = za
  have hinit := init_ok hz hre hdis
  rw [hza] at hinit
  refine calls_of_go hf hb (by rw [hlen]; exact hn) hok (fun E w' => Nx za w (fin cx s fn.results.toList x) E w') ?_ ⟨fun hok' a hr => ?_⟩
  · rintro E w' tmps ht ⟨st, Z', B', h, hfin⟩
    unfold fin at hfin
    split at hfin
    · rename_i ss hss
      split at hfin
      · rename_i ss1 hss1
        split at hfin
        · rename_i r o hr ho
          obtain ⟨hnd, hpost⟩ := bif_prop hfin
          simp only [Bool.and_eq_true] at hnd
          obtain ⟨Z0, h0⟩ := Rel.settleR (rs := s.res) (ss := ss) h
          obtain ⟨Z1, h1⟩ := Rel.settleM (as := s.args) (j := 0) h0
          obtain ⟨us, g1, g2⟩ := resSV_ok hty h1 ht hss1
          have hres : (results fn tmps).run cx.P w' = .ok (valOf us) w' := by
            have hm : (fn.results.mapM (getR tmps)).run cx.P w' = .ok us.toArray w' := by
              rw [Array.mapM_eq_mapM_toList]
              simp [g1]
            have e : results fn tmps = (do let vs ← fn.results.mapM (getR tmps); pure (if h : vs.size = 1 then vs[0] else .tuple vs)) := by
              unfold results
              congr 1
            rw [e]
            simp only [Sem.run_bind, hm, Result.andThen_ok, Sem.run_pure]
            match us with
            | [] => rfl
            | [u] => rfl
            | u :: u' :: r => rfl
          have hpost' : s.post x r ∧ (hasMut s.args = true → s.mpost x r o) := by
            unfold fin1 at hpost
            cases hm : hasMut s.args with
            | true => simp only [hm, cond_true] at hpost; exact ⟨hpost.1, fun _ => hpost.2⟩
            | false => simp only [hm, cond_false] at hpost; exact ⟨hpost, fun hh => by cases hh⟩
          refine ⟨_, hres, ?_, r, o, us, (fun b => s.shared = true ∧ Z1 b), hpost'.1, hpost'.2, rfl, fun b hb => ?_, ?_, ?_⟩
          · have := h.ext; rw [← hza] at this; exact this
          · rcases h1.zin b hb.2 with hh | hh
            · rw [← hza] at hh; exact .inr ⟨hb.1, hh⟩
            · exact .inl ⟨hh, h1.zlt b hb.2⟩
          · refine (packR_ok h1 (Zn := fun b => s.shared = true ∧ Z1 b) (fun b hb => hb.2) ?_ g2 hr (nodupB_spec hnd.1)).1
            cases hsh : s.shared with
            | true => exact .inl fun b hb => ⟨rfl, hb⟩
            | false => rw [hsh] at hnd; simp only [Bool.false_or, Bool.and_eq_true] at hnd; exact .inr hnd.2.1
          · refine finO_ok (Zn := fun b => s.shared = true ∧ Z1 b) h1 (j := 0) ?_ (fun m u hm => ?_) hlen ho
            · cases hsh : s.shared with
              | true => exact .inl fun b hb => ⟨rfl, hb⟩
              | false => rw [hsh] at hnd; simp only [Bool.false_or, Bool.and_eq_true] at hnd; exact .inr hnd.2.2
            · have hlt := el_lt hm
              rw [mutVals_len hlen] at hlt
              have := h1.bfix m (by rw [← hza]; exact hlt)
              rw [Nat.zero_add, this, ← hza]
              simp only [mutB, hm, Option.getD_some]
        · exact hfin.elim
      · exact hfin.elim
    · exact hfin.elim
  · refine wp_mono (semC_ok hty hsp (by rw [← hza]) hinit hsem hok' a hr) ?_
    rintro e a' w' ⟨E', hr', st', Z', B', h', hq⟩
    refine ⟨E', hr', ?_⟩
    cases e with
    | normal => exact ⟨st', Z', B', h', hq⟩
    | ret => exact ⟨st', Z', B', h', hq⟩
    | _ => exact hq.elim
/-- The same, with the proposition that the kernel has computed. -/
theorem meets_vc {f : FuncId} {fn : Func} {c : Code} {s : FSpec} {vc : dens s.args → Prop} (hf : cx.P.funcs[f]? = some fn) (hb : fn.body = some c) (hn : s.args.length ≤ fn.ntmps) (hok : codeOk fn.ntmps c = true) (hty : tysOk cx.P cx.tys = true) (hsp : SpOk cx.P sp)
    (he : ∀ x, semF cx sp an s fn.results.toList c x = vc x) (hv : ∀ x, awf s.args x → s.pre x → vc x) : Meets cx.P f s :=
  meets_of hf hb hn hok hty hsp fun x hw hp => by rw [he]; exact hv x hw hp
end
end Go.Vc
