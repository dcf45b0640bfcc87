/- What the pure operations say is so. -/
import Derived.Test.YtedfiemhfpcggaaVc8
namespace Go.Vc
open Go Go.RowKit Go.Gw
section
variable {za : Zn} {w0 w : World} {Z : Nat → Prop} {B : Nat → Value} {st : St} {E : Env} {cx : Cx} {ctx : Ctx} {ty : TypeId} {φ : Option Prop} {d : DV}
theorem mvOp_ok (h : Rel za w0 st E w Z B) (hc : CtxOk E ctx) {x : Operand} (ho : mvOp st ctx x = some (φ, d)) : POk cx.P st E w Z B ty (.move x) d ∧ POk cx.P st E w Z B ty (.assign x) d := by
  unfold mvOp at ho
  cases hv : st.ev ctx x with
  | some s =>
    rw [hv] at ho
    cases ho
    obtain ⟨h1, h2⟩ := h.ev hc hv
    exact ⟨⟨_, fun w' _ => y_move, fun _ => h1, h2⟩, ⟨_, fun w' _ => y_assign, fun _ => h1, h2⟩⟩
  | none =>
    rw [hv] at ho
    cases x with
    | tmp t =>
      simp only at ho
      cases hd : st.S t with
      | tup vs =>
        rw [hd] at ho
        cases ho
        obtain ⟨us, e, h1, h2⟩ := h.tup hd
        exact ⟨⟨_, fun w' _ => y_move, fun _ => ⟨us, e, h1⟩, h2⟩, ⟨_, fun w' _ => y_assign, fun _ => ⟨us, e, h1⟩, h2⟩⟩
      | one _ => rw [hd] at ho; cases ho
      | cnd _ _ _ => rw [hd] at ho; cases ho
      | dead => rw [hd] at ho; cases ho
    | const _ => cases ho
    | global _ => cases ho
    | func _ => cases ho
theorem Rel.c1 (h : Rel za w0 st E w Z B) (hc : CtxOk E ctx) {x : Operand} {c : C} (hx : (st.ev ctx x).bind Vc.c1 = some c) : RC w Z B c (Gw.ev E x) ∧ refC st.nx c := by
  obtain ⟨s, hs, h1⟩ := bind_some.1 hx
  obtain ⟨h2, h3⟩ := h.ev hc hs
  exact c1_ok h2 h3 h1
theorem Rel.int (h : Rel za w0 st E w Z B) (hc : CtxOk E ctx) {x : Operand} {n : Int} (hx : (st.ev ctx x).bind intC = some n) : ∃ k, Gw.ev E x = .int k n ∧ inR k n := by
  obtain ⟨s, hs, h1⟩ := bind_some.1 hx
  exact intC_ok (h.ev hc hs).1 h1
theorem pickOp_ok (h : Rel za w0 st E w Z B) (hc : CtxOk E ctx) {c a b : Operand} (ho : pickOp st ctx c a b = some (φ, d)) : POk cx.P st E w Z B ty (.pick c a b) d := by
  simp only [pickOp, Option.bind_eq_bind, bind_some, Option.map_eq_some_iff] at ho
  obtain ⟨e, ⟨s, hs, he⟩, ca, ⟨sa, hsa, hca⟩, cb, ⟨sb, hsb, hcb⟩, r, hr, heq⟩ := ho
  cases heq
  have hcv : Gw.ev E c = .bool e := boolC_ok (h.ev hc hs).1 he
  have cx1 : ∀ q, e = q → CtxOk E (pctx st q c ++ ctx) := fun q hq t b hm => by
    rcases List.mem_append.1 hm with hm | hm
    · cases c with
      | tmp tc => exact h.gctx (by rw [← hq]; exact hcv) t b hm
      | const _ => cases hm
      | global _ => cases hm
      | func _ => cases hm
    · exact hc t b hm
  have h3 := pickC_ok (w := w) (Z := Z) (B := B) (v1 := Gw.ev E a) (v2 := Gw.ev E b) hr (fun q => (c1_ok (h.ev (cx1 true q) hsa).1 (h.ev (cx1 true q) hsa).2 hca).1) (fun q => (c1_ok (h.ev (cx1 false q) hsb).1 (h.ev (cx1 false q) hsb).2 hcb).1)
  exact pok1 (fun w' _ => y_pick hcv) h3.1 (h3.2 _)
theorem unOpS_ok (h : Rel za w0 st E w Z B) (hc : CtxOk E ctx) {op : UnOp} {T : TypeId} {x : Operand} (ho : unOpS st ctx op x = some (φ, d)) : POk cx.P st E w Z B ty (.unOp op T x) d := by
  simp only [unOpS, Option.bind_eq_bind, bind_some, Option.map_eq_some_iff] at ho
  obtain ⟨c, ⟨s, hs, hcs⟩, r, hr, heq⟩ := ho
  cases heq
  exact un_ok (h.c1 hc (bind_some.2 ⟨s, hs, hcs⟩)).1 hr
theorem y_eqA {P : Program} {T T' ty : TypeId} {x y : Operand} {a : Ty} {u v : a.den} (hT : keyT P T true a = true) (hx : RepV true a w Z (Gw.ev E x) u) (hy : RepV true a w Z (Gw.ev E y) v) (w' : World) : Gw.Yields P E ty (.binOp .eql T x y T') w' (.bool (eqB a u v)) w' ∧ Gw.Yields P E ty (.binOp .neq T x y T') w' (.bool (!(eqB a u v))) w' := by
  have hr := key_equal hT hx hy w'
  have hgt : P.eqGuardType P.depth T = false := by simp only [keyT, Bool.and_eq_true, Bool.not_eq_true'] at hT; exact hT.1.2
  obtain ⟨cs, ex, _⟩ := hx
  obtain ⟨cs', ey, _⟩ := hy
  rw [ex, ey] at hr
  refine ⟨fun _ _ _ _ => ?_, fun _ _ _ _ => ?_⟩
  · have hg : (eqGuard .eql T x y (.agg cs.toArray) (.agg cs'.toArray)).run P w' = .ok () w' := run_eqGuard_agg w' _ _ _ _ _ _ hgt
    simp only [execOp, ex, ey]
    simp [hg, run_eql_struct, hr, Result.andThen]
  · have hg : (eqGuard .neq T x y (.agg cs.toArray) (.agg cs'.toArray)).run P w' = .ok () w' := run_eqGuard_agg w' _ _ _ _ _ _ hgt
    simp only [execOp, ex, ey]
    simp [hg, run_neq_struct, hr, Result.andThen]
theorem binOpS_ok (h : Rel za w0 st E w Z B) (hty : tysOk cx.P cx.tys = true) (hc : CtxOk E ctx) {op : BinOp} {T T' : TypeId} {x y : Operand} (ho : binOpS cx st ctx op T x y = some (φ, d)) (hφ : okP φ) : POk cx.P st E w Z B ty (.binOp op T x y T') d := by
  simp only [binOpS, Option.bind_eq_bind, bind_some] at ho
  obtain ⟨sx, hsx, sy, hsy, ho⟩ := ho
  obtain ⟨hx, rx⟩ := h.ev hc hsx
  obtain ⟨hy, ry⟩ := h.ev hc hsy
  split at ho
  · rename_i a b ha hb
    have hxa := (c1_ok hx rx ha).1
    have hyb := (c1_ok hy ry hb).1
    cases hg : isBoolC a && !(isB cx.P T) with
    | true => simp [hg] at ho
    | false =>
      simp only [hg, cond_false, Option.map_eq_some_iff] at ho
      obtain ⟨r, hr, heq⟩ := ho
      cases heq
      have hT : isB cx.P T = true ∨ ∀ e, a ≠ .val .bool e := by
        cases hbt : isB cx.P T with
        | true => exact .inl rfl
        | false =>
          right; intro e he; subst he
          simp [isBoolC, hbt] at hg
      obtain ⟨v, h1, h2, h3⟩ := binC_ok (P := cx.P) (ty := ty) (T' := T') hr hφ hxa hyb hT
      exact pok1 (fun w' _ => h1 w') h2 (h3 _)
  · simp only [bind_some] at ho
    obtain ⟨ti, hti, a, ha, b, hb, ho⟩ := ho
    obtain ⟨he, ho⟩ : (ti.eq && ti.agg) = true ∧ _ := by
      cases hh : (ti.eq && ti.agg) with
      | false => simp [hh] at ho
      | true => simp only [hh, cond_true] at ho; exact ⟨rfl, ho⟩
    simp only [Bool.and_eq_true] at he
    have h3 := tyOk_eq (tysOk_spec hty hti) he.1
    rw [he.2] at h3
    have h4 := fun w' => y_eqA (P := cx.P) (ty := ty) (T' := T') h3 (packS_ok hx ha) (packS_ok hy hb) w'
    split at ho
    · cases ho; exact pok1 (fun w' _ => (h4 w').1) rfl trivial
    · cases ho; exact pok1 (fun w' _ => (h4 w').2) rfl trivial
    · cases ho
theorem extractOp_ok (h : Rel za w0 st E w Z B) {x : Operand} {i : Nat} (ho : extractOp st x i = some (φ, d)) : POk cx.P st E w Z B ty (.extract x i) d := by
  unfold extractOp at ho
  split at ho
  · rename_i t
    split at ho
    · rename_i vs hd
      simp only [Option.map_eq_some_iff] at ho
      obtain ⟨s, hs, heq⟩ := ho
      cases heq
      obtain ⟨us, e, h1, h2⟩ := h.tup hd
      obtain ⟨v, h3, h4⟩ := RSs.get h1 hs
      exact ⟨v, fun w' _ => y_extract (vs := us.toArray) e (by simpa using h3), fun _ => h4, h2 s (List.mem_of_getElem? hs)⟩
    · cases ho
  · cases ho
theorem fieldAddrOp_ok (h : Rel za w0 st E w Z B) (hty : tysOk cx.P cx.tys = true) (hc : CtxOk E ctx) {T : TypeId} {x : Operand} {f : Nat} (ho : fieldAddrOp cx st ctx T x f = some (φ, d)) : POk cx.P st E w Z B ty (.fieldAddr T x f) d := by
  simp only [fieldAddrOp, Option.bind_eq_bind, bind_some, Option.map_eq_some_iff] at ho
  obtain ⟨ti, hti, q, hq, c, ⟨s, hs, hcs⟩, r, hr, heq⟩ := ho
  cases heq
  have h1 := tyOk_fields (tysOk_spec hty hti) (isEmpty_false_of_get hq)
  have h2 := fieldsOk_get h1.1 hq
  rw [Nat.zero_add] at h2
  have h3 := h.c1 hc (bind_some.2 ⟨s, hs, hcs⟩)
  exact fa_ok h2.1 h3.1 h3.2 hr
theorem fieldOp_ok (h : Rel za w0 st E w Z B) (hty : tysOk cx.P cx.tys = true) (hc : CtxOk E ctx) {T : TypeId} {x : Operand} {f : Nat} (ho : fieldOp cx st ctx T x f = some (φ, d)) : POk cx.P st E w Z B ty (.field T x f) d := by
  simp only [fieldOp, Option.bind_eq_bind, bind_some] at ho
  obtain ⟨ti, hti, q, hq, s, hs, ho⟩ := ho
  obtain ⟨h1, h2⟩ := h.ev hc hs
  have h3 := tyOk_fields (tysOk_spec hty hti) (isEmpty_false_of_get hq)
  have h4 := fieldsOk_get h3.1 hq
  rw [Nat.zero_add] at h4
  obtain ⟨sa, cs⟩ := s
  cases sa with
  | false => simp at ho
  | true =>
    simp only [cond_true, Option.map_eq_some_iff] at ho
    obtain ⟨cs', hcut, heq⟩ := ho
    cases heq
    obtain ⟨vs, e, hvs⟩ := h1
    obtain ⟨h5, h6, h7⟩ := cut_ok hvs hcut
    obtain ⟨hfT, hfA⟩ := h4
    unfold fieldT at hfT
    unfold fieldA at hfA
    split at hfT
    · rename_i fs hu
      simp only [hu] at hfA
      split at hfT
      · rename_i fd hfd
        simp only [hfd] at hfA
        simp only [Bool.and_eq_true, beq_iff_eq] at hfT
        obtain ⟨off, sz, agg⟩ := q
        simp only at hfT hfA h5 h6
        obtain ⟨ho1, _⟩ := hfT
        subst ho1
        cases agg with
        | true =>
          simp only [cond_true] at hfA
          refine ⟨.agg ((vs.drop fd.offset).take sz).toArray, fun w' _ _ _ _ _ => ?_, fun _ => ⟨_, rfl, h5⟩, fun c hc => h2 c (h7 c hc)⟩
          obtain ⟨g1, g2⟩ := run_isAgg_agg (P := cx.P) (w := w') hfA
          simp only [execOp, e]
          simp [Instr.field, run_underlying hu, hfd, asAgg, part, g1, g2, go_sem]
        | false =>
          simp only [cond_false, Bool.and_eq_true] at hfA
          have hsz := Nat.eq_of_beq_eq_true hfA.2
          subst hsz
          match hw : (vs.drop fd.offset).take 1, h5, h6 with
          | [v], h5, _ =>
            have hgv : vs[fd.offset]? = some v := by
              have : ((vs.drop fd.offset).take 1)[0]? = some v := by rw [hw]; rfl
              simpa using this
            refine ⟨v, fun w' _ _ _ _ _ => ?_, fun _ => h5, fun c hc => h2 c (h7 c hc)⟩
            have g1 := run_isAgg_scalar (P := cx.P) (w := w') hfA.1
            simp only [execOp, e]
            simp [Instr.field, run_underlying hu, hfd, asAgg, part, g1, hgv, go_sem]
      · cases hfT
    · cases hfT
theorem loadOp_ok (h : Rel za w0 st E w Z B) (hty : tysOk cx.P cx.tys = true) (hc : CtxOk E ctx) {T : TypeId} {x : Operand} (ho : loadOp cx st ctx T x = some (φ, d)) : POk cx.P st E w Z B ty (.load T x) d := by
  simp only [loadOp, Option.bind_eq_bind, bind_some, Option.map_eq_some_iff] at ho
  obtain ⟨ti, hti, c, ⟨s, hs, hcs⟩, r, hr, heq⟩ := ho
  cases heq
  obtain ⟨h1, h2, _⟩ := tyOk_parts (tysOk_spec hty hti)
  refine load_ok h (h.c1 hc (bind_some.2 ⟨s, hs, hcs⟩)).1 hr ?_
  rcases h2 with ⟨ha, h2⟩ | ⟨ha, h2, h3⟩
  · exact .inl ⟨ha, h2⟩
  · exact .inr ⟨ha, h2, h3⟩
theorem idxOp_ok (h : Rel za w0 st E w Z B) (hty : tysOk cx.P cx.tys = true) (hc : CtxOk E ctx) {T : TypeId} {x ix : Operand} (ho : idxOp cx st ctx T x ix = some (φ, d)) (hφ : okP φ) : POk cx.P st E w Z B ty (.indexAddr T x ix) d := by
  simp only [idxOp, Option.bind_eq_bind, bind_some] at ho
  obtain ⟨ti, hti, c, ⟨s, hs, hcs⟩, i, ⟨si, hsi, hii⟩, r, hr, ho⟩ := ho
  have h1 := h.c1 hc (bind_some.2 ⟨s, hs, hcs⟩)
  obtain ⟨k, h2, _⟩ := h.int hc (bind_some.2 ⟨si, hsi, hii⟩)
  obtain ⟨ψ, c'⟩ := r
  simp only at ho
  split at ho
  · rename_i t t' y off hT
    cases hd : decide (t = t') with
    | false => simp [hd] at ho
    | true =>
      simp only [hd, cond_true] at ho
      cases ho
      have := of_decide_eq_true hd
      subst this
      have h3 := tyOk_sl (tysOk_spec hty hti) hT
      refine idx_ok h h1.1 h2 hr hφ (e := ti.elem) (fun s hh => ?_) h1.2
      rcases hh with ⟨t2, y2, e1, e2⟩ | ⟨_, _, e1⟩
      · cases e1; subst e2; exact h3.1
      · cases e1
  · rename_i t k' sz j off hT
    cases hd : Nat.beq t.size sz with
    | false => simp [hd] at ho
    | true =>
      simp only [hd, cond_true] at ho
      cases ho
      have := Nat.eq_of_beq_eq_true hd
      have h3 := tyOk_sl (tysOk_spec hty hti) hT
      refine idx_ok h h1.1 h2 hr hφ (e := ti.elem) (fun s hh => ?_) h1.2
      rcases hh with ⟨t2, y2, e1, e2⟩ | ⟨_, _, e1⟩
      · cases e1
      · cases e1; rw [← this]; exact h3.1
  · cases ho
theorem optI_ok (h : Rel za w0 st E w Z B) (hc : CtxOk E ctx) {o : Option Operand} {i : Option Int} (hi : optI st ctx o = some i) : OptOk E o i := by
  unfold optI at hi
  cases o with
  | none => cases hi; rfl
  | some o =>
    simp only [Option.map_eq_some_iff] at hi
    obtain ⟨j, hj, rfl⟩ := hi
    obtain ⟨k, h1, _⟩ := h.int hc hj
    exact ⟨k, j, rfl, h1⟩
theorem sliceOp_ok (h : Rel za w0 st E w Z B) (hty : tysOk cx.P cx.tys = true) (hc : CtxOk E ctx) {T : TypeId} {x : Operand} {lo hi : Option Operand} (ho : sliceOp cx st ctx T x lo hi = some (φ, d)) (hφ : okP φ) : POk cx.P st E w Z B ty (.slice T x lo hi none) d := by
  simp only [sliceOp, Option.bind_eq_bind, bind_some] at ho
  obtain ⟨ti, hti, c, ⟨s, hs, hcs⟩, l, hl, hh, hhh, r, hr, ho⟩ := ho
  have h1 := h.c1 hc (bind_some.2 ⟨s, hs, hcs⟩)
  obtain ⟨ψ, c'⟩ := r
  simp only at ho
  split at ho
  · rename_i t t' y hT
    cases hd : decide (t = t') with
    | false => simp [hd] at ho
    | true =>
      simp only [hd, cond_true] at ho
      cases ho
      have := of_decide_eq_true hd
      subst this
      have h3 := tyOk_sl (tysOk_spec hty hti) hT
      refine slice_ok (e := ti.elem) h1.1 hr hφ (optI_ok h hc hl) (optI_ok h hc hhh) (fun t2 y2 e2 => ?_)
      cases e2; exact h3.1
  · cases ho
theorem convOp_ok (h : Rel za w0 st E w Z B) (hty : tysOk cx.P cx.tys = true) (hc : CtxOk E ctx) {T T' : TypeId} {x : Operand} (ho : convOp cx st ctx T T' x = some (φ, d)) : POk cx.P st E w Z B ty (.convert T T' x) d := by
  simp only [convOp, Option.bind_eq_bind, bind_some] at ho
  obtain ⟨ti, hti, ti', hti', c, ⟨s, hs, hcs⟩, ho⟩ := ho
  have h1 := h.c1 hc (bind_some.2 ⟨s, hs, hcs⟩)
  split at ho
  · rename_i k k' k'' a hT hT'
    cases ho
    exact conv_ok h1.1 ⟨_, intT_spec (tyOk_int (tysOk_spec hty hti) hT)⟩ (tyOk_int (tysOk_spec hty hti') hT')
  · cases ho
theorem buildOp_ok (h : Rel za w0 st E w Z B) (hty : tysOk cx.P cx.tys = true) (hc : CtxOk E ctx) {T : TypeId} {parts : List (Nat × Operand)} (ho : buildOp cx st ctx T parts = some (φ, d)) : POk cx.P st E w Z B ty (.build T parts.toArray) d := by
  simp only [buildOp, Option.bind_eq_bind, bind_some] at ho
  obtain ⟨ti, hti, l, hl, ho⟩ := ho
  have h1 := tysOk_spec hty hti
  cases he : ti.fields.isEmpty with
  | true =>
    simp only [he, cond_true, bind_some] at ho
    obtain ⟨te, hte, ho⟩ := ho
    cases ha : Nat.beq ti.arr 0 with
    | true => simp [ha] at ho
    | false =>
      simp only [ha, cond_false, Option.map_eq_some_iff] at ho
      obtain ⟨cs, hcs, heq⟩ := ho
      cases heq
      exact build_arr_ok h hc (tyOk_parts h1).2.2 (tyOk_arr h1 ha) (tyOk_parts (tysOk_spec hty hte)).1 hl hcs
  | false =>
    simp only [he, cond_false, Option.map_eq_some_iff] at ho
    obtain ⟨cs, hcs, heq⟩ := ho
    cases heq
    exact build_ok h hc (tyOk_parts h1).2.2 (tyOk_fields h1 he).2 hl hcs
theorem valsOf_ok {t : Ty} : ∀ {cs : List C} {vs : List Value} {xs : List t.den}, RCs w Z B cs vs → valsOf t cs = some xs → xs.length = vs.length ∧ ∀ (i : Nat) (x : t.den), xs[i]? = some x → ∃ v, vs[i]? = some v ∧ Rep t w Z [v] x
  | [], vs, xs, h, hv => by cases hv; rw [show vs = [] from h]; exact ⟨rfl, fun i x hi => by simp at hi⟩
  | c :: cs, vs, xs, ⟨v, vs', e, h1, h2⟩, hv => by
    simp only [valsOf, bind_some, Option.map_eq_some_iff] at hv
    obtain ⟨x, hx, r, hr, rfl⟩ := hv
    obtain ⟨h3, h4⟩ := valsOf_ok h2 hr
    subst e
    refine ⟨by simp [h3], fun i y hi => ?_⟩
    cases i with
    | zero => simp at hi; subst hi; exact ⟨v, rfl, asTy_ok h1 hx⟩
    | succ i => simp at hi; obtain ⟨u, h5, h6⟩ := h4 i y hi; exact ⟨u, by simpa using h5, h6⟩
theorem indexOp_ok (h : Rel za w0 st E w Z B) (hty : tysOk cx.P cx.tys = true) (hc : CtxOk E ctx) {T : TypeId} {x ix : Operand} (ho : indexOp cx st ctx T x ix = some (φ, d)) (hφ : okP φ) : POk cx.P st E w Z B ty (.index T x ix) d := by
  simp only [indexOp, Option.bind_eq_bind, bind_some] at ho
  obtain ⟨ti, hti, te, hte, s, hs, i, ⟨si, hsi, hii⟩, vs, hvs, ho⟩ := ho
  have h1 := tysOk_spec hty hti
  have h2 := tysOk_spec hty hte
  obtain ⟨k0, hiv, _⟩ := h.int hc (bind_some.2 ⟨si, hsi, hii⟩)
  obtain ⟨hx, _⟩ := h.ev hc hs
  obtain ⟨sa, cs⟩ := s
  cases hg : (sa && !te.agg && !(Nat.beq ti.arr 0) && Nat.beq te.ty.size 1 && Nat.beq vs.length ti.arr) with
  | false => simp only [hg, cond_false] at ho; cases ho
  | true =>
    simp only [hg, cond_true] at ho
    simp only [Bool.and_eq_true, Bool.not_eq_true'] at hg
    obtain ⟨⟨⟨⟨rfl, g2⟩, g3⟩, g4⟩, g5⟩ := hg
    obtain ⟨us, e, hus⟩ := hx
    obtain ⟨h3, h4⟩ := valsOf_ok hus hvs
    have harr := tyOk_arr h1 g3
    have hlen := Nat.eq_of_beq_eq_true g5
    have hsc : scalarT cx.P ti.elem = true := by
      rcases (tyOk_parts h2).2.1 with ⟨ha, _⟩ | ⟨_, hs, _⟩
      · rw [ha] at g2; cases g2
      · exact hs
    have hsz : sizeT cx.P ti.elem 1 = true := by have := (tyOk_parts h2).1; rwa [Nat.eq_of_beq_eq_true g4] at this
    have main : ∀ (dd : te.ty.den), 0 ≤ i ∧ i < (vs.length : Int) → ∃ v, us[i.toNat]? = some v ∧ Rep te.ty w Z [v] (gx dd vs i) ∧ ∀ w', Gw.Yields cx.P E ty (.index T x ix) w' v w' := fun dd hb => by
      obtain ⟨v, hv, hrep⟩ := h4 i.toNat _ (gx_get (d := dd) hb.1 hb.2)
      refine ⟨v, hv, hrep, fun w' => ?_⟩
      exact y_index_arr (cs := us.toArray) e hiv harr hsc hsz hb.1 (by rw [← hlen]; exact hb.2) (by simpa using hv)
    split at ho
    · rename_i k vs' hT hvs'
      cases ho
      have main' := main
      clear main
      generalize hq : te.ty = q at *
      subst hT
      cases hvs'
      obtain ⟨v, _, h6, h7⟩ := main' 0 hφ
      exact pok1 (fun w' _ => h7 w') h6 trivial
    · rename_i vs' hT hvs'
      cases ho
      have main' := main
      clear main
      generalize hq : te.ty = q at *
      subst hT
      cases hvs'
      obtain ⟨v, _, h6, h7⟩ := main' false hφ
      exact pok1 (fun w' _ => h7 w') h6 trivial
    · cases ho
/-- What is known of a map that is read. -/
theorem mapC_ok (h : Rel za w0 st E w Z B) {ka va : Bool} {kt vt : Ty} {c : C} {v : Value} {es : List (kt.den × vt.den)} (hc : RC w Z B c v) (hm : mapC st ka kt va vt c = some es) :
    (v = .map none ∧ es = []) ∨ ∃ b ents cl, v = .map (some b) ∧ b < w.heap.size ∧ w.heap[b]? = some (.map ents cl) ∧ Ents w Z ka kt va vt ents.toList es := by
  unfold mapC at hm
  split at hm
  · rename_i k
    split at hm
    · rename_i ka' kt' va' vt' es' hk
      split at hm
      · rename_i hh
        have h1 := h.locs k
        rw [hk] at h1
        obtain ⟨b, ents, cl, e, _, _, hb, he⟩ := h1
        cases hh
        cases hm
        exact .inr ⟨b, ents, cl, (show v = _ from hc).trans e, (Array.getElem?_eq_some_iff.1 hb).1, hb, he⟩
      · cases hm
    · cases hm
  · rename_i t es'
    split at hm
    · rename_i hh
      subst hh
      cases hm
      rcases hc with ⟨e, hn⟩ | ⟨b, ents, cl, e, hb, hh, he⟩
      · simp only [List.cons.injEq, and_true] at e; exact .inl ⟨e, hn⟩
      · simp only [List.cons.injEq, and_true] at e; exact .inr ⟨b, ents, cl, e, h.zlt b hb, hh, he⟩
    · cases hm
  · cases hm; exact .inl ⟨hc.1, rfl⟩
  · cases hm
theorem ents_find {κ : Ty} {ν : Type} {Rk : Value → κ.den → Prop} {Rv : Value → ν → Prop} {k : κ.den} : ∀ {l : List (κ.den × ν)} {es : List MapEntry} {i : Nat}, EntsR Rk Rv es l → (mfindI κ k l i = none ∧ mfind κ k l = none) ∨ ∃ j e y, mfindI κ k l i = some (i + j) ∧ es[j]? = some e ∧ mfind κ k l = some y ∧ Rv e.val y ∧ Rk e.key ((l[j]?).map (·.1) |>.getD k) ∧ eqB κ k ((l[j]?).map (·.1) |>.getD k) = true
  | [], _, _, _ => .inl ⟨rfl, rfl⟩
  | x :: l, _, i, ⟨e, es', he, h1, h2, h3⟩ => by
    subst he
    simp only [mfindI, mfind]
    cases hb : eqB κ k x.1 with
    | true => exact .inr ⟨0, e, x.2, rfl, rfl, rfl, h2, h1, hb⟩
    | false =>
      rcases ents_find (i := i + 1) h3 with ⟨g1, g2⟩ | ⟨j, e', y, g1, g2, g3, g4, g5⟩
      · exact .inl ⟨g1, g2⟩
      · exact .inr ⟨j + 1, e', y, by rw [cond_false, g1, Nat.add_assoc, Nat.add_comm 1 j], by simpa using g2, g3, g4, by simpa using g5⟩
theorem zero_run {P : Program} {T : TypeId} {z : Value} (h : zeroT P T = some z) (w' : World) : (zeroValue T).run P w' = .ok z w' := by
  unfold zeroT at h
  cases hi : P.info? T with
  | none => simp [hi] at h
  | some i => simp only [hi, Option.bind_some] at h; simp [zeroValue, typeInfo, hi, h]
theorem lookupOp_ok (h : Rel za w0 st E w Z B) (hty : tysOk cx.P cx.tys = true) (hc : CtxOk E ctx) {T : TypeId} {x ix : Operand} {ck : Bool} (ho : lookupOp cx st ctx T x ix ck = some (φ, d)) : POk cx.P st E w Z B ty (.lookup T x ix ck) d := by
  simp only [lookupOp, Option.bind_eq_bind, bind_some] at ho
  obtain ⟨ti, hti, c, ⟨s, hs, hcs⟩, sk, hsk, ho⟩ := ho
  have h1 := h.c1 hc (bind_some.2 ⟨s, hs, hcs⟩)
  obtain ⟨h2, _⟩ := h.ev hc hsk
  split at ho
  · rename_i ka kt va vt hT
    simp only [bind_some] at ho
    obtain ⟨es, hes, k, hk, ho⟩ := ho
    obtain ⟨hnp, ho⟩ : noPtr vt = true ∧ _ := by
      cases hh : noPtr vt with
      | false => simp [hh] at ho
      | true => simp only [hh, cond_true] at ho; exact ⟨rfl, ho⟩
    obtain ⟨hu, hkt, hz, hva⟩ := tyOk_mp (tysOk_spec hty hti) hT
    have hkey := packS_ok h2 hk
    obtain ⟨z, hz1, hz2⟩ := zeroOk_spec hz
    have hzr : RepV va vt w Z z vt.dflt := by
      have hzz := zero_rep (w := w) (Z := Z) hnp
      rw [← hz2] at hzz
      unfold zeroForm at hva
      rw [hz1] at hva
      cases z with
      | agg cs => cases va <;> simp at hva; exact ⟨cs.toList, by simp, hzz⟩
      | tuple _ => simp at hva
      | _ => cases va <;> simp at hva <;> exact hzz
    have main : ∃ u ok, (∀ w', Ext w w' → (Instr.lookup T (Gw.ev E x) (Gw.ev E ix) ck).run cx.P w' = .ok (if ck then .tuple #[u, .bool ok] else u) w') ∧ RepV va vt w Z u ((mfind kt k es).getD vt.dflt) ∧ ok = (mfind kt k es).isSome := by
      rcases mapC_ok h h1.1 hes with ⟨e, hn⟩ | ⟨b, ents, cl, e, hlt, hb, he⟩
      · refine ⟨z, false, fun w' _ => ?_, by rw [hn]; exact hzr, by rw [hn]; rfl⟩
        have hck := fun em => key_check hkt hkey w' em
        have hfk := key_find (Rv := fun _ (_ : vt.den) => True) hkt hkey w' (l := []) (es := []) rfl
        unfold Instr.lookup
        simp only [Sem.run_bind, run_underlying hu, Result.andThen_ok, e, Sem.run_pure, hck, hfk, mfindI, Option.bind_none, zero_run hz1]
      · rcases ents_find (k := k) (i := 0) he with ⟨g1, g2⟩ | ⟨j, en, y, g1, g2, g3, g4, _⟩
        · refine ⟨z, false, fun w' hx => ?_, by rw [g2]; exact hzr, by rw [g2]; rfl⟩
          have hck := fun em => key_check hkt hkey w' em
          have hfk := key_find hkt hkey w' he
          have hgo : (getObj b).run cx.P w' = .ok (.map ents cl) w' := by simp [getObj, Sem.run, hx.block b hlt, hb]
          unfold Instr.lookup
          simp only [Sem.run_bind, run_underlying hu, Result.andThen_ok, e, Sem.run_pure, hgo, hck, hfk, g1, Option.bind_none, zero_run hz1]
        · refine ⟨en.val, true, fun w' hx => ?_, by rw [g3]; exact g4, by rw [g3]; rfl⟩
          have hck := fun em => key_check hkt hkey w' em
          have hfk := key_find hkt hkey w' he
          have hgo : (getObj b).run cx.P w' = .ok (.map ents cl) w' := by simp [getObj, Sem.run, hx.block b hlt, hb]
          rw [Nat.zero_add] at g1
          unfold Instr.lookup
          simp only [Sem.run_bind, run_underlying hu, Result.andThen_ok, e, Sem.run_pure, hgo, hck, hfk, g1, Option.bind_some, g2, Option.map_some]
    obtain ⟨u, ok, h3, h4, h5⟩ := main
    cases ck with
    | true =>
      simp only [cond_true] at ho
      cases ho
      refine ⟨.tuple #[u, .bool ok], fun w' hx => fun _ _ _ _ => ?_, fun E' => ⟨[u, .bool ok], rfl, u, _, rfl, RepV.explode h4, _, _, rfl, ⟨_, [], rfl, by rw [h5]; rfl, rfl⟩, rfl⟩, fun s hs => ?_⟩
      · simp [execOp, h3 w' (hx rfl)]
      · simp at hs
        rcases hs with rfl | rfl
        · exact explode_ref
        · intro c hc; simp at hc; subst hc; trivial
    | false =>
      simp only [cond_false] at ho
      cases ho
      refine ⟨u, fun w' hx => fun _ _ _ _ => ?_, fun E' => RepV.explode h4, explode_ref⟩
      simp [execOp, h3 w' (hx rfl)]
  · cases ho
theorem mkfOp_ok (h : Rel za w0 st E w Z B) (hc : CtxOk E ctx) {fn : Fn} {first caps : List Operand} (ho : mkfOp st ctx fn first caps = some (φ, d)) : POk cx.P st E w Z B ty (.makeFunc fn first.toArray caps.toArray) d := by
  unfold mkfOp at ho
  split at ho
  · simp only [Option.bind_eq_bind, bind_some] at ho
    obtain ⟨ss, hss, ks, hks, ho⟩ := ho
    cases ho
    exact mkf_ok h hc hss hks
  · cases ho
theorem maxmin_inR {k : IntKind} {a b : Int} (ha : inR k a) (hb : inR k b) : inR k (max a b) ∧ inR k (min a b) := by unfold inR at *; omega
theorem RC.int {k : IntKind} {a : Int} {v : Value} (h : RC w Z B (.val (.int k) a) v) : v = .int k a ∧ inR k a := by
  obtain ⟨h1, h2⟩ := h
  simp only [List.cons.injEq, and_true] at h1
  exact ⟨h1, h2⟩
theorem builtinOp_ok (h : Rel za w0 st E w Z B) (hty : tysOk cx.P cx.tys = true) (hc : CtxOk E ctx) {b : Builtin} {args : List Operand} {ts : List TypeId} (ho : builtinOp cx st ctx b args ts = some (φ, d)) : POk cx.P st E w Z B ty (.call ⟨.builtin b, args.toArray, ts.toArray⟩) d := by
  unfold builtinOp at ho
  split at ho
  · simp only [Option.bind_eq_bind, bind_some] at ho
    obtain ⟨ti, hti, c, ⟨s, hs, hcs⟩, n, hn, ho⟩ := ho
    have h1 := h.c1 hc (bind_some.2 ⟨s, hs, hcs⟩)
    split at ho
    · cases ho
    · rename_i t hT hm
      cases ho
      refine len_ok h h1.1 hn (tyOk_sl (tysOk_spec hty hti) hT).1 (fun k hk => ?_)
      subst hk
      exact hm _ rfl
    · cases ho
  · simp only [Option.bind_eq_bind, bind_some] at ho
    obtain ⟨c, ⟨s, hs, hcs⟩, c', ⟨s', hs', hcs'⟩, ho⟩ := ho
    have h1 := h.c1 hc (bind_some.2 ⟨s, hs, hcs⟩)
    have h2 := h.c1 hc (bind_some.2 ⟨s', hs', hcs'⟩)
    split at ho
    · rename_i k a k' b
      cases hd : decide (k = k') with
      | false => simp [hd] at ho
      | true =>
        simp only [hd, cond_true] at ho
        cases ho
        have := of_decide_eq_true hd
        subst this
        have g1 := RC.int h1.1; have g2 := RC.int h2.1
        exact pok1 (fun w' _ => y_max2 g1.1 g2.1) ⟨rfl, (maxmin_inR g1.2 g2.2).1⟩ trivial
    · cases ho
  · simp only [Option.bind_eq_bind, bind_some] at ho
    obtain ⟨c, ⟨s, hs, hcs⟩, c', ⟨s', hs', hcs'⟩, ho⟩ := ho
    have h1 := h.c1 hc (bind_some.2 ⟨s, hs, hcs⟩)
    have h2 := h.c1 hc (bind_some.2 ⟨s', hs', hcs'⟩)
    split at ho
    · rename_i k a k' b
      cases hd : decide (k = k') with
      | false => simp [hd] at ho
      | true =>
        simp only [hd, cond_true] at ho
        cases ho
        have := of_decide_eq_true hd
        subst this
        have g1 := RC.int h1.1; have g2 := RC.int h2.1
        exact pok1 (fun w' _ => y_min2 g1.1 g2.1) ⟨rfl, (maxmin_inR g1.2 g2.2).2⟩ trivial
    · cases ho
  · simp only [Option.bind_eq_bind, bind_some] at ho
    obtain ⟨c, ⟨s, hs, hcs⟩, c', ⟨s', hs', hcs'⟩, c'', ⟨s'', hs'', hcs''⟩, ho⟩ := ho
    have h1 := h.c1 hc (bind_some.2 ⟨s, hs, hcs⟩)
    have h2 := h.c1 hc (bind_some.2 ⟨s', hs', hcs'⟩)
    have h3 := h.c1 hc (bind_some.2 ⟨s'', hs'', hcs''⟩)
    split at ho
    · rename_i k a k' b k'' c
      cases hd : decide (k = k') && decide (k = k'') with
      | false => simp only [hd, cond_false] at ho; cases ho
      | true =>
        simp only [hd, cond_true] at ho
        cases ho
        simp only [Bool.and_eq_true, decide_eq_true_eq] at hd
        obtain ⟨rfl, rfl⟩ := hd
        have g1 := RC.int h1.1; have g2 := RC.int h2.1; have g3 := RC.int h3.1
        exact pok1 (fun w' _ => y_max3 g1.1 g2.1 g3.1) ⟨rfl, (maxmin_inR (maxmin_inR g1.2 g2.2).1 g3.2).1⟩ trivial
    · cases ho
  · cases ho
theorem pureOp_ok (h : Rel za w0 st E w Z B) (hty : tysOk cx.P cx.tys = true) (hc : CtxOk E ctx) {op : Op} (ho : pureOp cx st ctx op = some (φ, d)) (hφ : okP φ) : POk cx.P st E w Z B ty op d := by
  unfold pureOp at ho
  split at ho
  · exact (mvOp_ok h hc ho).1
  · exact (mvOp_ok h hc ho).2
  · exact pickOp_ok h hc ho
  · exact unOpS_ok h hc ho
  · exact binOpS_ok h hty hc ho hφ
  · exact extractOp_ok h ho
  · exact fieldAddrOp_ok h hty hc ho
  · exact fieldOp_ok h hty hc ho
  · exact loadOp_ok h hty hc ho
  · exact idxOp_ok h hty hc ho hφ
  · exact indexOp_ok h hty hc ho hφ
  · exact lookupOp_ok h hty hc ho
  · exact sliceOp_ok h hty hc ho hφ
  · exact convOp_ok h hty hc ho
  · rename_i T parts
    have := buildOp_ok (ty := ty) h hty hc ho
    simpa using this
  · have := mkfOp_ok (cx := cx) (ty := ty) h hc ho
    simpa using this
  · have := builtinOp_ok (ty := ty) h hty hc ho
    simpa using this
  · cases ho
end
end Go.Vc
