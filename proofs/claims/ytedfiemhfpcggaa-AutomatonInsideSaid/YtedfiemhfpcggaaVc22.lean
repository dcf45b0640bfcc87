/- All arguments of a row, opened; and from what a law's function does to the row's words. -/
import Derived.Test.YtedfiemhfpcggaaVc21
namespace Go.Vc
open Go Go.RowKit Go.Gw Go.ChangeShapes Go.WideShapes Go.ChangeAt
def aggB (P : Program) (T : TypeId) (a : Bool) : Bool := match P.underlying T with
  | some (.struct _) => a
  | _ => !a
def argsOk (P : Program) : List TypeId → List AM → Bool
  | [], [] => true
  | T :: ts, .val a ty :: as => isTy P 40 T ty && aggB P T a && argsOk P ts as
  | _, _ => false
section
variable {H : Type} {enc : TypeId × Value → H} {P : Program} {W : World}
theorem open_val {m : Nat} {T : TypeId} {ty : Ty} {a : Bool} {r : Reach} {b0 : Nat} {v : Value} {d : DataW H} {p : List MemPlace} (h : isTy P m T ty = true) (ha : aggB P T a = true) (hv : Value.okWide P W r b0 T v) (hd : DataW.Trod enc P W 0 (fun _ => true) true T v d p) :
    ∃ y, RepV a ty W (fun b => b < W.heap.size) v y := by
  obtain ⟨n, hd⟩ := hd
  obtain ⟨y, hy⟩ := open_ty h hd
  refine ⟨y, ?_⟩
  cases m with
  | zero => cases h
  | succ m =>
    simp only [isTy] at h
    unfold aggB at ha
    split at h
    · rename_i k hu
      simp only [hu, Bool.not_eq_true'] at ha
      obtain ⟨n, rfl⟩ := okWide_int hu hv
      subst ha; exact hy
    · rename_i hu
      simp only [hu, Bool.not_eq_true'] at ha
      obtain ⟨n, rfl⟩ := okWide_bool hu hv
      subst ha; exact hy
    · rename_i hu
      simp only [hu, Bool.not_eq_true'] at ha
      obtain ⟨n, rfl⟩ := okWide_string hu hv
      subst ha; exact hy
    · rename_i e hu
      simp only [hu, Bool.not_eq_true'] at ha
      obtain ⟨x1, x2, x3, rfl⟩ := okWide_slice hu hv
      subst ha; exact hy
    · rename_i fs hu
      simp only [hu] at ha
      obtain ⟨cs, rfl, _⟩ := okWide_struct hu hv
      subst ha
      exact ⟨cs.toList, by simp, hy⟩
    · cases h
theorem open_args {r : Reach} {b0 : Nat} : ∀ {ts : List TypeId} {as : List AM} {vs : List Value} {ds : List (DataW H)} {ps : List MemPlace}, argsOk P ts as = true → DataW.TrodAll enc P W 0 (fun _ => true) true ts vs ds ps → (∀ (j : Nat) (t : TypeId) (v : Value), ts[j]? = some t → vs[j]? = some v → Value.okWide P W r b0 t v) → ∃ x, RepAs P W (fun b => b < W.heap.size) as vs x
  | [], [], vs, ds, ps, _, h, _ => by
    cases vs with
    | nil => exact ⟨(), rfl⟩
    | cons _ _ => cases ds <;> exact h.elim
  | [], _ :: _, _, _, _, h, _, _ => by cases h
  | _ :: _, [], _, _, _, h, _, _ => by cases h
  | T :: ts, .row _ _ :: _, _, _, _, h, _, _ => by cases h
  | T :: ts, .box _ _ :: _, _, _, _, h, _, _ => by cases h
  | T :: ts, .fn _ _ :: _, _, _, _, h, _, _ => by cases h
  | T :: ts, .val a ty :: as, vs, ds, ps, h, hA, hv => by
    simp only [argsOk, Bool.and_eq_true] at h
    obtain ⟨v, vs', d, ds', p, q, rfl, rfl, rfl, h1, h2⟩ := trodAll_cons hA
    obtain ⟨y, hy⟩ := open_val h.1.1 h.1.2 (hv 0 T v rfl rfl) h1
    obtain ⟨z, hz⟩ := open_args h.2 h2 (fun j t u ht hu => hv (j + 1) t u (by simpa using ht) (by simpa using hu))
    exact ⟨(y, z), v, vs', rfl, hy, hz⟩
/-- What a law's function is said to do. -/
def lawSpec (as : List AM) : FSpec := { args := as, res := [.val false .bool], pre := fun _ => True, post := fun _ r => r.1 = true }
theorem law_calls {f : FuncId} {as : List AM} {vs : List Value} {x : dens as} (ha : allVal as = true) (hm : Meets P f (lawSpec as)) (h : RepAs P W (fun b => b < W.heap.size) as vs x) : Gw.Ret P f vs W fun v W' => v = .bool true ∧ Ext W W' := by
  refine (hm W _ vs x (fun _ h => h) h (by show Dis (mutVals as vs); rw [allVal_mut ha]; trivial) trivial).mono fun v w' ⟨hx, r, o, us, Zn, hpost, _, hv, _, hrep, _⟩ => ⟨?_, hx.ext (fun b ⟨u, hu, _⟩ => by rw [show mutVals (lawSpec as).args vs = [] from allVal_mut ha vs] at hu; cases hu)⟩
  obtain ⟨u, us', e, h1, _, h2⟩ := hrep
  rw [show us' = [] from h2] at e
  subst e
  have h1 : [u] = [Value.bool r.1] := h1
  have hr : r.1 = true := hpost
  rw [hr] at h1
  rw [hv]
  simpa [valOf] using h1
theorem spOk_nil : SpOk P [] := fun _ _ h => by cases h
theorem spOk_cons {f : FuncId} {s : FSpec} {l : Specs} (h1 : Meets P f s) (h2 : SpOk P l) : SpOk P ((f, s) :: l) := fun g t h => by
  unfold findO at h
  cases hb : Nat.beq f g with
  | true =>
    rw [hb] at h
    obtain rfl := Nat.eq_of_beq_eq_true hb
    obtain rfl : s = t := by simpa using h
    exact h1
  | false => rw [hb] at h; exact h2 g t h
end
end Go.Vc
