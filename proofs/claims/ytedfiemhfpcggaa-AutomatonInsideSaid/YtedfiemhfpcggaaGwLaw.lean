/- From a walk that returns true to a row 'for every input the law returns true'. -/
import Derived.Test.YtedfiemhfpcggaaGwMap
import Derived.WalkKit
import Derived.ProofKit
import Derived.OpenShut
import Derived.Carry
import Derived.ChangeSlices
import Derived.ChangeSame
namespace Go.Gw
open Go Go.RowKit Go.ChangeShapes Go.WideShapes Go.ChangeAt
theorem wf_i64_bd {n : Int} (h : (Lit.int .i64 n).wf = true) : -9223372036854775808 ≤ n ∧ n ≤ 9223372036854775807 := by
  simp only [Lit.wf, Bool.and_eq_true, decide_eq_true_eq] at h
  have h1 : IntKind.i64.min = -9223372036854775808 := by decide
  have h2 : IntKind.i64.max = 9223372036854775807 := by decide
  omega
section
variable {H : Type} {enc : TypeId × Value → H} {P : Program}
/-- All arguments read behind the call as they did before. -/
theorem trodAll_stays (hl : laidOutB P = true) {W W' : World} {sp : Nat → Bool} (hb : Ext W W') : ∀ (ts : List TypeId) (vs : List Value) (ds : List (DataW H)) (ps : List MemPlace),
    (∀ t ∈ ts, P.readableRec t = true ∧ t < P.types.size) → DataW.TrodAll enc P W 0 (fun _ => true) true ts vs ds ps → (∀ x ∈ ps, x.block < W.heap.size) → (∀ x ∈ ps, sp x.block = true) → DataW.TrodAll enc P W' 0 sp true ts vs ds ps
  | [], vs, ds, ps, _, h, _, _ => by
    cases vs <;> cases ds <;> simp [DataW.TrodAll] at h ⊢
    exact h
  | t :: ts, vs, ds, ps, ht, h, hlt, hsp => by
    obtain ⟨v, vs', d, ds', p, q, rfl, rfl, rfl, h1, h2⟩ := trodAll_cons h
    refine trodAll_cons_mk ?_ (trodAll_stays hl hb ts vs' ds' q (fun x hx => ht x (by simp [hx])) h2 (fun x hx => hlt x (by simp [hx])) (fun x hx => hsp x (by simp [hx])))
    exact WideElems.Trod_stays hl (ht t (by simp)).1 (ht t (by simp)).2 h1 (fun x hx => hb.same (hlt x (by simp [hx]))) (fun x hx => hsp x (by simp [hx]))
/-- The row's post for a law. -/
theorem post_law (hl : laidOutB P = true) {f : Func} {s : ChangeSpec} {W W' : World} {args : Array Value} {ds gs : List (DataW H)} {before : List MemPlace} {tb : TypeId}
    (hW : DataW.Whole enc P f.params.toList s.vars false W args.toList ds gs before) (hv : s.vars = []) (hres : f.resultTypes = #[tb]) (htb : P.underlying tb = some .bool)
    (hfn : s.fn H ds = { results := [.lit (.bool true)], args := ds }) (hr : ∀ t ∈ f.params.toList, P.readableRec t = true ∧ t < P.types.size) (hb : Ext W W') :
    s.post enc P f false true false false W args (.bool true) W' := by
  have hlt : ∀ p ∈ before, p.block < W.heap.size := fun p hp => hW.lt p hp
  have hW0 := hW
  obtain ⟨p, q, hA, hV, hpq, _, _⟩ := hW
  rw [hv] at hV
  obtain ⟨rfl, rfl⟩ := trodVars_none hV
  rw [List.append_nil] at hpq
  subst hpq
  refine ⟨ds, [], before, [], before, [], hW0, ?_, ?_, ?_, ?_, fun h => by cases h⟩
  · rw [List.append_nil, hfn, hres]
    exact trodAll_mk1 (shut_bool htb _)
  · rw [List.append_nil, hfn]
    exact trodAll_stays hl hb _ _ _ _ hr hA hlt (fun x hx => by simpa using hlt x hx)
  · rw [List.append_nil, hfn, hv]
    rfl
  · refine World.keptBut_mono ?_ (hb.frame (· ∈ before))
    intro x hx
    exact ⟨hx, .inr (.inl hx)⟩
theorem field_trod {W : World} {base n : Nat} {spare : Nat → Bool} {held : Bool} {cs : List Value} {fs : Array Field} {xs : List (DataW H × List MemPlace)}
    (hx : ∀ (i : Nat) (f : Field), fs[i]? = some f → DataW.trod enc P W base spare held n f.type ((cs.drop f.offset).take (P.cellsOf f.type)) = xs[i]?) (i T off sz : Nat) (x : DataW H × List MemPlace) (c : List Value)
    (hf : (fs[i]?).map (fun f => (f.type, f.offset)) = some (T, off)) (hsz : P.cellsOf T = sz) (hxi : xs[i]? = some x) (hc : (cs.drop off).take sz = c) : DataW.trod enc P W base spare held n T c = some x := by
  cases h : fs[i]? with
  | none => simp [h] at hf
  | some f =>
    simp [h] at hf
    have := hx i f h
    rw [hf.1, hf.2, hsz, hxi, hc] at this
    exact this
/-- A field of ints, opened. -/
theorem slr_ints {W : World} {t e : TypeId} {fuel : Nat} {cs : List Value} {x : DataW H × List MemPlace} (ht : P.underlying t = some (.slice e)) (he : P.underlying e = some (.int .i64)) (hc : P.cellsOf e = 1)
    (h : DataW.trod enc P W 0 (fun _ => true) true fuel t cs = some x) : ∃ v l, cs = [v] ∧ SlR W 1 (fun i : Int => [.int .i64 i]) v l ∧ l.length ≤ 9223372036854775807 ∧ ∀ n ∈ l, -9223372036854775808 ≤ n ∧ n ≤ 9223372036854775807 := by
  rcases open_ints ht he hc h with ⟨rfl, _⟩ | ⟨a, len, cap, zs, rfl, _, hlc, hcm, hzl, _, hcell, hwf⟩
  · exact ⟨_, [], rfl, SlR.nil _ _ _, by simp, by simp⟩
  · simp only [if_true] at hzl
    have hll : (zs.take len).length = len := by rw [List.length_take]; omega
    simp only [maxLen] at hcm
    refine ⟨_, zs.take len, rfl, ?_, by rw [hll]; omega, fun n hn => wf_i64_bd (hwf n (List.mem_of_mem_take hn))⟩
    by_cases h0 : len = 0
    · subst h0; exact .inl ⟨_, _, rfl, by simp⟩
    · have hsp : a.spot = none := by
        have h1 := hcell 0 (by omega)
        have : a.add 0 = a := by simp [Addr.add]
        rw [this] at h1
        unfold World.cell? at h1
        split at h1
        · cases hs : a.spot with
          | none => rfl
          | some _ => simp [hs] at h1
        · cases h1
      obtain ⟨b, o, sp⟩ := a
      simp only at hsp
      subst hsp
      refine .inr ⟨b, o, cap, by rw [hll], by rw [hll]; exact hlc, fun i n hi j u hu => ?_⟩
      have hilt := el_lt hi
      rw [hll] at hilt
      have hj : j = 0 := by have := el_lt hu; simp at this; exact this
      subst hj
      simp at hu
      subst hu
      have h1 := hcell i (by omega)
      rw [add_lit] at h1
      rw [add_lit, Nat.mul_one, Nat.add_zero, h1]
      have : zs.getD i 0 = n := by
        rw [List.getElem?_take, if_pos hilt] at hi
        rw [List.getD_eq_getElem?_getD, hi]; rfl
      rw [this]
end
end Go.Gw
