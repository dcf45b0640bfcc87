/- Equality of flat values and keys of maps. -/
import Derived.Test.YtedfiemhfpcggaaVc2
import Derived.DeepKeys3
namespace Go.Vc
open Go Go.RowKit Go.Gw

def isFs (P : Program) (r : TypeId → Ty → Bool) : List Field → Nat → Ty → Bool
  | [], _, .unit => true
  | [f], off, ty => Nat.beq f.offset off && r f.type ty && Nat.beq (P.cellsOf f.type) ty.size
  | f :: g :: fs, off, .pair a b => Nat.beq f.offset off && r f.type a && Nat.beq (P.cellsOf f.type) a.size && isFs P r (g :: fs) (off + a.size) b
  | _, _, _ => false
def isAr (r : Ty → Bool) (sz : Nat) : Nat → Ty → Bool
  | 0, .unit => true
  | 1, ty => r ty && Nat.beq ty.size sz
  | n + 2, .pair a b => r a && Nat.beq a.size sz && isAr r sz (n + 1) b
  | _, _ => false
/-- The type T is the flat type ty. -/
def flTy (P : Program) : Nat → TypeId → Ty → Bool
  | 0, _, _ => false
  | n + 1, T, ty => match P.underlying T with
    | some (.int k) => (match ty with | .int k' => decide (k = k') | _ => false)
    | some .bool => (match ty with | .bool => true | _ => false)
    | some (.struct fs) => isFs P (flTy P n) fs.toList 0 ty && Nat.beq (P.cellsOf T) ty.size && fs.all (·.name != "_")
    | some (.array m e) => isAr (flTy P n e) (P.cellsOf e) m ty && Nat.beq (P.cellsOf T) ty.size
    | _ => false
def lits : (t : Ty) → t.den → List Lit
  | .int k, n => [.int k n]
  | .bool, b => [.bool b]
  | .pair a b, x => lits a x.1 ++ lits b x.2
  | _, _ => []
/-- Types of ints and bools alone. -/
def plainT : Ty → Bool
  | .int _ => true
  | .bool => true
  | .unit => true
  | .pair a b => plainT a && plainT b
  | _ => false
/-- Are two flat values equal? -/
def eqB : (t : Ty) → t.den → t.den → Bool
  | .int _, a, b => decide ((show Int from a) = b)
  | .bool, a, b => (show Bool from a) == b
  | .pair a b, x, y => eqB a x.1 y.1 && eqB b x.2 y.2
  | _, _, _ => true
theorem lits_len : ∀ {t : Ty} {x y : t.den}, (lits t x).length = (lits t y).length
  | .int _, _, _ => rfl
  | .bool, _, _ => rfl
  | .pair a b, x, y => by simp only [lits, List.length_append]; rw [lits_len (t := a) (x := x.1) (y := y.1), lits_len (t := b) (x := x.2) (y := y.2)]
  | .str, _, _ => rfl
  | .unit, _, _ => rfl
  | .sl _, _, _ => rfl
  | .ptr _, _, _ => rfl
  | .mp _ _ _ _, _, _ => rfl
theorem lits_inj : ∀ {t : Ty} {x y : t.den}, plainT t = true → (lits t x = lits t y ↔ x = y)
  | .int _, x, y, _ => by simp [lits]
  | .bool, x, y, _ => by simp [lits]
  | .unit, x, y, _ => by simp [lits]
  | .pair a b, x, y, h => by
    simp only [plainT, Bool.and_eq_true] at h
    simp only [lits]
    constructor
    · intro e
      have := List.append_inj e lits_len
      exact Prod.ext ((lits_inj h.1).1 this.1) ((lits_inj h.2).1 this.2)
    · rintro rfl; rfl
  | .str, _, _, h => by cases h
  | .sl _, _, _, h => by cases h
  | .ptr _, _, _, h => by cases h
  | .mp _ _ _ _, _, _, h => by cases h
theorem eqB_iff : ∀ {t : Ty} {x y : t.den}, plainT t = true → (eqB t x y = true ↔ x = y)
  | .int _, x, y, _ => by simp [eqB]
  | .bool, x, y, _ => by simp [eqB]
  | .unit, x, y, _ => by simp [eqB]
  | .pair a b, x, y, h => by
    simp only [plainT, Bool.and_eq_true] at h
    simp only [eqB, Bool.and_eq_true, eqB_iff h.1, eqB_iff h.2]
    exact ⟨fun ⟨a, b⟩ => Prod.ext a b, fun e => by rw [e]; exact ⟨rfl, rfl⟩⟩
  | .str, _, _, h => by cases h
  | .sl _, _, _, h => by cases h
  | .ptr _, _, _, h => by cases h
  | .mp _ _ _ _, _, _, h => by cases h
theorem plain_cells : ∀ {t : Ty} {w w' : World} {Z Z' : Nat → Prop} {cs cs' : List Value} {x : t.den}, plainT t = true → Rep t w Z cs x → Rep t w' Z' cs' x → cs = cs'
  | .int _, _, _, _, _, _, _, _, _, h, h' => h.1.trans h'.1.symm
  | .bool, _, _, _, _, _, _, _, _, h, h' => (show _ = _ from h).trans (show _ = _ from h').symm
  | .unit, _, _, _, _, _, _, _, _, h, h' => (show _ = _ from h).trans (show _ = _ from h').symm
  | .pair a b, _, _, _, _, _, _, _, hp, ⟨c1, c2, e, h1, h2⟩, ⟨c1', c2', e', h1', h2'⟩ => by
    simp only [plainT, Bool.and_eq_true] at hp
    rw [e, e', plain_cells hp.1 h1 h1', plain_cells hp.2 h2 h2']
  | .str, _, _, _, _, _, _, _, h, _, _ => by cases h
  | .sl _, _, _, _, _, _, _, _, h, _, _ => by cases h
  | .ptr _, _, _, _, _, _, _, _, h, _, _ => by cases h
  | .mp _ _ _ _, _, _, _, _, _, _, _, h, _, _ => by cases h
section
variable {P : Program} {w : World} {Z : Nat → Prop}
theorem flFs_lits {n : Nat} {r : TypeId → Ty → Bool} {cs : List Value} (hr : ∀ {T : TypeId} {ty : Ty} {cs : List Value} {x : ty.den}, r T ty = true → Rep ty w Z cs x → P.keyLits n T cs = some (lits ty x)) :
    ∀ {fs : List Field} {off : Nat} {ty : Ty} {x : ty.den}, isFs P r fs off ty = true → Rep ty w Z (cs.drop off) x → ∃ ls, fs.mapM (fun f => P.keyLits n f.type ((cs.drop f.offset).take (P.cellsOf f.type))) = some ls ∧ ls.flatten = lits ty x
  | [], off, ty, x, h, hx => by
    cases ty <;> simp [isFs] at h
    exact ⟨[], rfl, rfl⟩
  | [f], off, ty, x, h, hx => by
    have h' : (Nat.beq f.offset off && r f.type ty && Nat.beq (P.cellsOf f.type) ty.size) = true := by cases ty <;> exact h
    simp only [Bool.and_eq_true] at h'
    have e1 := Nat.eq_of_beq_eq_true h'.1.1
    have e2 := Nat.eq_of_beq_eq_true h'.2
    have hl := Rep.length hx
    refine ⟨[lits ty x], ?_, by simp⟩
    rw [List.mapM_cons, e1, e2, List.take_of_length_le (by omega), hr h'.1.2 hx]
    rfl
  | f :: g :: fs, off, ty, x, h, hx => by
    cases ty <;> simp only [isFs] at h <;> try cases h
    rename_i a b
    simp only [Bool.and_eq_true] at h
    obtain ⟨⟨⟨h1, h2⟩, h3⟩, h4⟩ := h
    obtain ⟨c1, c2, e, r1, r2⟩ := hx
    have l1 := Rep.length r1
    have e1 := Nat.eq_of_beq_eq_true h1
    have e3 := Nat.eq_of_beq_eq_true h3
    obtain ⟨ls, hls, hfl⟩ := flFs_lits (cs := cs) (off := off + a.size) (x := x.2) hr h4 (by rw [← List.drop_drop, e, List.drop_left' l1]; exact r2)
    refine ⟨lits a x.1 :: ls, ?_, by simp [lits, hfl]⟩
    rw [List.mapM_cons, e1, e3, e, List.take_left' l1, hr h2 r1, hls]
    rfl
theorem flAr_lits {n e sz : Nat} {r : Ty → Bool} (hr : ∀ {ty : Ty} {cs : List Value} {x : ty.den}, r ty = true → Rep ty w Z cs x → P.keyLits n e cs = some (lits ty x)) :
    ∀ {m i : Nat} {ty : Ty} {cs : List Value} {x : ty.den}, isAr r sz m ty = true → Rep ty w Z (cs.drop (i * sz)) x → ∃ ls, (List.range' i m).mapM (fun i => P.keyLits n e ((cs.drop (i * sz)).take sz)) = some ls ∧ ls.flatten = lits ty x
  | 0, i, ty, cs, x, h, hx => by
    cases ty <;> simp [isAr] at h
    exact ⟨[], rfl, rfl⟩
  | 1, i, ty, cs, x, h, hx => by
    have h' : (r ty && Nat.beq ty.size sz) = true := by cases ty <;> exact h
    simp only [Bool.and_eq_true] at h'
    have e2 := Nat.eq_of_beq_eq_true h'.2
    have hl := Rep.length hx
    refine ⟨[lits ty x], ?_, by simp⟩
    rw [List.range'_one, List.mapM_cons, List.take_of_length_le (by omega), hr h'.1 hx]
    rfl
  | m + 2, i, ty, cs, x, h, hx => by
    cases ty <;> simp only [isAr] at h <;> try cases h
    rename_i a b
    simp only [Bool.and_eq_true] at h
    obtain ⟨⟨h1, h2⟩, h3⟩ := h
    obtain ⟨c1, c2, e, r1, r2⟩ := hx
    have l1 := Rep.length r1
    have e2 := Nat.eq_of_beq_eq_true h2
    obtain ⟨ls, hls, hfl⟩ := flAr_lits (cs := cs) (i := i + 1) (x := x.2) hr h3 (by rw [Nat.succ_mul, ← List.drop_drop, e, List.drop_left' (by omega)]; exact r2)
    refine ⟨lits a x.1 :: ls, ?_, by simp [lits, hfl]⟩
    rw [List.range'_succ, List.mapM_cons, e, List.take_left' (by omega), hr h1 r1, hls]
    rfl
theorem fl_lits : ∀ {n : Nat} {T : TypeId} {ty : Ty} {cs : List Value} {x : ty.den}, flTy P n T ty = true → Rep ty w Z cs x → P.keyLits n T cs = some (lits ty x)
  | 0, _, _, _, _, h, _ => by cases h
  | n + 1, T, ty, cs, x, h, hx => by
    unfold flTy at h
    unfold Program.keyLits
    split at h
    · rename_i k hu
      cases ty <;> simp only at h <;> try cases h
      have := of_decide_eq_true h
      subst this
      obtain ⟨e, hi⟩ := hx
      simp only [hu, e]
      rw [if_pos ⟨trivial, by simp only [Lit.wf, Bool.and_eq_true, decide_eq_true_eq]; exact hi⟩]
      rfl
    · rename_i hu
      cases ty <;> simp only at h <;> try cases h
      simp only [hu, show cs = _ from hx]
      rfl
    · rename_i fs hu
      simp only [Bool.and_eq_true] at h
      have hl := Rep.length hx
      obtain ⟨ls, h1, h2⟩ := flFs_lits (n := n) (cs := cs) (off := 0) (fun hh hx => fl_lits hh hx) h.1.1 (by simpa using hx)
      simp only [hu]
      rw [if_pos ⟨by rw [hl, Nat.eq_of_beq_eq_true h.1.2], h.2⟩, h1]
      simp [h2]
    · rename_i m e hu
      simp only [Bool.and_eq_true] at h
      have hl := Rep.length hx
      obtain ⟨ls, h1, h2⟩ := flAr_lits (n := n) (e := e) (sz := P.cellsOf e) (i := 0) (cs := cs) (fun hh hx => fl_lits hh hx) h.1 (by simpa using hx)
      simp only [hu]
      rw [if_pos (by rw [hl, Nat.eq_of_beq_eq_true h.2]), List.range_eq_range', h1]
      simp [h2]
    · cases h
/-- T may be compared and be a key; a: is it a struct? -/
def keyT (P : Program) (T : TypeId) (a : Bool) (ty : Ty) : Bool := flTy P 20 T ty && P.keyTypeAt 20 T && plainT ty && !(P.eqGuardType P.depth T) && (match P.underlying T with | some (.struct _) => a | some (.array _ _) => a | _ => !a)
theorem key_formed {T : TypeId} {a : Bool} {ty : Ty} {v : Value} {x : ty.den} (h : keyT P T a ty = true) (hv : RepA (Rep ty w Z) a v x) : v.formed P T = true ∧ P.keyLits 20 T v.cells.toList = some (lits ty x) := by
  simp only [keyT, Bool.and_eq_true] at h
  obtain ⟨⟨⟨⟨h1, h2⟩, h3⟩, _⟩, h4⟩ := h
  cases a with
  | true =>
    obtain ⟨cs, e, hr⟩ := hv
    subst e
    have h5 := fl_lits h1 hr
    have hl := Rep.length hr
    refine ⟨?_, h5⟩
    unfold flTy at h1
    split at h1
    · rename_i hu; simp [hu] at h4
    · rename_i hu; simp [hu] at h4
    · rename_i hu
      simp only [Bool.and_eq_true] at h1
      simp only [Value.formed, hu]
      have := Nat.eq_of_beq_eq_true h1.1.2
      simp [this, hl]
    · rename_i hu
      simp only [Bool.and_eq_true] at h1
      simp only [Value.formed, hu]
      have := Nat.eq_of_beq_eq_true h1.2
      simp [this, hl]
    · cases h1
  | false =>
    have hr : Rep ty w Z [v] x := hv
    have h5 := fl_lits h1 hr
    unfold flTy at h1
    split at h1
    · rename_i k hu
      cases ty <;> simp only at h1 <;> try cases h1
      have e := hr.1
      simp only [List.cons.injEq, and_true] at e
      subst e
      exact ⟨by simp [Value.formed, hu], h5⟩
    · rename_i hu
      cases ty <;> simp only at h1 <;> try cases h1
      have e : [v] = [.bool x] := hr
      simp only [List.cons.injEq, and_true] at e
      subst e
      exact ⟨by simp [Value.formed, hu], h5⟩
    · rename_i hu; simp [hu] at h4
    · rename_i hu; simp [hu] at h4
    · cases h1
theorem keyT_plain {T : TypeId} {a : Bool} {ty : Ty} (h : keyT P T a ty = true) : plainT ty = true := by
  simp only [keyT, Bool.and_eq_true] at h; exact h.1.1.2
theorem key_equal {T : TypeId} {a : Bool} {ty : Ty} {v v' : Value} {x y : ty.den} (h : keyT P T a ty = true) (hv : RepA (Rep ty w Z) a v x) (hv' : RepA (Rep ty w Z) a v' y) (w' : World) : (Op.equalIn 10000 T v v').run P w' = .ok (eqB ty x y) w' := by
  obtain ⟨f1, l1⟩ := key_formed h hv
  obtain ⟨f2, l2⟩ := key_formed h hv'
  have hp := keyT_plain h
  simp only [keyT, Bool.and_eq_true] at h
  obtain ⟨r, hr, hiff⟩ := run_equalIn_deep (P := P) 9980 20 T h.1.1.1.2 w' 20 20 v v' _ _ f1 f2 l1 l2
  rw [hr]
  have : r = eqB ty x y := by
    rw [lits_inj hp, ← eqB_iff hp] at hiff
    cases r <;> cases he : eqB ty x y <;> simp_all
  rw [this]
theorem key_check {T : TypeId} {a : Bool} {ty : Ty} {v : Value} {x : ty.den} (h : keyT P T a ty = true) (hv : RepA (Rep ty w Z) a v x) (w' : World) (em : Bool) : (Instr.checkKey em 10000 T v).run P w' = .ok () w' := by
  obtain ⟨f1, l1⟩ := key_formed h hv
  simp only [keyT, Bool.and_eq_true] at h
  exact run_checkKey_deep (P := P) em 9980 20 T h.1.1.1.2 w' 20 v _ f1 l1
/-- the first entry with the key -/
def mfindI {α : Type} (t : Ty) (k : t.den) : List (t.den × α) → Nat → Option Nat
  | [], _ => none
  | x :: l, i => bif eqB t k x.1 then some i else mfindI t k l (i + 1)
def mfind {α : Type} (t : Ty) (k : t.den) : List (t.den × α) → Option α
  | [] => none
  | x :: l => bif eqB t k x.1 then some x.2 else mfind t k l
def mput {α : Type} (t : Ty) (k : t.den) (v : α) : List (t.den × α) → List (t.den × α)
  | [] => [(k, v)]
  | x :: l => bif eqB t k x.1 then (k, v) :: l else x :: mput t k v l
theorem key_find {T : TypeId} {ka : Bool} {kt : Ty} {ν : Type} {Rv : Value → ν → Prop} {v : Value} {k : kt.den} (h : keyT P T ka kt = true) (hv : RepA (Rep kt w Z) ka v k) (w' : World) :
    ∀ {l : List (kt.den × ν)} {es : List MapEntry}, EntsR (RepA (Rep kt w Z) ka) Rv es l → (Instr.findKey T v es).run P w' = .ok ((mfindI kt k l 0).bind fun j => (es[j]?).map fun e => (j, e.val)) w' := by
  have main : ∀ {l : List (kt.den × ν)} {es : List MapEntry} (i : Nat), EntsR (RepA (Rep kt w Z) ka) Rv es l → (Instr.findAsking T v es i).run P w' = .ok ((mfindI kt k l i).bind fun j => (es[j - i]?).map fun e => (j, e.val)) w' := by
    intro l
    induction l with
    | nil => intro es i he; rw [show es = [] from he]; rfl
    | cons x l ih =>
      intro es i he
      obtain ⟨e, es', rfl, h1, h2, h3⟩ := he
      have hq := key_equal h hv h1 w'
      unfold Instr.findAsking mfindI
      simp only [Sem.run_bind, Op.equal, Op.maxDepth, hq, Result.andThen_ok]
      cases eqB kt k x.1 with
      | true => simp
      | false =>
        simp only [Bool.false_eq_true, if_false, cond_false]
        rw [ih (i + 1) h3]
        cases hm : mfindI kt k l (i + 1) with
        | none => rfl
        | some j =>
          have hj : i + 1 ≤ j := by
            have : ∀ (l : List (kt.den × ν)) (i j : Nat), mfindI kt k l i = some j → i ≤ j := by
              intro l
              induction l with
              | nil => intro i j hh; cases hh
              | cons y l ih =>
                intro i j hh
                unfold mfindI at hh
                cases hb : eqB kt k y.1 with
                | true => simp [hb] at hh; omega
                | false => simp [hb] at hh; have := ih _ _ hh; omega
            exact this _ _ _ hm
          simp only [Option.bind_some]
          rw [show j - i = (j - (i + 1)) + 1 from by omega]
          simp
  intro l es he
  have hask := main 0 he
  by_cases hwide : (match P.underlying T with | some (.array _ _) | some (.struct _) => true | _ => false) = true
  · rw [run_findKey_eq w' hwide]; exact hask
  · have hfl := h
    simp only [keyT, Bool.and_eq_true] at hfl
    obtain ⟨⟨⟨⟨g1, _⟩, _⟩, _⟩, g4⟩ := hfl
    have now : ∀ (d : TypeDesc), P.underlying T = some d → (∀ (v v' : Value) (x y : kt.den), RepA (Rep kt w Z) ka v x → RepA (Rep kt w Z) ka v' y → Instr.sameNow d v v' = some (eqB kt x y)) → ∀ {l : List (kt.den × ν)} {es : List MapEntry} (i : Nat), EntsR (RepA (Rep kt w Z) ka) Rv es l → Instr.findNow d v es i = some ((mfindI kt k l i).bind fun j => (es[j - i]?).map fun e => (j, e.val)) := by
      intro d hd hsame l
      induction l with
      | nil => intro es i he; rw [show es = [] from he]; rfl
      | cons x l ih =>
        intro es i he
        obtain ⟨e, es', rfl, h1, h2, h3⟩ := he
        unfold Instr.findNow mfindI
        rw [hsame _ _ _ _ hv h1]
        cases hb : eqB kt k x.1 with
        | true => simp
        | false =>
          simp only [cond_false]
          rw [ih (i + 1) h3]
          cases hm : mfindI kt k l (i + 1) with
          | none => rfl
          | some j =>
            have hj : i + 1 ≤ j := by
              have : ∀ (l : List (kt.den × ν)) (i j : Nat), mfindI kt k l i = some j → i ≤ j := by
                intro l
                induction l with
                | nil => intro i j hh; cases hh
                | cons y l ih =>
                  intro i j hh
                  unfold mfindI at hh
                  cases hb : eqB kt k y.1 with
                  | true => simp [hb] at hh; omega
                  | false => simp [hb] at hh; have := ih _ _ hh; omega
              exact this _ _ _ hm
            simp only [Option.bind_some]
            rw [show j - i = (j - (i + 1)) + 1 from by omega]
            simp
    unfold flTy at g1
    split at g1
    · rename_i q hu
      simp only [hu, Bool.not_eq_true'] at g4
      subst g4
      cases kt <;> simp only at g1 <;> try cases g1
      have := of_decide_eq_true g1
      subst this
      have := now _ hu (fun v v' x y h1 h2 => by
        have e1 := h1.1; have e2 := h2.1
        simp only [List.cons.injEq, and_true] at e1 e2
        rw [e1, e2]; simp [Instr.sameNow, eqB, BEq.beq]) 0 he
      simp [Instr.findKey, run_underlying hu, this]
    · rename_i hu
      simp only [hu, Bool.not_eq_true'] at g4
      subst g4
      cases kt <;> simp only at g1 <;> try cases g1
      have := now _ hu (fun v v' x y h1 h2 => by
        have e1 : [v] = [.bool x] := h1; have e2 : [v'] = [.bool y] := h2
        simp only [List.cons.injEq, and_true] at e1 e2
        rw [e1, e2]; simp [Instr.sameNow, eqB]) 0 he
      simp [Instr.findKey, run_underlying hu, this]
    · rename_i hu; simp [hu] at hwide
    · rename_i hu; simp [hu] at hwide
    · cases g1
end
end Go.Vc
