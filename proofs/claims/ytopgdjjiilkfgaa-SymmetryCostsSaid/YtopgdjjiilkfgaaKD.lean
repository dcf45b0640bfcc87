/- Parts: Data4, Data5, Data6, Data7, SD, GwLaw, Vc21, Vc22. -/
import Derived.WalkKit
import Derived.ProofKit
import Derived.OpenShut
import Derived.Carry
import Derived.ChangeSlices
import Derived.ChangeSame
import Derived.Test.YtopgdjjiilkfgaaKC
/- The run of a unit along given kinds. -/
namespace Go.Proofs.Ytopgdjjiilkfgaa
open Go.Gw Go.RowKit
/-- The state after one hour. -/
def stepF (u : U) (aw : List Int) (hr : Int) (s : St) (k : Int) : Option St :=
  if idxF (fun t : St => decide (t.1 = k)) (nextF u s.1 s.2) < 0 ∨ (k ≠ 0 ∧ hr ∈ aw) then none
  else (nextF u s.1 s.2)[(idxF (fun t : St => decide (t.1 = k)) (nextF u s.1 s.2)).toNat]?
def runTo (u : U) (aw kinds : List Int) : Nat → Option (List St × St)
  | 0 => some ([], initF u)
  | g + 1 => match runTo u aw kinds g, kinds[g]? with
    | some p, some k => match stepF u aw g p.2 k with
      | some t => some (p.1 ++ [t], t)
      | none => none
    | _, _ => none
def WalkPost (u : U) (aw kinds : List Int) (v : Value) (w' : World) : Prop :=
  (∃ g p, g < kinds.length ∧ runTo u aw kinds g = some p ∧ runTo u aw kinds (g + 1) = none ∧ v = .tuple #[.slice none 0 0, .int .i64 g, .int .i64 16]) ∨
  (∃ p vs, runTo u aw kinds kinds.length = some p ∧ v = .tuple #[vs, .int .i64 kinds.length, .int .i64 0] ∧ SlR w' 2 stc vs p.1)
theorem init_bd {u : U} (hs : soundB u = true) : -100 ≤ (initF u).2 ∧ (initF u).2 ≤ 100 := by
  have h1 := sound_spec hs; have h2 := cap_bd hs
  unfold initF
  simp only [hs]
  repeat' split
  all_goals (simp only; try omega)
  all_goals simp_all
theorem next_bd {u : U} (hs : soundB u = true) {k h : Int} {t : St} (ht : t ∈ nextF u k h) : -100 ≤ t.2 ∧ t.2 ≤ 100 := by
  have h1 := sound_spec hs; have h2 := cap_bd hs
  unfold nextF at ht
  by_cases hp : posF u k h < 0
  · rw [if_pos hp] at ht; cases ht
  · have h3 := posF_in (Int.not_lt.1 hp)
    rw [if_neg hp] at ht
    repeat' split at ht
    all_goals simp at ht
    all_goals first
      | (subst ht; simp only; omega)
      | (rcases ht with ht | ht <;> subst ht <;> simp only <;> omega)
theorem idxF_lt {α : Type} {p : α → Bool} {l : List α} (h : 0 ≤ idxF p l) : (idxF p l).toNat < l.length := by
  unfold idxF at h ⊢
  by_cases hl : l.findIdx p < l.length
  · rw [if_pos hl]; omega
  · rw [if_neg hl] at h; omega
theorem step_some {u : U} {aw : List Int} {g : Nat} {s : St} {k : Int} {a : St} (h0 : ¬ idxF (fun t : St => decide (t.1 = k)) (nextF u s.1 s.2) < 0) (hn : ¬ (k ≠ 0 ∧ (g : Int) ∈ keysOf aw))
    (ha : (nextF u s.1 s.2)[(idxF (fun t : St => decide (t.1 = k)) (nextF u s.1 s.2)).toNat]? = some a) : stepF u aw g s k = some a := by
  rw [mem_keysOf] at hn
  unfold stepF
  rw [if_neg (by rintro (h | h); exact h0 h; exact hn h)]
  exact ha
theorem step_none {u : U} {aw : List Int} {g : Nat} {s : St} {k : Int} (h : idxF (fun t : St => decide (t.1 = k)) (nextF u s.1 s.2) < 0 ∨ (k ≠ 0 ∧ (g : Int) ∈ keysOf aw)) : stepF u aw g s k = none := by
  rw [mem_keysOf] at h
  unfold stepF
  rw [if_pos h]
theorem run_step {u : U} {aw kinds : List Int} {g : Nat} {p : List St × St} {k : Int} {a : St} (hr : runTo u aw kinds g = some p) (hk : kinds[g]? = some k) (hs : stepF u aw g p.2 k = some a) : runTo u aw kinds (g + 1) = some (p.1 ++ [a], a) := by
  simp only [runTo, hr, hk, hs]
theorem run_fail {u : U} {aw kinds : List Int} {g : Nat} {p : List St × St} {k : Int} (hr : runTo u aw kinds g = some p) (hk : kinds[g]? = some k) (hs : stepF u aw g p.2 k = none) : runTo u aw kinds (g + 1) = none := by
  simp only [runTo, hr, hk, hs]
end Go.Proofs.Ytopgdjjiilkfgaa
/- Plain lemmas for the laws. -/
namespace Go.Proofs.Ytopgdjjiilkfgaa
open Go.Gw Go.RowKit
theorem walk_ex1 {v : Value} {w' : World} (h : WalkPost exU [] [1, 2, 2, 0] v w') : ∃ vs, v = .tuple #[vs, .int .i64 4, .int .i64 0] := by
  rcases h with ⟨g, p, hg, _, hn, _⟩ | ⟨p, vs, _, hv, _⟩
  · exfalso
    have key : ∀ g, g < 4 → (runTo exU [] [1, 2, 2, 0] (g + 1)).isSome = true := by
      intro g hg
      match g, hg with
      | 0, _ => decide
      | 1, _ => decide
      | 2, _ => decide
      | 3, _ => decide
    have := key g hg
    rw [hn] at this
    cases this
  · exact ⟨vs, hv⟩
theorem walk_ex2 {v : Value} {w' : World} (h : WalkPost exU [] [2] v w') : v = .tuple #[.slice none 0 0, .int .i64 0, .int .i64 16] := by
  rcases h with ⟨g, p, hg, _, _, hv⟩ | ⟨p, vs, hr, _, _⟩
  · obtain rfl : g = 0 := by simp at hg; exact hg
    exact hv
  · exfalso
    have : (runTo exU [] [2] 1).isSome = false := by decide
    have h2 : runTo exU [] [2] 1 = some p := hr
    rw [h2] at this
    cases this
theorem slr_one {w : World} {v : Value} {l : List Int} (h : SlR w 1 ic v l) : v.oneCell' = true := by
  obtain ⟨a, c, rfl⟩ := h.form
  rfl
theorem near_ok {u : U} (hok : u.ok) {w : World} {av : Value} {l : List Int} (h : SlR w 1 ic av l) : (nearU u av).ok := by
  obtain ⟨ok1, ok2, ok3, ok4, ok5, ok6, ok7, ok8, ok9, ok10, ok11, ok12, _, ok14⟩ := hok
  exact ⟨ok1, ok2, ok3, ok4, ok5, ok6, ok7, ok8, ok9, ok10, ok11, ok12, slr_one h, ok14⟩
theorem near_len (aw : List Int) : (nearA aw).length ≤ 40 := by
  unfold nearA
  rw [List.length_map, List.length_take]
  omega
theorem pos_at {u : U} {g : Nat} {a : St} (h : (statesF u)[g]? = some a) : posF u a.1 a.2 = (g : Int) := by
  cases hs : soundB u
  · simp [statesF, hs] at h
  · have hF : statesF u = statesL u := by simp [statesF, hs]
    rw [hF] at h
    exact (pos_iff hs g a.1 a.2).1 h
theorem states_bd {u : U} {g : Nat} {a : St} (h : (statesF u)[g]? = some a) : 1 ≤ a.2 ∧ a.2 ≤ 100 := by
  have hp := pos_at h
  have := posF_in (u := u) (k := a.1) (h := a.2) (by omega)
  have h1 := cap_bd this.1; have h2 := sound_spec this.1
  omega
end Go.Proofs.Ytopgdjjiilkfgaa
/- What a run along kinds that follow says of the hours of each stretch. -/
namespace Go.Proofs.Ytopgdjjiilkfgaa
open Go.Gw Go.RowKit
theorem run_len {u : U} {aw kinds : List Int} : ∀ {g : Nat} {p : List St × St}, runTo u aw kinds g = some p → p.1.length = g
  | 0, p, h => by simp [runTo] at h; subst h; rfl
  | g + 1, p, h => by
    simp only [runTo] at h
    split at h
    · rename_i p' k hr hk
      split at h
      · rename_i t ht
        simp at h
        subst h
        have := run_len hr
        simp; omega
      · cases h
    · cases h
theorem run_prev {u : U} {aw kinds : List Int} {g : Nat} {p : List St × St} (h : runTo u aw kinds (g + 1) = some p) : ∃ p' k t, runTo u aw kinds g = some p' ∧ kinds[g]? = some k ∧ stepF u aw g p'.2 k = some t ∧ p = (p'.1 ++ [t], t) := by
  simp only [runTo] at h
  split at h
  · rename_i p' k hr hk
    split at h
    · rename_i t ht
      simp at h
      exact ⟨p', k, t, hr, hk, ht, h.symm⟩
    · cases h
  · cases h
theorem run_some {u : U} {aw kinds : List Int} {n : Nat} (h : (runTo u aw kinds n).isSome = true) : ∀ g, g ≤ n → (runTo u aw kinds g).isSome = true := by
  intro g hg
  obtain ⟨d, rfl⟩ : ∃ d, n = g + d := ⟨n - g, by omega⟩
  clear hg
  induction d with
  | zero => exact h
  | succ d ih =>
    apply ih
    obtain ⟨p, hp⟩ := Option.isSome_iff_exists.1 h
    obtain ⟨p', _, _, hr, _⟩ := run_prev hp
    have hr' : runTo u aw kinds (g + d) = some p' := hr
    rw [hr']; rfl
/-- The state s is that of a stretch of 'run' hours of one kind. -/
def Rel (u : U) (s : St) (kind run : Int) : Prop :=
  s.1 = kind ∧ 1 ≤ run ∧ (kind = 0 ∨ kind = 1 ∨ kind = 2) ∧ (kind = 0 → s.2 = min run (capOff u)) ∧ (kind = 1 → s.2 = run ∧ run ≤ u.st) ∧ (kind = 2 → s.2 = min run (capOn u))
def RelAt (u : U) (aw kinds : List Int) (g : Nat) (kind run : Int) : Prop := ∃ p, runTo u aw kinds g = some p ∧ Rel u p.2 kind run
theorem rel_init {u : U} (hs : soundB u = true) (aw kinds : List Int) : RelAt u aw kinds 0 u.state u.hours := by
  have h1 := sound_spec hs
  refine ⟨_, rfl, ?_⟩
  unfold Rel initF
  simp only [hs]
  by_cases h0 : u.state = 0
  · simp [h0]; omega
  · by_cases h2 : u.state = 2
    · simp [h2]; omega
    · simp [h0, h2]; omega
theorem step_mem {u : U} {aw : List Int} {g : Int} {s : St} {k : Int} {t : St} (h : stepF u aw g s k = some t) : t ∈ nextF u s.1 s.2 ∧ t.1 = k ∧ (k = 0 ∨ g ∉ aw) := by
  unfold stepF at h
  split at h
  · cases h
  · rename_i hn
    have h0 : 0 ≤ idxF (fun t : St => decide (t.1 = k)) (nextF u s.1 s.2) := by omega
    refine ⟨List.mem_of_getElem? h, ?_, ?_⟩
    · have hlt := el_lt h
      unfold idxF at h h0
      by_cases hl : (nextF u s.1 s.2).findIdx (fun t : St => decide (t.1 = k)) < (nextF u s.1 s.2).length
      · rw [if_pos hl] at h
        simp only [Int.toNat_natCast] at h
        rw [List.getElem?_eq_getElem hl] at h
        have := List.findIdx_getElem (w := hl)
        rw [Option.some.inj h] at this
        simpa using this
      · rw [if_neg hl] at h0; omega
    · by_cases hk : k = 0
      · exact .inl hk
      · exact .inr (fun hm => hn (.inr ⟨hk, hm⟩))
/-- One hour: what the stretch must have been, and what it is now. -/
theorem rel_step {u : U} (hs : soundB u = true) {aw : List Int} {g : Int} {s t : St} {k kind run : Int} (hr : Rel u s kind run) (hst : stepF u aw g s k = some t) :
    (k = kind → (kind = 1 → run + 1 ≤ u.st) ∧ Rel u t kind (run + 1)) ∧
    (k ≠ kind → (kind = 0 → u.dn ≤ run ∧ ¬ (k = 2 ∧ 0 < u.st) ∧ ¬ (k = 1 ∧ u.st = 0)) ∧ (kind = 1 → run = u.st ∧ k = 2) ∧ (kind = 2 → u.up ≤ run ∧ k = 0) ∧ Rel u t k 1) := by
  obtain ⟨hm, htk, _⟩ := step_mem hst
  have h1 := sound_spec hs; have h2 := cap_bd hs
  obtain ⟨s1, s2⟩ := s
  obtain ⟨t1, t2⟩ := t
  unfold Rel at *
  simp only at hr htk hm ⊢
  unfold nextF at hm
  by_cases hp : posF u s1 s2 < 0
  · rw [if_pos hp] at hm; cases hm
  · have h3 := posF_in (Int.not_lt.1 hp)
    rw [if_neg hp] at hm
    repeat' split at hm
    all_goals simp at hm
    all_goals first
      | (rcases hm with hm | hm <;> obtain ⟨rfl, rfl⟩ := hm <;> constructor <;> omega)
      | (obtain ⟨rfl, rfl⟩ := hm; constructor <;> omega)
theorem relAt_step {u : U} (hs : soundB u = true) {aw kinds : List Int} {g : Nat} {k kind run : Int} (hall : (runTo u aw kinds kinds.length).isSome = true) (hr : RelAt u aw kinds g kind run) (hk : kinds[g]? = some k) :
    ((k = kind → (kind = 1 → run + 1 ≤ u.st)) ∧ (k ≠ kind → (kind = 0 → u.dn ≤ run ∧ ¬ (k = 2 ∧ 0 < u.st) ∧ ¬ (k = 1 ∧ u.st = 0)) ∧ (kind = 1 → run = u.st ∧ k = 2) ∧ (kind = 2 → u.up ≤ run ∧ k = 0)) ∧ (kind = 0 ∨ kind = 1 ∨ kind = 2) ∧ 1 ≤ run) ∧
    (k = kind → RelAt u aw kinds (g + 1) kind (run + 1)) ∧ (k ≠ kind → RelAt u aw kinds (g + 1) k 1) := by
  obtain ⟨p, hp, hrel⟩ := hr
  have hlt := el_lt hk
  obtain ⟨q, hq⟩ := Option.isSome_iff_exists.1 (run_some hall (g + 1) (by omega))
  obtain ⟨p', k', t, hp', hk', hst, rfl⟩ := run_prev hq
  rw [hp] at hp'; cases hp'
  rw [hk] at hk'; cases hk'
  have hstep := rel_step hs hrel hst
  have h3 := hrel.2.2.1
  have h4 := hrel.2.1
  refine ⟨⟨fun e => (hstep.1 e).1, fun e => ⟨(hstep.2 e).1, (hstep.2 e).2.1, (hstep.2 e).2.2.1⟩, h3, h4⟩, fun e => ⟨_, hq, (hstep.1 e).2⟩, fun e => ⟨_, hq, (hstep.2 e).2.2.2⟩⟩
end Go.Proofs.Ytopgdjjiilkfgaa
/- Runs along kinds that are chosen hour by hour, and what a start costs on them. -/
namespace Go.Proofs.Ytopgdjjiilkfgaa
open Go.Gw Go.RowKit
theorem run_more {u : U} {aw kinds : List Int} (k : Int) : ∀ {g : Nat}, g ≤ kinds.length → runTo u aw (kinds ++ [k]) g = runTo u aw kinds g
  | 0, _ => rfl
  | g + 1, h => by
    simp only [runTo]
    rw [run_more k (g := g) (by omega), List.getElem?_append_left (by omega)]
/-- The kinds of the successors differ. -/
theorem next_kind {u : U} {k h : Int} {s t : St} (hs : s ∈ nextF u k h) (ht : t ∈ nextF u k h) (e : s.1 = t.1) : s = t := by
  obtain ⟨s1, s2⟩ := s
  obtain ⟨t1, t2⟩ := t
  simp only at e
  subst e
  unfold nextF at hs ht
  (repeat' split at hs) <;> simp_all <;> omega
theorem step_of {u : U} {aw : List Int} {g : Int} {s t : St} (ht : t ∈ nextF u s.1 s.2) (ha : allowF aw g t.1 = true) : stepF u aw g s t.1 = some t := by
  have hal := of_decide_eq_true ha
  have hany : (nextF u s.1 s.2).any (fun x : St => decide (x.1 = t.1)) = true := List.any_eq_true.2 ⟨t, ht, by simp⟩
  have h0 := (idxF_nonneg (fun x : St => decide (x.1 = t.1)) (nextF u s.1 s.2)).2 hany
  unfold stepF
  rw [if_neg (fun hh => hh.elim (fun h => by omega) (fun h12 => hal.elim (fun h => h12.1 h) (fun h => h.2 h12.2)))]
  have hlt := idxF_lt h0
  obtain ⟨x, hx⟩ := el_some hlt
  rw [hx]
  have hst : stepF u aw g s t.1 = some x := by
    unfold stepF
    rw [if_neg (fun hh => hh.elim (fun h => by omega) (fun h12 => hal.elim (fun h => h12.1 h) (fun h => h.2 h12.2)))]
    exact hx
  obtain ⟨hm, hk, _⟩ := step_mem hst
  rw [next_kind hm ht hk]
theorem run_grow {u : U} {aw kinds : List Int} {p : List St × St} {t : St} (hr : runTo u aw kinds kinds.length = some p) (ht : t ∈ nextF u p.2.1 p.2.2) (ha : allowF aw (kinds.length : Int) t.1 = true) : runTo u aw (kinds ++ [t.1]) (kinds ++ [t.1]).length = some (p.1 ++ [t], t) := by
  rw [List.length_append]
  show runTo u aw (kinds ++ [t.1]) (kinds.length + 1) = _
  simp only [runTo]
  rw [run_more _ (Nat.le_refl _), hr, List.getElem?_append_right (Nat.le_refl _), Nat.sub_self]
  simp only [List.getElem?_cons_zero]
  rw [step_of ht ha]
/-- what lies in the walk's list at an hour is the state after that hour -/
theorem run_at {u : U} {aw kinds : List Int} {g : Nat} {q : List St × St} : ∀ {n : Nat} {p : List St × St}, runTo u aw kinds n = some p → g < n → runTo u aw kinds (g + 1) = some q → p.1[g]? = some q.2
  | 0, _, _, h, _ => by omega
  | n + 1, p, hp, h, hq => by
    obtain ⟨p', k, t, hp', _, _, rfl⟩ := run_prev hp
    have hl := run_len hp'
    by_cases hgn : g = n
    · subst hgn
      rw [hp] at hq
      cases hq
      rw [List.getElem?_append_right (by omega), hl, Nat.sub_self]
      rfl
    · rw [List.getElem?_append_left (by omega)]
      exact run_at hp' (by omega) hq
/-- what the start costs, told by the stretch -/
theorem cost_rel {u : U} (hs : soundB u = true) {aw : List Int} {g : Int} {s t : St} {k kind run : Int} (hr : Rel u s kind run) (hst : stepF u aw g s k = some t) :
    costF u s.1 s.2 t = if kind = 0 ∧ k ≠ 0 then (if run ≤ u.hh then u.hc else u.cc) else 0 := by
  obtain ⟨hm, htk, _⟩ := step_mem hst
  have h2 := cap_bd hs
  have hf : follF u s.1 s.2 t = true := List.any_eq_true.2 ⟨t, hm, by simp⟩
  unfold costF
  unfold Rel at hr
  rw [hf, htk, hr.1]
  by_cases hk : kind = 0 ∧ k ≠ 0
  · have := hr.2.2.2.1 hk.1
    rw [if_pos ⟨hk.1, hk.2, rfl⟩, if_pos hk]
    by_cases hh : run ≤ u.hh
    · rw [if_pos hh, if_pos (by omega)]
    · rw [if_neg hh, if_neg (by omega)]
  · rw [if_neg hk, if_neg (fun h => hk ⟨h.1, h.2.1⟩)]
end Go.Proofs.Ytopgdjjiilkfgaa
/- Merging and unmerging, without the program: what the functions of the Symmetry statements compute. -/
namespace Go.Proofs.Ytopgdjjiilkfgaa

abbrev Arc := Int × (St × (St × Int))
abbrev Key := Int × (St × St)
def akey (a : Arc) : Key := (a.1, a.2.1, a.2.2.1)
def acnt (a : Arc) : Int := a.2.2.2
def cmpI (a b : Int) : Int := if a < b then -1 else if b < a then 1 else 0
def orF (l : List Int) : Int := (l.find? (fun x => decide (x ≠ 0))).getD 0
def cmpSt (s t : St) : Int := orF [cmpI s.1 t.1, cmpI s.2 t.2]
def cmpArc (a b : Arc) : Int := orF [cmpI a.1 b.1, cmpSt a.2.1 b.2.1, cmpSt a.2.2.1 b.2.2.1]
def cmpL : List Int → List Int → Int
  | [], [] => 0
  | [], _ :: _ => -1
  | _ :: _, [] => 1
  | a :: l, b :: r => if cmpI a b ≠ 0 then cmpI a b else cmpL l r
def stLt (s t : St) : Prop := s.1 < t.1 ∨ (s.1 = t.1 ∧ s.2 < t.2)
def keyLt (a b : Key) : Prop := a.1 < b.1 ∨ (a.1 = b.1 ∧ (stLt a.2.1 b.2.1 ∨ (a.2.1 = b.2.1 ∧ stLt a.2.2 b.2.2)))
/-- The transitions of a walk. -/
def trF : St → Nat → List St → List Key
  | _, _, [] => []
  | s, h, t :: r => ((h : Int), s, t) :: trF t (h + 1) r
def trAll (u : U) (ws : List (List St)) : List Key := ws.flatMap (trF (initF u) 0)
def walkF (u : U) (aw ks : List Int) : Option (List St) := (runTo u aw ks ks.length).map (·.1)
def walks (u : U) (aw : List Int) : List (List Int) → Option (List (List St))
  | [] => some []
  | l :: r => match walkF u aw l with
    | none => none
    | some w => (walks u aw r).map (w :: ·)
def shapeP (ls : List (List Int)) : Prop := ∀ l ∈ ls, l.length = (ls.headD []).length ∧ l.length ≤ 24
def isMerge (trs : List Key) (l : List Arc) : Prop := l.Pairwise (fun a b => keyLt (akey a) (akey b)) ∧ ∀ a : Arc, a ∈ l ↔ (acnt a = (trs.count (akey a) : Int) ∧ 1 ≤ acnt a)
def mergeP (u : U) (aw : List Int) (ls : List (List Int)) (r : List Arc) (e : Int) : Prop :=
  (soundB u = false → r = [] ∧ e = 1) ∧ (soundB u = true → ¬ shapeP ls → r = [] ∧ e = 4) ∧ (soundB u = true → shapeP ls → walks u aw ls = none → r = [] ∧ e = 16) ∧
    (soundB u = true → shapeP ls → ∀ ws, walks u aw ls = some ws → e = 0 ∧ isMerge (trAll u ws) r)
/-- One arc: the units that take it. -/
structure MS where
  left : Int
  moved : List Bool
  now : List St
  ks : List (List Int)
  total : Int
def mvStep (h : Nat) (a : Arc) (s : MS) (i : Nat) : MS :=
  if 0 < s.left ∧ s.moved.getD i false = false ∧ s.now.getD i (0, 0) = a.2.1 then ⟨s.left - 1, s.moved.set i true, s.now.set i a.2.2.1, s.ks.set i ((s.ks.getD i []).set h a.2.2.1.1), s.total + 1⟩ else s
def mvArc (h : Nat) (a : Arc) (s : MS) (n : Nat) : MS := (List.range n).foldl (mvStep h a) { s with left := acnt a }
/-- All arcs of an hour; false: units are left over. -/
def mvAll (h n : Nat) : List Arc → MS → Bool × MS
  | [], s => (true, s)
  | a :: r, s => if a.1 ≠ (h : Int) then mvAll h n r s else if (mvArc h a s n).left ≠ 0 then (false, mvArc h a s n) else mvAll h n r (mvArc h a s n)
def moveF (h : Nat) (now : List St) (ks : List (List Int)) (arcs : List Arc) : Bool × List St × List (List Int) :=
  let p := mvAll h now.length arcs ⟨0, List.replicate now.length false, now, ks, 0⟩
  (p.1 && decide (p.2.total = (now.length : Int)), p.2.now, p.2.ks)
/-- The plans after some hours. -/
def unmF (arcs : List Arc) (now : List St) (ks : List (List Int)) : Nat → Option (List St × List (List Int))
  | 0 => some (now, ks)
  | h + 1 => match unmF arcs now ks h with
    | none => none
    | some p => let q := moveF h p.1 p.2 arcs
      if q.1 then some q.2 else none
def descP (l : List (List Int)) : Prop := l.Pairwise fun a b => 0 ≤ cmpL a b
def rejP (r : List (List Int)) (e : Int) : Prop := r = [] ∧ e = 17
def unmergeP (u : U) (aw : List Int) (hours count : Int) (arcs : List Arc) (r : List (List Int)) (e : Int) : Prop :=
  (soundB u = false → r = [] ∧ e = 1) ∧ (soundB u = true → ¬ (1 ≤ hours ∧ hours ≤ 24 ∧ 0 ≤ count ∧ count ≤ 16) → r = [] ∧ e = 3) ∧
    (soundB u = true → 1 ≤ hours → hours ≤ 24 → 0 ≤ count → count ≤ 16 → (hours * count < (arcs.length : Int) → rejP r e) ∧ ((arcs.length : Int) ≤ hours * count →
      (unmF arcs (List.replicate count.toNat (initF u)) (List.replicate count.toNat (List.replicate hours.toNat 0)) hours.toNat = none → rejP r e) ∧
      ∀ p, unmF arcs (List.replicate count.toNat (initF u)) (List.replicate count.toNat (List.replicate hours.toNat 0)) hours.toNat = some p →
        ∃ ks, ks.Perm p.2 ∧ descP ks ∧ ((∃ ws, walks u aw ks = some ws ∧ shapeP ks ∧ isMerge (trAll u ws) arcs) → r = ks ∧ e = 0) ∧ (¬ (∃ ws, walks u aw ks = some ws ∧ shapeP ks ∧ isMerge (trAll u ws) arcs) → rejP r e)))
def beforeB (u : U) (a b : Arc) : Bool := if a.1 ≠ b.1 then decide (a.1 < b.1) else if a.2.1 ≠ b.2.1 then decide (posF u a.2.1.1 a.2.1.2 < posF u b.2.1.1 b.2.1.2) else decide (posF u a.2.2.1.1 a.2.2.1.2 < posF u b.2.2.1.1 b.2.2.1.2)
def inF (u : U) (count : Int) (l : List Arc) (h : Nat) (s : St) : Int := (if h = 0 ∧ s = initF u then count else 0) + (l.map fun a => if a.1 = (h : Int) - 1 ∧ a.2.2.1 = s then acnt a else 0).sum
def outF (l : List Arc) (h : Nat) (s : St) : Int := (l.map fun a => if a.1 = (h : Int) ∧ a.2.1 = s then acnt a else 0).sum
def arcOk (u : U) (aw : List Int) (hours count : Int) (a : Arc) : Prop := 0 ≤ a.1 ∧ a.1 < hours ∧ 1 ≤ acnt a ∧ acnt a ≤ count ∧ follF u a.2.1.1 a.2.1.2 a.2.2.1 = true ∧ allowF aw a.1 a.2.2.1.1 = true
def flowP (u : U) (aw : List Int) (hours count : Int) (l : List Arc) : Prop :=
  (∀ a ∈ l, arcOk u aw hours count a) ∧ (∀ i a b, l[i]? = some a → l[i + 1]? = some b → beforeB u a b = true) ∧ ∀ h : Nat, (h : Int) < hours → ∀ s ∈ statesF u, inF u count l h s = outF l h s
def costsF (u : U) : St → List St → Int
  | _, [] => 0
  | s, t :: r => costF u s.1 s.2 t + costsF u t r
end Go.Proofs.Ytopgdjjiilkfgaa
/- From a walk that returns true to a row 'for every input the law returns true'. -/
namespace Go.Gw
open Go Go.RowKit Go.ChangeShapes Go.WideShapes Go.ChangeAt
theorem wf_i64_bd {n : Int} (h : (Lit.int .i64 n).wf = true) : -9223372036854775808 ≤ n ∧ n ≤ 9223372036854775807 := by
  simp only [Lit.wf, Bool.and_eq_true, decide_eq_true_eq] at h
  have h1 : IntKind.i64.min = -9223372036854775808 := by decide
  have h2 : IntKind.i64.max = 9223372036854775807 := by decide
  omega
section
variable {H : Type} {enc : TypeId × Value → H} {P : Program}
/-- All arguments read behind the call as they did before. -/
theorem trodAll_stays (hl : laidOutB P = true) {W W' : World} {sp : Nat → Bool} (hb : Ext W W') : ∀ (ts : List TypeId) (vs : List Value) (ds : List (DataW H)) (ps : List MemPlace),
    (∀ t ∈ ts, P.readableRec t = true ∧ t < P.types.size) → DataW.TrodAll enc P W 0 (fun _ => true) true ts vs ds ps → (∀ x ∈ ps, x.block < W.heap.size) → (∀ x ∈ ps, sp x.block = true) → DataW.TrodAll enc P W' 0 sp true ts vs ds ps
  | [], vs, ds, ps, _, h, _, _ => by
    cases vs <;> cases ds <;> simp [DataW.TrodAll] at h ⊢
    exact h
  | t :: ts, vs, ds, ps, ht, h, hlt, hsp => by
    obtain ⟨v, vs', d, ds', p, q, rfl, rfl, rfl, h1, h2⟩ := trodAll_cons h
    refine trodAll_cons_mk ?_ (trodAll_stays hl hb ts vs' ds' q (fun x hx => ht x (by simp [hx])) h2 (fun x hx => hlt x (by simp [hx])) (fun x hx => hsp x (by simp [hx])))
    exact WideElems.Trod_stays hl (ht t (by simp)).1 (ht t (by simp)).2 h1 (fun x hx => hb.same (hlt x (by simp [hx]))) (fun x hx => hsp x (by simp [hx]))
/-- The row's post for a law. -/
theorem post_law (hl : laidOutB P = true) {f : Func} {s : ChangeSpec} {W W' : World} {args : Array Value} {ds gs : List (DataW H)} {before : List MemPlace} {tb : TypeId}
    (hW : DataW.Whole enc P f.params.toList s.vars false W args.toList ds gs before) (hv : s.vars = []) (hres : f.resultTypes = #[tb]) (htb : P.underlying tb = some .bool)
    (hfn : s.fn H ds = { results := [.lit (.bool true)], args := ds }) (hr : ∀ t ∈ f.params.toList, P.readableRec t = true ∧ t < P.types.size) (hb : Ext W W') :
    s.post enc P f false true false false W args (.bool true) W' := by
  have hlt : ∀ p ∈ before, p.block < W.heap.size := fun p hp => hW.lt p hp
  have hW0 := hW
  obtain ⟨p, q, hA, hV, hpq, _, _⟩ := hW
  rw [hv] at hV
  obtain ⟨rfl, rfl⟩ := trodVars_none hV
  rw [List.append_nil] at hpq
  subst hpq
  refine ⟨ds, [], before, [], before, [], hW0, ?_, ?_, ?_, ?_, fun h => by cases h⟩
  · rw [List.append_nil, hfn, hres]
    exact trodAll_mk1 (shut_bool htb _)
  · rw [List.append_nil, hfn]
    exact trodAll_stays hl hb _ _ _ _ hr hA hlt (fun x hx => by simpa using hlt x hx)
  · rw [List.append_nil, hfn, hv]
    rfl
  · refine World.keptBut_mono ?_ (hb.frame (· ∈ before))
    intro x hx
    exact ⟨hx, .inr (.inl hx)⟩
theorem field_trod {W : World} {base n : Nat} {spare : Nat → Bool} {held : Bool} {cs : List Value} {fs : Array Field} {xs : List (DataW H × List MemPlace)}
    (hx : ∀ (i : Nat) (f : Field), fs[i]? = some f → DataW.trod enc P W base spare held n f.type ((cs.drop f.offset).take (P.cellsOf f.type)) = xs[i]?) (i T off sz : Nat) (x : DataW H × List MemPlace) (c : List Value)
    (hf : (fs[i]?).map (fun f => (f.type, f.offset)) = some (T, off)) (hsz : P.cellsOf T = sz) (hxi : xs[i]? = some x) (hc : (cs.drop off).take sz = c) : DataW.trod enc P W base spare held n T c = some x := by
  cases h : fs[i]? with
  | none => simp [h] at hf
  | some f =>
    simp [h] at hf
    have := hx i f h
    rw [hf.1, hf.2, hsz, hxi, hc] at this
    exact this
/-- A field of ints, opened. -/
theorem slr_ints {W : World} {t e : TypeId} {fuel : Nat} {cs : List Value} {x : DataW H × List MemPlace} (ht : P.underlying t = some (.slice e)) (he : P.underlying e = some (.int .i64)) (hc : P.cellsOf e = 1)
    (h : DataW.trod enc P W 0 (fun _ => true) true fuel t cs = some x) : ∃ v l, cs = [v] ∧ SlR W 1 (fun i : Int => [.int .i64 i]) v l ∧ l.length ≤ 9223372036854775807 ∧ ∀ n ∈ l, -9223372036854775808 ≤ n ∧ n ≤ 9223372036854775807 := by
  rcases open_ints ht he hc h with ⟨rfl, _⟩ | ⟨a, len, cap, zs, rfl, _, hlc, hcm, hzl, _, hcell, hwf⟩
  · exact ⟨_, [], rfl, SlR.nil _ _ _, by simp, by simp⟩
  · simp only [if_true] at hzl
    have hll : (zs.take len).length = len := by rw [List.length_take]; omega
    simp only [maxLen] at hcm
    refine ⟨_, zs.take len, rfl, ?_, by rw [hll]; omega, fun n hn => wf_i64_bd (hwf n (List.mem_of_mem_take hn))⟩
    by_cases h0 : len = 0
    · subst h0; exact .inl ⟨_, _, rfl, by simp⟩
    · have hsp : a.spot = none := by
        have h1 := hcell 0 (by omega)
        have : a.add 0 = a := by simp [Addr.add]
        rw [this] at h1
        unfold World.cell? at h1
        split at h1
        · cases hs : a.spot with
          | none => rfl
          | some _ => simp [hs] at h1
        · cases h1
      obtain ⟨b, o, sp⟩ := a
      simp only at hsp
      subst hsp
      refine .inr ⟨b, o, cap, by rw [hll], by rw [hll]; exact hlc, fun i n hi j u hu => ?_⟩
      have hilt := el_lt hi
      rw [hll] at hilt
      have hj : j = 0 := by have := el_lt hu; simp at this; exact this
      subst hj
      simp at hu
      subst hu
      have h1 := hcell i (by omega)
      rw [add_lit] at h1
      rw [add_lit, Nat.mul_one, Nat.add_zero, h1]
      have : zs.getD i 0 = n := by
        rw [List.getElem?_take, if_pos hilt] at hi
        rw [List.getD_eq_getElem?_getD, hi]; rfl
      rw [this]
end
end Go.Gw
/- Arguments that the row's reader reads are values of the verifier's types. -/
namespace Go.Vc
open Go Go.RowKit Go.Gw Go.ChangeShapes Go.WideShapes Go.ChangeAt
def isTy (P : Program) : Nat → TypeId → Ty → Bool
  | 0, _, _ => false
  | n + 1, T, ty => match P.underlying T with
    | some (.int k) => (match ty with | .int k' => decide (k = k') | _ => false)
    | some .bool => (match ty with | .bool => true | _ => false)
    | some .string => (match ty with | .str => true | _ => false)
    | some (.slice e) => (match ty with | .sl t => isTy P n e t && Nat.beq (P.cellsOf e) t.size && Nat.ble 1 t.size | _ => false)
    | some (.struct fs) => isFs P (isTy P n) fs.toList 0 ty && Nat.beq (P.cellsOf T) ty.size
    | _ => false
section
variable {H : Type} {α : Type} {enc : TypeId × Value → H} {P : Program} {W : World}
theorem cells?_at {base : Nat} {a : Addr} {n : Nat} {cs : List Value} (h : W.cells? base a n = some cs) : cs.length = n ∧ CellsAt W a cs := by
  obtain ⟨_, hl, hc⟩ := World.cells?_some h
  exact ⟨hl, fun j v hj => by have := hc j (by have := el_lt hj; omega); rw [this]; exact hj⟩
theorem spot_none {a : Addr} {v : Value} (h : W.cell? a = some v) : a.spot = none := by
  unfold World.cell? at h
  split at h
  · cases hs : a.spot with
    | none => rfl
    | some _ => simp [hs] at h
  · cases h
/-- Elements, one after the other. -/
theorem elems_each {R : List Value → α → Prop} {b o sz : Nat} : ∀ (len : Nat), (∀ i, i < len → ∃ ec y, ec.length = sz ∧ CellsAt W ⟨b, o + i * sz, none⟩ ec ∧ R ec y) → ∃ ec l, l.length = len ∧ ec.length = len * sz ∧ CellsAt W ⟨b, o, none⟩ ec ∧ Each R ec l
  | 0, _ => ⟨[], [], rfl, by simp, fun j v hj => by simp at hj, rfl⟩
  | len + 1, h => by
    obtain ⟨ec, l, h1, h2, h3, h4⟩ := elems_each (R := R) (b := b) (o := o) (sz := sz) len (fun i hi => h i (by omega))
    obtain ⟨ec', y, g1, g2, g3⟩ := h len (by omega)
    refine ⟨ec ++ ec', l ++ [y], by simp [h1], by rw [List.length_append, h2, g1, Nat.succ_mul], fun j v hj => ?_, h4.append ⟨ec', [], by simp, g3, rfl⟩⟩
    rw [List.getElem?_append] at hj
    split at hj
    · exact h3 j v hj
    · rename_i hlt
      have := g2 _ v hj
      rw [add_lit] at this ⊢
      rw [h2] at this hlt
      rw [show o + len * sz + (j - len * sz) = o + j from by omega] at this
      exact this
theorem isFs_ok {n : Nat} {r : TypeId → Ty → Bool} {Z : Nat → Prop} {cs : List Value} (hr : ∀ {T : TypeId} {ty : Ty} {cs : List Value} {x : DataW H × List MemPlace}, r T ty = true → DataW.trod enc P W 0 (fun _ => true) true n T cs = some x → ∃ y, Rep ty W Z cs y) :
    ∀ {fs : List Field} {off : Nat} {ty : Ty}, isFs P r fs off ty = true → (∀ f ∈ fs, ∃ x, DataW.trod enc P W 0 (fun _ => true) true n f.type ((cs.drop f.offset).take (P.cellsOf f.type)) = some x) → cs.length = off + ty.size → ∃ y, Rep ty W Z (cs.drop off) y
  | [], off, ty, h, hx, hl => by
    cases ty <;> simp [isFs] at h
    exact ⟨(), by rw [List.drop_of_length_le (by simp [Ty.size] at hl; omega)]; rfl⟩
  | [f], off, ty, h, hx, hl => by
    have h' : (Nat.beq f.offset off && r f.type ty && Nat.beq (P.cellsOf f.type) ty.size) = true := by cases ty <;> exact h
    simp only [Bool.and_eq_true] at h'
    obtain ⟨x, hx⟩ := hx f (by simp)
    obtain ⟨y, hy⟩ := hr h'.1.2 hx
    rw [Nat.eq_of_beq_eq_true h'.1.1, Nat.eq_of_beq_eq_true h'.2, List.take_of_length_le (by rw [List.length_drop]; omega)] at hy
    exact ⟨y, hy⟩
  | f :: g :: fs, off, ty, h, hx, hl => by
    cases ty <;> simp only [isFs] at h <;> try cases h
    rename_i a b
    simp only [Bool.and_eq_true] at h
    obtain ⟨⟨⟨h1, h2⟩, h3⟩, h4⟩ := h
    obtain ⟨x, hx1⟩ := hx f (by simp)
    obtain ⟨y, hy⟩ := hr h2 hx1
    rw [Nat.eq_of_beq_eq_true h1, Nat.eq_of_beq_eq_true h3] at hy
    obtain ⟨z, hz⟩ := isFs_ok hr h4 (fun q hq => hx q (List.mem_cons_of_mem _ hq)) (by rw [hl]; simp only [Ty.size]; omega)
    exact ⟨(y, z), (cs.drop off).take a.size, cs.drop (off + a.size), by rw [← List.drop_drop, List.take_append_drop], hy, hz⟩
theorem open_ty : ∀ {m n : Nat} {T : TypeId} {ty : Ty} {cs : List Value} {x : DataW H × List MemPlace}, isTy P m T ty = true → DataW.trod enc P W 0 (fun _ => true) true n T cs = some x → ∃ y, Rep ty W (fun b => b < W.heap.size) cs y
  | 0, _, _, _, _, _, h, _ => by cases h
  | m + 1, n, T, ty, cs, x, h, hx => by
    simp only [isTy] at h
    split at h
    · rename_i k hu
      cases ty <;> simp only at h <;> try cases h
      rename_i k'
      have := of_decide_eq_true h
      subst this
      obtain ⟨z, e, _, hw⟩ := DataW.trod_int hu hx
      exact ⟨z, e, by simp only [Lit.wf, Bool.and_eq_true, decide_eq_true_eq] at hw; exact hw⟩
    · rename_i hu
      cases ty <;> simp only at h <;> try cases h
      obtain ⟨b, e, _⟩ := DataW.trod_bool hu hx
      exact ⟨b, e⟩
    · rename_i hu
      cases ty <;> simp only at h <;> try cases h
      obtain ⟨s, e, _⟩ := DataW.trod_string hu hx
      exact ⟨s, e⟩
    · rename_i e hu
      cases ty <;> simp only at h <;> try cases h
      rename_i t
      simp only [Bool.and_eq_true] at h
      have hsz := Nat.eq_of_beq_eq_true h.1.2
      rcases DataW.trod_slice hu hx with ⟨hc, _⟩ | ⟨a, len, cap, elems, rest, q, hq, hc, _, _, hlc, hcm, hel, hget, _⟩
      · exact ⟨[], none, 0, hc, Nat.le_refl _, Nat.zero_le _, fun _ => rfl, .inl rfl⟩
      · by_cases h0 : len = 0
        · subst h0
          exact ⟨[], some a, cap, hc, Nat.zero_le _, hcm, fun hh => (by cases hh), .inl rfl⟩
        · have hone : ∀ i, i < len → ∃ ec y, ec.length = t.size ∧ CellsAt W (a.add (i * t.size)) ec ∧ Rep t W (fun b => b < W.heap.size) ec y := fun i hi => by
            have h1 := hget i hi
            rw [List.getElem?_eq_getElem (by omega), hsz] at h1
            obtain ⟨ec, hec, hx2⟩ := Option.bind_eq_some_iff.1 h1
            obtain ⟨g1, g2⟩ := cells?_at hec
            obtain ⟨y, hy⟩ := open_ty (m := m) h.1.1 hx2
            exact ⟨ec, y, g1, g2, hy⟩
          obtain ⟨e0, y0, g1, g2, _⟩ := hone 0 (by omega)
          have hs1 := Nat.le_of_ble_eq_true h.2
          obtain ⟨v0, hv0⟩ := el_some (l := e0) (i := 0) (by omega)
          have hcell := g2 0 v0 hv0
          have ha0 : (a.add (0 * t.size)).add 0 = a := by simp [Addr.add]
          rw [ha0] at hcell
          have hsp := spot_none hcell
          obtain ⟨b, o, sp⟩ := a
          simp only at hsp
          subst hsp
          have hb : b < W.heap.size := block_lt_of_cell hcell
          obtain ⟨ec, l, k1, _, k3, k4⟩ := elems_each (R := Rep t W (fun b => b < W.heap.size)) (b := b) (o := o) (sz := t.size) len (fun i hi => by
            obtain ⟨ec, y, q1, q2, q3⟩ := hone i hi
            rw [add_lit] at q2
            exact ⟨ec, y, q1, q2, q3⟩)
          exact ⟨l, some ⟨b, o, none⟩, cap, by rw [hc, k1], by omega, hcm, fun hh => (by cases hh), .inr ⟨b, o, ec, rfl, hb, k3, k4⟩⟩
    · rename_i fs hu
      simp only [Bool.and_eq_true] at h
      obtain ⟨xs, q, hq, _, hl, hxl, hf⟩ := DataW.trod_struct hu hx
      have := isFs_ok (enc := enc) (P := P) (W := W) (n := q) (Z := fun b => b < W.heap.size) (cs := cs) (fun hh hx => open_ty (m := m) hh hx) h.1 (fun f hf' => by
        obtain ⟨i, hi, he⟩ := List.getElem_of_mem hf'
        have hi' : i < fs.size := by simpa using hi
        have h1 := hf i f (by rw [Array.getElem?_eq_getElem hi']; simpa using he)
        rw [List.getElem?_eq_getElem (by omega)] at h1
        exact ⟨_, h1⟩) (by rw [hl, Nat.eq_of_beq_eq_true h.2]; omega)
      simpa using this
    · cases h
end
end Go.Vc
/- All arguments of a row, opened; and from what a law's function does to the row's words. -/
namespace Go.Vc
open Go Go.RowKit Go.Gw Go.ChangeShapes Go.WideShapes Go.ChangeAt
def aggB (P : Program) (T : TypeId) (a : Bool) : Bool := match P.underlying T with
  | some (.struct _) => a
  | _ => !a
def argsOk (P : Program) : List TypeId → List AM → Bool
  | [], [] => true
  | T :: ts, .val a ty :: as => isTy P 40 T ty && aggB P T a && argsOk P ts as
  | _, _ => false
section
variable {H : Type} {enc : TypeId × Value → H} {P : Program} {W : World}
theorem open_val {m : Nat} {T : TypeId} {ty : Ty} {a : Bool} {r : Reach} {b0 : Nat} {v : Value} {d : DataW H} {p : List MemPlace} (h : isTy P m T ty = true) (ha : aggB P T a = true) (hv : Value.okWide P W r b0 T v) (hd : DataW.Trod enc P W 0 (fun _ => true) true T v d p) :
    ∃ y, RepV a ty W (fun b => b < W.heap.size) v y := by
  obtain ⟨n, hd⟩ := hd
  obtain ⟨y, hy⟩ := open_ty h hd
  refine ⟨y, ?_⟩
  cases m with
  | zero => cases h
  | succ m =>
    simp only [isTy] at h
    unfold aggB at ha
    split at h
    · rename_i k hu
      simp only [hu, Bool.not_eq_true'] at ha
      obtain ⟨n, rfl⟩ := okWide_int hu hv
      subst ha; exact hy
    · rename_i hu
      simp only [hu, Bool.not_eq_true'] at ha
      obtain ⟨n, rfl⟩ := okWide_bool hu hv
      subst ha; exact hy
    · rename_i hu
      simp only [hu, Bool.not_eq_true'] at ha
      obtain ⟨n, rfl⟩ := okWide_string hu hv
      subst ha; exact hy
    · rename_i e hu
      simp only [hu, Bool.not_eq_true'] at ha
      obtain ⟨x1, x2, x3, rfl⟩ := okWide_slice hu hv
      subst ha; exact hy
    · rename_i fs hu
      simp only [hu] at ha
      obtain ⟨cs, rfl, _⟩ := okWide_struct hu hv
      subst ha
      exact ⟨cs.toList, by simp, hy⟩
    · cases h
theorem open_args {r : Reach} {b0 : Nat} : ∀ {ts : List TypeId} {as : List AM} {vs : List Value} {ds : List (DataW H)} {ps : List MemPlace}, argsOk P ts as = true → DataW.TrodAll enc P W 0 (fun _ => true) true ts vs ds ps → (∀ (j : Nat) (t : TypeId) (v : Value), ts[j]? = some t → vs[j]? = some v → Value.okWide P W r b0 t v) → ∃ x, RepAs P W (fun b => b < W.heap.size) as vs x
  | [], [], vs, ds, ps, _, h, _ => by
    cases vs with
    | nil => exact ⟨(), rfl⟩
    | cons _ _ => cases ds <;> exact h.elim
  | [], _ :: _, _, _, _, h, _, _ => by cases h
  | _ :: _, [], _, _, _, h, _, _ => by cases h
  | T :: ts, .row _ _ :: _, _, _, _, h, _, _ => by cases h
  | T :: ts, .box _ _ :: _, _, _, _, h, _, _ => by cases h
  | T :: ts, .fn _ _ :: _, _, _, _, h, _, _ => by cases h
  | T :: ts, .rows _ _ _ :: _, _, _, _, h, _, _ => by cases h
  | T :: ts, .val a ty :: as, vs, ds, ps, h, hA, hv => by
    simp only [argsOk, Bool.and_eq_true] at h
    obtain ⟨v, vs', d, ds', p, q, rfl, rfl, rfl, h1, h2⟩ := trodAll_cons hA
    obtain ⟨y, hy⟩ := open_val h.1.1 h.1.2 (hv 0 T v rfl rfl) h1
    obtain ⟨z, hz⟩ := open_args h.2 h2 (fun j t u ht hu => hv (j + 1) t u (by simpa using ht) (by simpa using hu))
    exact ⟨(y, z), v, vs', rfl, hy, hz⟩
/-- What a law's function is said to do. -/
def lawSpec (as : List AM) : FSpec := { args := as, res := [.val false .bool], pre := fun _ => True, post := fun _ r => r.1 = true }
theorem law_calls {f : FuncId} {as : List AM} {vs : List Value} {x : dens as} (ha : allVal as = true) (hm : Meets P f (lawSpec as)) (h : RepAs P W (fun b => b < W.heap.size) as vs x) : Gw.Ret P f vs W fun v W' => v = .bool true ∧ Ext W W' := by
  refine (hm W _ vs x (fun _ h => h) h (by show Dis W (mutPs as vs); rw [allVal_ps ha]; trivial) trivial).mono fun v w' ⟨hx, r, o, us, Zn, hpost, _, hv, _, hrep, _⟩ => ⟨?_, hx.ext (fun b ⟨u, hu, _⟩ => by rw [show mutPs (lawSpec as).args vs = [] from allVal_ps ha vs] at hu; cases hu)⟩
  obtain ⟨u, us', e, h1, _, h2⟩ := hrep
  rw [show us' = [] from h2] at e
  subst e
  have h1 : [u] = [Value.bool r.1] := h1
  have hr : r.1 = true := hpost
  rw [hr] at h1
  rw [hv]
  simpa [valOf] using h1
theorem spOk_nil : SpOk P [] := fun _ _ h => by cases h
theorem spOk_cons {f : FuncId} {s : FSpec} {l : Specs} (h1 : Meets P f s) (h2 : SpOk P l) : SpOk P ((f, s) :: l) := fun g t h => by
  unfold findO at h
  cases hb : Nat.beq f g with
  | true =>
    rw [hb] at h
    obtain rfl := Nat.eq_of_beq_eq_true hb
    obtain rfl : s = t := by simpa using h
    exact h1
  | false => rw [hb] at h; exact h2 g t h
end
end Go.Vc
