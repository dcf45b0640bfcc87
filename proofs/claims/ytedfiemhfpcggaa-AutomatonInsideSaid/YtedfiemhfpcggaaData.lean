/- The data of the automaton's statements: a unit, the lists of its states; plain definitions and lemmas. -/
import Derived.Test.YtedfiemhfpcggaaGwMap
namespace Go.Proofs.Ytedfiemhfpcggaa
open Go.Gw Go.RowKit
structure U where
  (nm bus mn mx segs noload rup rdn sramp pramp : Value)
  (up dn st hc cc hh : Int)
  (res rpr away : Value)
  (state hours : Int)
  (out : Value)
def U.cells (u : U) : Array Value := #[u.nm, u.bus, u.mn, u.mx, u.segs, u.noload, u.rup, u.rdn, u.sramp, u.pramp, .int .i64 u.up, .int .i64 u.dn, .int .i64 u.st, .int .i64 u.hc, .int .i64 u.cc, .int .i64 u.hh, u.res, u.rpr, u.away, .int .i64 u.state, .int .i64 u.hours, u.out]
abbrev St := Int × Int
def stc (s : St) : List Value := [.int .i64 s.1, .int .i64 s.2]
def ic (i : Int) : List Value := [.int .i64 i]
def addKey {κ : Type} [DecidableEq κ] (k : κ) (ks : List κ) : List κ := if k ∈ ks then ks else ks ++ [k]

def soundB (u : U) : Bool := decide (0 ≤ u.up ∧ u.up ≤ 24 ∧ 0 ≤ u.dn ∧ u.dn ≤ 24 ∧ 0 ≤ u.st ∧ u.st ≤ 24 ∧ 0 ≤ u.hh ∧ u.hh ≤ 24 ∧ (u.state = 0 ∨ u.state = 1 ∨ u.state = 2) ∧ 1 ≤ u.hours ∧ u.hours ≤ 48 ∧ (u.state = 1 → u.hours ≤ u.st))
theorem sound_spec {u : U} (h : soundB u = true) : 0 ≤ u.up ∧ u.up ≤ 24 ∧ 0 ≤ u.dn ∧ u.dn ≤ 24 ∧ 0 ≤ u.st ∧ u.st ≤ 24 ∧ 0 ≤ u.hh ∧ u.hh ≤ 24 ∧ (u.state = 0 ∨ u.state = 1 ∨ u.state = 2) ∧ 1 ≤ u.hours ∧ u.hours ≤ 48 ∧ (u.state = 1 → u.hours ≤ u.st) := of_decide_eq_true h
def tl (u : U) : List Int := [u.up, u.dn, u.st, u.hh]
theorem tl_at (u : U) (g : Nat) (h : g < 4) : (#[Value.int .i64 u.up, .int .i64 u.dn, .int .i64 u.st, .int .i64 u.hh] : Array Value)[((g : Int)).toNat]? = some (.int .i64 ((tl u).getD g 0)) := by
  match g, h with
  | 0, _ => rfl
  | 1, _ => rfl
  | 2, _ => rfl
  | 3, _ => rfl
theorem tl_step (u : U) (g : Nat) (h : g < 4) (ht : ∀ t ∈ (tl u).take g, 0 ≤ t ∧ t ≤ 24) (h1 : 0 ≤ (tl u).getD g 0) (h2 : (tl u).getD g 0 ≤ 24) : ∀ t ∈ (tl u).take (g + 1), 0 ≤ t ∧ t ≤ 24 := by
  intro t hm
  rw [List.take_succ_eq_append_getElem (by simp [tl]; omega)] at hm
  rcases List.mem_append.1 hm with hm | hm
  · exact ht t hm
  · have : (tl u).getD g 0 = t := by
      have hl : g < (tl u).length := by simp [tl]; omega
      simp at hm
      rw [List.getD_eq_getElem?_getD, List.getElem?_eq_getElem hl]
      simpa using hm.symm
    subst this
    exact ⟨h1, h2⟩
theorem tl_all (u : U) (g : Nat) (ht : ∀ t ∈ (tl u).take g, 0 ≤ t ∧ t ≤ 24) (h : 4 ≤ g) : 0 ≤ u.up ∧ u.up ≤ 24 ∧ 0 ≤ u.dn ∧ u.dn ≤ 24 ∧ 0 ≤ u.st ∧ u.st ≤ 24 ∧ 0 ≤ u.hh ∧ u.hh ≤ 24 := by
  rw [List.take_of_length_le (by simp [tl]; omega)] at ht
  have a := ht u.up (by simp [tl]); have b := ht u.dn (by simp [tl]); have c := ht u.st (by simp [tl]); have d := ht u.hh (by simp [tl])
  omega
theorem tl_bad (u : U) (g : Nat) (h : g < 4) : (tl u).getD g 0 = u.up ∨ (tl u).getD g 0 = u.dn ∨ (tl u).getD g 0 = u.st ∨ (tl u).getD g 0 = u.hh := by
  match g, h with
  | 0, _ => exact .inl rfl
  | 1, _ => exact .inr (.inl rfl)
  | 2, _ => exact .inr (.inr (.inl rfl))
  | 3, _ => exact .inr (.inr (.inr rfl))
def capOff (u : U) : Int := max (max u.dn (u.hh + 1)) 1
def capOn (u : U) : Int := max u.up 1
theorem cap_bd {u : U} (h : soundB u = true) : 1 ≤ capOff u ∧ capOff u ≤ 25 ∧ 1 ≤ capOn u ∧ capOn u ≤ 24 ∧ u.dn ≤ capOff u ∧ u.hh + 1 ≤ capOff u ∧ u.up ≤ capOn u := by
  have := sound_spec h
  unfold capOff capOn
  omega
/-- The states of one kind. -/
def run (k : Int) (n : Nat) : List St := (List.range n).map fun (i : Nat) => (k, (i : Int) + 1)
theorem run_succ (k : Int) (n : Nat) : run k (n + 1) = run k n ++ [(k, (n : Int) + 1)] := by simp [run, List.range_succ]
@[simp] theorem run_length (k : Int) (n : Nat) : (run k n).length = n := by simp [run]
theorem run_zero (k : Int) : run k 0 = [] := rfl
def statesL (u : U) : List St := run 0 (capOff u).toNat ++ run 1 u.st.toNat ++ run 2 (capOn u).toNat
def statesF (u : U) : List St := if soundB u = true then statesL u else []
theorem statesF_len (u : U) : (statesF u).length ≤ 100 := by
  unfold statesF
  split
  · rename_i h
    have h1 := cap_bd h; have h2 := sound_spec h
    simp [statesL]; omega
  · simp
theorem run_get (k : Int) (n i : Nat) : (run k n)[i]? = if i < n then some (k, (i : Int) + 1) else none := by
  simp only [run, List.getElem?_map]
  split
  · rename_i h; simp [List.getElem?_range h]
  · rename_i h; rw [List.getElem?_eq_none (by simpa using h)]; rfl
theorem run_mem {k : Int} {n : Nat} {s : St} : s ∈ run k n ↔ s.1 = k ∧ 1 ≤ s.2 ∧ s.2 ≤ n := by
  obtain ⟨a, b⟩ := s
  simp only [run, List.mem_map, List.mem_range, Prod.mk.injEq]
  constructor
  · rintro ⟨i, hi, rfl, rfl⟩; omega
  · rintro ⟨rfl, h1, h2⟩; exact ⟨(b - 1).toNat, by omega, rfl, by omega⟩
/-- The position of a state. -/
def posF (u : U) (k h : Int) : Int :=
  if soundB u = false ∨ h < 1 then -1
  else if k = 0 ∧ h ≤ capOff u then h - 1
  else if k = 1 ∧ h ≤ u.st then capOff u + h - 1
  else if k = 2 ∧ h ≤ capOn u then capOff u + u.st + h - 1
  else -1
/-- linear search -/
def idxF {α : Type} (p : α → Bool) (l : List α) : Int := if l.findIdx p < l.length then (l.findIdx p : Int) else -1
theorem idxF_hit {α : Type} {p : α → Bool} {l : List α} {g : Nat} {a : α} (hb : ∀ j x, j < g → l[j]? = some x → p x = false) (ha : l[g]? = some a) (hp : p a = true) : idxF p l = (g : Int) := by
  have hlt := el_lt ha
  have hg : l[g] = a := by rw [List.getElem?_eq_getElem hlt] at ha; exact Option.some.inj ha
  have : l.findIdx p = g := (List.findIdx_eq hlt).2 ⟨by rw [hg]; exact hp, fun j hj => hb j _ hj (List.getElem?_eq_getElem _)⟩
  unfold idxF
  rw [this, if_pos hlt]
theorem idxF_miss {α : Type} {p : α → Bool} {l : List α} {g : Nat} (hb : ∀ j x, j < g → l[j]? = some x → p x = false) (hg : l.length ≤ g) : idxF p l = -1 := by
  have : l.findIdx p = l.length := List.findIdx_eq_length.2 (fun x hx => by
    obtain ⟨j, hj⟩ := List.mem_iff_getElem?.1 hx
    exact hb j x (by have := el_lt hj; omega) hj)
  unfold idxF
  rw [this, if_neg (by omega)]
theorem bef_step {α : Type} {p : α → Bool} {l : List α} {g : Nat} {a : α} (hb : ∀ j x, j < g → l[j]? = some x → p x = false) (ha : l[g]? = some a) (hp : p a = false) : ∀ j x, j < g + 1 → l[j]? = some x → p x = false := by
  intro j x hj hx
  by_cases h : j = g
  · subst h; rw [ha] at hx; cases hx; exact hp
  · exact hb j x (by omega) hx
theorem any_hit {α : Type} {p : α → Bool} {l : List α} {g : Nat} {a : α} (ha : l[g]? = some a) (hp : p a = true) : l.any p = true := List.any_eq_true.2 ⟨a, List.mem_of_getElem? ha, hp⟩
theorem any_miss {α : Type} {p : α → Bool} {l : List α} {g : Nat} (hb : ∀ j x, j < g → l[j]? = some x → p x = false) (hg : l.length ≤ g) : l.any p = false := by
  rw [List.any_eq_false]
  intro x hx
  obtain ⟨j, hj⟩ := List.mem_iff_getElem?.1 hx
  rw [hb j x (by have := el_lt hj; omega) hj]; simp
theorem idxF_nonneg {α : Type} (p : α → Bool) (l : List α) : (0 ≤ idxF p l) ↔ l.any p = true := by
  unfold idxF
  by_cases h : l.findIdx p < l.length
  · rw [if_pos h]
    constructor
    · intro _; exact List.any_eq_true.2 ⟨l[l.findIdx p], List.getElem_mem _, List.findIdx_getElem⟩
    · intro _; omega
  · rw [if_neg h]
    have : l.findIdx p = l.length := by have := List.findIdx_le_length (p := p) (xs := l); omega
    rw [List.findIdx_eq_length] at this
    constructor
    · intro h; omega
    · intro h; obtain ⟨x, hx, hp⟩ := List.any_eq_true.1 h; rw [this x hx] at hp; cases hp
/-- The initial state. -/
def initF (u : U) : St :=
  if soundB u = false then (0, 0)
  else if u.state = 0 then (0, min u.hours (capOff u))
  else if u.state = 2 then (2, min u.hours (capOn u))
  else (u.state, u.hours)
def isB (u : U) (k h : Int) : Bool := decide (0 ≤ posF u k h)
/-- The successors. -/
def nextF (u : U) (k h : Int) : List St :=
  if posF u k h < 0 then []
  else if k = 0 then (0, min (h + 1) (capOff u)) :: (if u.dn ≤ h then [if 0 < u.st then (1, 1) else (2, 1)] else [])
  else if k = 1 then [if h < u.st then (1, h + 1) else (2, 1)]
  else (if u.up ≤ h then [(0, 1)] else []) ++ [(2, min (h + 1) (capOn u))]
theorem nextF_len (u : U) (k h : Int) : (nextF u k h).length ≤ 2 := by
  unfold nextF
  repeat' split
  all_goals simp
def follF (u : U) (k h : Int) (t : St) : Bool := (nextF u k h).any fun s => decide (s.1 = t.1 ∧ s.2 = t.2)
def costF (u : U) (k h : Int) (t : St) : Int :=
  if k = 0 ∧ t.1 ≠ 0 ∧ follF u k h t = true then (if h ≤ u.hh then u.hc else u.cc) else 0
theorem posF_in {u : U} {k h : Int} (hp : 0 ≤ posF u k h) : soundB u = true ∧ 1 ≤ h ∧ (k = 0 ∧ h ≤ capOff u ∨ k = 1 ∧ h ≤ u.st ∨ k = 2 ∧ h ≤ capOn u) := by
  unfold posF at hp
  cases hs : soundB u
  · simp [hs] at hp
  · simp only [hs] at hp
    refine ⟨rfl, ?_⟩
    repeat' split at hp
    all_goals omega
def allowF (aw : List Int) (hour kind : Int) : Bool := decide (kind = 0 ∨ ((kind = 1 ∨ kind = 2) ∧ hour ∉ aw))
theorem decide_or_neg {p : Prop} [Decidable p] (h : ¬ p) : false = decide p := (decide_eq_false h).symm
end Go.Proofs.Ytedfiemhfpcggaa
