/- Small lemmas for the walks' ends. -/
import Derived.Test.YtedfiemhfpcggaaData
namespace Go.Proofs.Ytedfiemhfpcggaa
open Go.Gw Go.RowKit
theorem tmod_bd (v : Int) {n : Int} (hn : 0 < n) : -n < v.tmod n ∧ v.tmod n < n := by
  constructor
  · by_cases h : 0 ≤ v
    · have := Int.tmod_nonneg n h; omega
    · have := Int.neg_tmod v n
      have h2 := Int.tmod_lt_of_pos (-v) hn
      omega
  · exact Int.tmod_lt_of_pos v hn
theorem agg2 {a b c d : Int} (h1 : a = c) (h2 : b = d) : Value.agg #[.int .i64 a, .int .i64 b] = .agg #[.int .i64 c, .int .i64 d] := by rw [h1, h2]
def sm (v n : Int) : Int := (v.tmod n + n).tmod n
theorem sm_bd (v : Int) {n : Int} (hn : 0 < n) : 0 ≤ sm v n ∧ sm v n < n := by
  have h := tmod_bd v hn
  unfold sm
  exact ⟨Int.tmod_nonneg n (by omega), Int.tmod_lt_of_pos _ hn⟩
theorem cost_k {u : U} {k h : Int} {t : St} (hk : k ≠ 0) : costF u k h t = 0 := by unfold costF; rw [if_neg (fun hh => hk hh.1)]
theorem cost_t {u : U} {k h : Int} {t : St} (ht : t.1 = 0) : costF u k h t = 0 := by unfold costF; rw [if_neg (fun hh => hh.2.1 ht)]
theorem cost_f {u : U} {k h : Int} {t : St} (hf : follF u k h t = false) : costF u k h t = 0 := by unfold costF; rw [if_neg (fun hh => by rw [hf] at hh; cases hh.2.2)]
theorem cost_hot {u : U} {k h : Int} {t : St} (hk : k = 0) (ht : t.1 ≠ 0) (hf : follF u k h t = true) (hh : h ≤ u.hh) : costF u k h t = u.hc := by unfold costF; rw [if_pos ⟨hk, ht, hf⟩, if_pos hh]
theorem cost_cold {u : U} {k h : Int} {t : St} (hk : k = 0) (ht : t.1 ≠ 0) (hf : follF u k h t = true) (hh : ¬ h ≤ u.hh) : costF u k h t = u.cc := by unfold costF; rw [if_pos ⟨hk, ht, hf⟩, if_neg hh]
/-- A unit brought near to a sound one. -/
def U.ok (u : U) : Prop := u.nm.oneCell' = true ∧ u.bus.oneCell' = true ∧ u.mn.oneCell' = true ∧ u.mx.oneCell' = true ∧ u.segs.oneCell' = true ∧ u.noload.oneCell' = true ∧ u.rup.oneCell' = true ∧ u.rdn.oneCell' = true ∧ u.sramp.oneCell' = true ∧ u.pramp.oneCell' = true ∧ u.res.oneCell' = true ∧ u.rpr.oneCell' = true ∧ u.away.oneCell' = true ∧ u.out.oneCell' = true
def nstate (u : U) : Int := sm u.state 3
def nst (u : U) : Int := if nstate u = 1 ∧ sm u.st 3 = 0 then 1 else sm u.st 3
def nhours (u : U) : Int := if nstate u = 1 then 1 + sm (1 + sm u.hours 6) (nst u) else 1 + sm u.hours 6
def mkNear (u : U) (st state hours : Int) (av : Value) : U := { u with up := sm u.up 4, dn := sm u.dn 4, st := st, hh := sm u.hh 4, state := state, hours := hours, away := av }
def nearU (u : U) (av : Value) : U := mkNear u (nst u) (nstate u) (nhours u) av
theorem near_eq {u : U} {a b c : Int} {av : Value} (h1 : a = nst u) (h2 : b = nstate u) (h3 : c = nhours u) : Value.agg (mkNear u a b c av).cells = .agg (nearU u av).cells := by rw [h1, h2, h3]; rfl
def nearA (aw : List Int) : List Int := (aw.take 4).map fun x => sm x 12
theorem nearA_step {aw : List Int} {g : Nat} {a : Int} (ha : aw[g]? = some a) : (aw.take (g + 1)).map (fun x => sm x 12) = (aw.take g).map (fun x => sm x 12) ++ [sm a 12] := by
  have hlt := el_lt ha
  rw [List.take_succ_eq_append_getElem hlt]
  rw [List.getElem?_eq_getElem hlt] at ha
  simp [Option.some.inj ha]
theorem take_eq {l : List Int} {g : Nat} (h : l.length ≤ g ∨ g = 4) (hg : g ≤ 4) : l.take 4 = l.take g := by
  rcases h with h | h
  · rw [List.take_of_length_le h, List.take_of_length_le (by omega)]
  · rw [h]
theorem near_sound (u : U) (av : Value) : soundB (nearU u av) = true := by
  have h1 := sm_bd u.up (n := 4) (by omega); have h2 := sm_bd u.dn (n := 4) (by omega); have h3 := sm_bd u.st (n := 3) (by omega); have h4 := sm_bd u.hh (n := 4) (by omega)
  have h5 := sm_bd u.state (n := 3) (by omega); have h6 := sm_bd u.hours (n := 6) (by omega)
  have hst : 0 ≤ nst u ∧ nst u ≤ 24 ∧ (nstate u = 1 → 1 ≤ nst u) := by unfold nst nstate; split <;> omega
  have hh : 1 ≤ nhours u ∧ nhours u ≤ 48 ∧ (nstate u = 1 → nhours u ≤ nst u) := by
    unfold nhours
    split
    · rename_i hs
      have := sm_bd (1 + sm u.hours 6) (n := nst u) (by have := hst.2.2 hs; omega)
      omega
    · omega
  refine decide_eq_true ?_
  simp only [nearU, mkNear]
  unfold nstate at *
  omega
def keysOf (l : List Int) : List Int := l.foldl (fun ks k => addKey k ks) []
theorem keysOf_step {aw : List Int} {g : Nat} {a : Int} (ha : aw[g]? = some a) : keysOf (aw.take (g + 1)) = addKey a (keysOf (aw.take g)) := by
  have hlt := el_lt ha
  rw [List.take_succ_eq_append_getElem hlt]
  rw [List.getElem?_eq_getElem hlt] at ha
  simp [keysOf, Option.some.inj ha]
theorem mem_addKey {κ : Type} [DecidableEq κ] {x k : κ} {ks : List κ} : x ∈ addKey k ks ↔ x = k ∨ x ∈ ks := by
  unfold addKey
  split
  · rename_i h
    constructor
    · exact .inr
    · rintro (h' | h')
      · rw [h']; exact h
      · exact h'
  · simp [or_comm]
theorem mem_keysOf {x : Int} (l : List Int) : x ∈ keysOf l ↔ x ∈ l := by
  have key : ∀ (l acc : List Int), x ∈ l.foldl (fun ks k => addKey k ks) acc ↔ x ∈ acc ∨ x ∈ l := by
    intro l
    induction l with
    | nil => intro acc; simp
    | cons a l ih =>
      intro acc
      rw [List.foldl_cons, ih, mem_addKey]
      simp only [List.mem_cons]
      constructor
      · rintro ((h | h) | h)
        · exact .inr (.inl h)
        · exact .inl h
        · exact .inr (.inr h)
      · rintro (h | h | h)
        · exact .inl (.inr h)
        · exact .inl (.inl h)
        · exact .inr h
  unfold keysOf
  rw [key]; simp
/-- The unit of the examples. -/
def exU : U := { nm := .string ⟨#[]⟩, bus := .int .i64 0, mn := .int .i64 0, mx := .int .i64 0, segs := .slice none 0 0, noload := .int .i64 0, rup := .int .i64 0, rdn := .int .i64 0, sramp := .int .i64 0, pramp := .int .i64 0, up := 2, dn := 1, st := 1, hc := 5, cc := 9, hh := 2, res := .int .i64 0, rpr := .int .i64 0, away := .slice none 0 0, state := 0, hours := 5, out := .int .i64 0 }
end Go.Proofs.Ytedfiemhfpcggaa
