/- Part. -/
import Derived.Shelf.SlSortCmp.NoneTotal
import Derived.Lib.QuietBelow
import Derived.Shelf.SlGeneric
import Derived.Shelf.SlIterI.Sorted
import Derived.Shelf.SortM.Plain
import Derived.Shelf.SortM.SortNone
import Derived.Shelf.SlicesG.Cmp
import Derived.Ground.GgzProg
import Derived.Ground.SlsfProg
import Derived.Ground.SlgmProg
import Derived.Ground.SlgcProg
import Derived.Test.YtkdmjgcjpmcjjaaGreatProg
import Derived.Test.YtkdmjgcjpmcjjaaGreatK2EG
namespace Go.Proofs.YtkdmjgcjpmcjjaaGreat
open Go.Vc Go.Gw
theorem D1m {j : Nat} (f : Nat -> Rat) : ∀ {n : Nat}, j <= n -> A0k (n + 1) f = A0k n (fun l => f (if l < j then l else l + 1)) + f j
  | 0, h => by
    have : j = 0 := by omega
    subst this; rfl
  | n + 1, h => by
    by_cases hj : j = n + 1
    . subst hj
      rw [A0k, A4e (n := n + 1) (g := fun l => f (if l < n + 1 then l else l + 1)) fun i hi => by rw [if_pos hi]]
    . rw [A0k, D1m f (by omega : j <= n), A0k, if_neg (show ¬ n < j by omega)]
      grind
theorem F0j {X : List T9} {j : Nat} (hj : j < X.length) (l : Nat) : (X.take j ++ X.drop (j + 1)).getD l zr = X.getD (if l < j then l else l + 1) zr := by
  rw [List.getD_eq_getElem?_getD, List.getD_eq_getElem?_getD]
  by_cases hl : l < j
  . rw [if_pos hl, List.getElem?_append_left (by rw [List.length_take]; omega), List.getElem?_take, if_pos hl]
  . have e : j + 1 + (l - j) = l + 1 := by omega
    rw [if_neg hl, List.getElem?_append_right (by rw [List.length_take]; omega), List.length_take, Nat.min_eq_left (by omega), List.getElem?_drop, e]
theorem F7h (n : Nat) (A B Y : Nat -> Rat) (b p : Rat) : A0k n (fun l => (A l - b * B l / p) * Y l) = A0k n (fun l => A l * Y l) - b / p * A0k n (fun l => B l * Y l) := by
  induction n with
  | zero => simp only [A0k]; grind
  | succ n ih => rw [A0k, A0k, A0k, ih]; simp only [Rat.div_def]; grind
theorem F5t {s1 s2 b p a x c : Rat} (hp : p ≠ 0) (h1 : a = s1 + b * x) (h2 : c = s2 + p * x) : s1 - b / p * s2 = a - b * c / p := by
  subst h1; subst h2
  simp only [Rat.div_def]
  have : p * p⁻¹ = 1 := Rat.mul_inv_cancel _ hp
  grind
theorem F5j {m : C9p} {i j r n : Nat} {X : List T9} (hX : X.length = n + 1) (hj : j < n + 1) (hp : el m i j ≠ 0) (k : Nat) (hk : (if k < i then k else k + 1) = r) : A0k n (fun l => E5f m i j k l * rv ((X.take j ++ X.drop (j + 1)).getD l zr)) = A0k (n + 1) (fun l => el m r l * rv (X.getD l zr)) - el m r j * A0k (n + 1) (fun l => el m i l * rv (X.getD l zr)) / el m i j := by
  have e1 : A0k n (fun l => E5f m i j k l * rv ((X.take j ++ X.drop (j + 1)).getD l zr)) = A0k n fun l => (el m r (if l < j then l else l + 1) - el m r j * el m i (if l < j then l else l + 1) / el m i j) * rv (X.getD (if l < j then l else l + 1) zr) := A4e fun l _ => by
    rw [F0j (by omega)]
    unfold E5f
    rw [hk]
  rw [e1, F7h n (fun l => el m r (if l < j then l else l + 1)) (fun l => el m i (if l < j then l else l + 1)) (fun l => rv (X.getD (if l < j then l else l + 1) zr))]
  exact F5t hp (D1m (fun l => el m r l * rv (X.getD l zr)) (by omega : j <= n)) (D1m (fun l => el m i l * rv (X.getD l zr)) (by omega : j <= n))
theorem A3r (x : A6 C5.args) (hw : awf C5.args x) (hp : C5.pre x) : O5 x := by
  obtain ⟨l, i0, j0, _⟩ := x
  change List Int at l
  simp only [O5]
  refine ⟨trivial, ?_⟩
  rintro ⟨⟨l0, t0⟩, _⟩ _ h0
  change Int at t0
  change List Int at l0
  simp only at h0 ⊢
  have ht0 : 0 <= t0 /\ t0 <= (l0.length : Int) := by cases h0; exact ⟨Int.le_refl _, by omega⟩
  refine ⟨⟨by omega, ht0⟩, ?_⟩
  rintro ⟨a, _⟩ ⟨⟨l1, t1⟩, _⟩ _ _ ha h1
  change Int at t1 a
  change List Int at l1
  simp only at ha h1 ⊢
  obtain ⟨rfl, h1⟩ := h1
  refine ⟨⟨by omega, h1⟩, ?_⟩
  rintro ⟨b, _⟩ ⟨⟨l2, t2⟩, _⟩ _ _ hb h2
  change Int at t2 b
  change List Int at l2
  simp only at hb h2 ⊢
  obtain ⟨rfl, h2⟩ := h2
  rw [wr (a := 1 + a) (by omega) (by omega), wr (a := 1 + b) (by omega) (by omega)]
  refine ⟨⟨by omega, by omega, by omega, by omega, h2⟩, ?_⟩
  rintro ⟨m, _⟩ ⟨⟨l3, t3⟩, _⟩ hmw _ hm h3
  have hlm0 : ∀ v ∈ m.2.2, F5c v := fun v hv => C2b (hmw.1.2.2.2 v hv).2
  change Int at t3
  change List Int at l3
  simp only at hm h3 ⊢
  obtain ⟨rfl, h3⟩ := h3
  obtain ⟨f, hq, hm⟩ := hm
  have m1 : m.1 = 1 + a := by have : m.1 = ((1 + a).toNat : Int) := hm.1; omega
  have m2 : m.2.1 = 1 + b := by have : m.2.1 = ((1 + b).toNat : Int) := hm.2.1; omega
  have hv := A7s hm (by omega) (by omega)
  have hlm := G1k hm
  have hs := F1l hm (k := 1) (by decide) fun i j _ _ => hq i j
  have hs0 : okM K0 m := C7w hs (by decide)
  have hs1 : okM K1 m := C7w hs (by decide)
  have hel : ∀ i j, qs 1 (el m i j) := fun i j => F2u hv hlm hs (by decide) i j
  refine ⟨⟨by omega, h3⟩, ?_⟩
  rintro ⟨X, _⟩ ⟨⟨l4, t4⟩, _⟩ hXw _ hX h4
  change Int at t4
  change List Int at l4
  change List T9 at X
  simp only at hX h4 ⊢
  obtain ⟨rfl, h4⟩ := h4
  obtain ⟨hXl, hXq⟩ := hX
  have hXl : X.length = (b.toNat + 1) := by rw [m2] at hXl; omega
  have hlx : ∀ q ∈ X, F8v q := fun q hq => D9g (hXw.1.2 q hq)
  have hxs : szL K0 X := fun e he => E5x (hXq e he) (by decide)
  have hxq : ∀ j, qs 1 (rv (X.getD j zr)) := fun j => by
    by_cases hj : j < X.length
    . exact F4s (hXq _ (K9 hj))
    . rw [List.getD_eq_getElem?_getD, List.getElem?_eq_none (by omega)]; exact A6j (by decide)
  refine ⟨by omega, ?_⟩
  rintro ⟨i, _⟩ _ hi
  change Int at i
  simp only at hi ⊢
  have hi := hi (by omega)
  refine ⟨by omega, ?_⟩
  rintro ⟨j, _⟩ _ hj
  change Int at j
  simp only at hj ⊢
  have hj := hj (by omega)
  have hin : 0 <= i /\ i < m.1 /\ 0 <= j /\ j < m.2.1 := ⟨hi.1, hi.2, hj.1, hj.2⟩
  refine ⟨hs0, ?_⟩
  rintro ⟨s, e, _⟩ _ ⟨_, hse⟩
  change Int at e
  simp only at hse ⊢
  have hse := (hse hv).2 hin
  refine ⟨hs1, ?_⟩
  rintro ⟨p, _⟩ _ hpv
  simp only at hpv ⊢
  rw [if_pos ⟨hv, hin⟩] at hpv
  have hpr : rv p = el m i.toNat j.toNat := by rw [hpv, Z7]
  have hps : sh3 p := by rw [hpv]; exact A3e (hel _ _) (by decide)
  refine ⟨hps, ?_⟩
  rintro ⟨g, _⟩ _ hg
  change Int at g
  simp only at hg ⊢
  rw [hpr] at hg
  rw [hpr]
  refine ⟨fun h => ?_, fun h => ?_⟩
  . have h := of_decide_eq_true h
    rw [hg] at h
    obtain ⟨_, he⟩ := hse.1 (G2k.1 h)
    refine ⟨fun _ => trivial, ?_⟩
    rintro ⟨b, _⟩ hb
    simp only at hb ⊢
    rw [(hb (decide_eq_true he)).2, decide_eq_true he]; rfl
  have h := of_decide_eq_false h
  have hne : el m i.toNat j.toNat ≠ 0 := fun h2 => h (by rw [hg]; exact G2k.2 h2)
  obtain ⟨hS, he⟩ := hse.2 hne
  have s1 : s.1 = a := by have : s.1 = ((m.1 - 1).toNat : Int) := hS.1; omega
  have s2 : s.2.1 = b := by have : s.2.1 = ((m.2.1 - 1).toNat : Int) := hS.2.1; omega
  have hSv := A7s hS (by omega) (by omega)
  have hpq := fun a b => G1v hlm hs (by decide) hv i.toNat j.toNat a b
  have hSs : okM K0 s := C7w (F1l hS (k := 4 * 1 + 1) (by decide) fun a b _ _ => hpq a b) (by decide)
  refine ⟨⟨hs0, hxs, by omega⟩, ?_⟩
  rintro ⟨B, e2, _⟩ _ ⟨_, hB⟩
  change Int at e2
  change List T9 at B
  simp only at hB ⊢
  obtain ⟨hB, _⟩ := (hB hv).2 (by omega)
  rw [wr (a := j + 1) (by omega) (by omega)]
  have hjX : j.toNat < X.length := by omega
  have d1 : List.drop (Int.toNat 0) (List.take j.toNat X) = X.take j.toNat := rfl
  have d2 : List.drop (j + 1).toNat (List.take ((X.length : Int)).toNat X) = X.drop (j.toNat + 1) := by
    rw [Int.toNat_natCast, List.take_length, show (j + 1).toNat = j.toNat + 1 from by omega]
  rw [d1, d2]
  have c1 : (X.take j.toNat).length = j.toNat := by rw [List.length_take]; omega
  have c2 : (X.drop (j.toNat + 1)).length = b.toNat - j.toNat := by rw [List.length_drop]; omega
  refine ⟨⟨Int.le_refl _, hj.1, by omega⟩, ⟨by omega, by omega, Int.le_refl _⟩, ⟨by rw [c1]; omega, by rw [c1]; omega⟩, ⟨by rw [c1, c2]; omega, by rw [c1, c2]; omega⟩, ⟨hSs, fun e he => ?_, by omega⟩, ?_⟩
  . rcases List.mem_append.1 he with he | he
    . exact hxs e (List.mem_of_mem_take he)
    . exact hxs e (List.mem_of_mem_drop he)
  rintro ⟨Z, e3, _⟩ _ ⟨_, hZ⟩
  change Int at e3
  change List T9 at Z
  simp only at hZ ⊢
  have hrl : (X.take j.toNat ++ X.drop (j.toNat + 1)).length = b.toNat := by rw [List.length_append, c1, c2]; omega
  rw [hrl] at hZ
  obtain ⟨hZ, he3⟩ := (hZ hSv).2 (by omega)
  have hZl : Z.length = a.toNat := by rw [hZ, s1]; simp
  have hBl : B.length = a.toNat + 1 := by rw [hB]; simp; omega
  have hZat : ∀ k : Int, 0 <= k -> k < a -> gx dQ Z k = rc (A0k b.toNat fun l => el s k.toNat l * rv ((X.take j.toNat ++ X.drop (j.toNat + 1)).getD l zr)) := fun k k0 k1 => by
    rw [U9 k0 (by omega), hZ, List.getD_eq_getElem?_getD, List.getElem?_map, List.getElem?_range (by omega)]; rfl
  have hBat : ∀ k : Int, 0 <= k -> k < m.1 -> gx dQ B k = rc (A0k (b.toNat + 1) fun l => el m k.toNat l * rv (X.getD l zr)) := fun k k0 k1 => by
    rw [U9 k0 (by omega), hB, hXl, List.getD_eq_getElem?_getD, List.getElem?_map, List.getElem?_range (by omega)]; rfl
  have hBq : ∀ k, qs ((b.toNat + 1) * (1 + 1 + 1) + 1) (A0k (b.toNat + 1) fun l => el m k l * rv (X.getD l zr)) := fun k => G1n fun l _ => A9v (hel _ _) (hxq _)
  have hBq : ∀ k, qs 13 (A0k (b.toNat + 1) fun l => el m k l * rv (X.getD l zr)) := fun k => B7g (hBq k) (by omega)
  refine ⟨trivial, ?_⟩
  rintro ⟨w, _⟩ _ hwk
  simp only at hwk ⊢
  subst hwk
  rw [wr (a := m.1 - 1) (by omega) (by omega)]
  simp only [S9]
  refine ⟨fun h5 => ?_, fun _ => ?_⟩
  . simp only [Bool.or_eq_true, decide_eq_true_eq, Bool.not_eq_true'] at h5
    rcases h5 with ((h5 | h5) | h5) | h5
    . cases h5
    . exact absurd he h5
    . exact absurd he3 h5
    . omega
  refine ⟨fun p => 0 <= p.1 /\ p.1 <= m.1, fun p => (m.1 - p.1).toNat, ⟨Int.le_refl _, by show 0 <= m.1; omega⟩, ?_⟩
  rintro ⟨r, _⟩ _ ⟨r0, r1⟩
  change Int at r
  simp only at r0 r1 ⊢
  refine ⟨fun h6 => ?_, fun _ => by trivial⟩
  have h6 := of_decide_eq_true h6
  refine ⟨fun _ => True, ⟨fun _ => trivial, fun h7 => ?_⟩, ?_⟩
  . have h7 := of_decide_eq_false h7
    refine ⟨fun p => 0 <= p.1 /\ p.1 < a /\ (if p.1.toNat < i.toNat then p.1.toNat else p.1.toNat + 1) = r.toNat, ⟨fun h8 => ?_, fun h8 => ?_⟩, ?_⟩
    . have h8 := of_decide_eq_true h8
      rw [wr (by omega) (by omega)]
      refine ⟨by show 0 <= r - 1; omega, by show r - 1 < a; omega, ?_⟩
      show (if (r - 1).toNat < i.toNat then (r - 1).toNat else (r - 1).toNat + 1) = r.toNat
      rw [if_neg (by omega)]; omega
    . have h8 := of_decide_eq_false h8
      refine ⟨r0, by show r < a; omega, ?_⟩
      show (if r.toNat < i.toNat then r.toNat else r.toNat + 1) = r.toNat
      rw [if_pos (by omega)]
    . rintro ⟨k, _⟩ _ ⟨k0, k1, hk⟩
      change Int at k
      simp only at k0 k1 hk ⊢
      rw [hZat k k0 k1, hBat r r0 h6, hBat i hi.1 hi.2]
      refine ⟨⟨k0, by omega⟩, ⟨r0, by omega⟩, ⟨hi.1, by omega⟩, hs1, ?_⟩
      rintro ⟨y, _⟩ _ hy
      simp only at hy ⊢
      rw [if_pos ⟨hv, r0, h6, hj.1, hj.2⟩] at hy
      refine ⟨⟨by rw [hy]; exact A3e (hel _ _) (by decide), A3e (hBq _) (by decide)⟩, ?_⟩
      rintro ⟨u, _⟩ _ hu
      simp only at hu ⊢
      rw [hy, Z7, Z7] at hu
      refine ⟨⟨by rw [hu]; exact A3e (A9v (hel _ _) (hBq _)) (by decide), hps⟩, ?_⟩
      rintro ⟨o, _⟩ _ ho
      simp only at ho ⊢
      have ho := ho hne
      rw [hu, Z7] at ho
      refine ⟨⟨A3e (hBq _) (by decide), by rw [ho]; exact A3e (F9i (A9v (hel _ _) (hBq _)) (hel _ _)) (by decide)⟩, ?_⟩
      rintro ⟨d, _⟩ _ hd
      simp only at hd ⊢
      rw [ho, Z7, Z7] at hd
      refine ⟨trivial, ?_⟩
      rintro ⟨z, _⟩ _ hz
      simp only at hz ⊢
      have hz : z = true := by
        rw [hz]
        refine decide_eq_true ?_
        rw [hd]
        congr 1
        rw [<- F5j hXl (by omega) hne k.toNat hk]
        refine A4e fun l hl => ?_
        rw [B5t hS (by omega) (by omega)]
      subst hz
      exact ⟨fun h9 => (by cases h9), fun _ => trivial⟩
  . rintro _ _ _
    rw [wr (by omega) (by omega)]
    exact ⟨⟨by omega, by omega⟩, by omega⟩
end Go.Proofs.YtkdmjgcjpmcjjaaGreat
namespace Go.Vc
open Go Go.RowKit Go.Gw Go.Shelf
structure El (t : Ty) (w : World) (Z : Nat -> Prop) where
  c : List Value
  v : t.den
  h : Rep t w Z c v
theorem E6v {t : Ty} {w : World} {Z : Nat -> Prop} : ∀ {l : List t.den} {xs : List Value}, Q4 (Rep t w Z) xs l -> ∃ L : List (El t w Z), L.flatMap El.c = xs /\ L.map El.v = l
  | [], _, h => ⟨[], h.symm, rfl⟩
  | x :: l, _, ⟨c1, c2, e, h1, h2⟩ => by
    obtain ⟨L, i1, i2⟩ := E6v h2
    exact ⟨⟨c1, x, h1⟩ :: L, by rw [List.flatMap_cons, i1, e], by rw [List.map_cons, i2]⟩
theorem E8e {t : Ty} {w w' : World} {Z Z' : Nat -> Prop} (hm : ∀ c x, Rep t w Z c x -> Rep t w' Z' c x) : ∀ L : List (El t w Z), Q4 (Rep t w' Z') (L.flatMap El.c) (L.map El.v)
  | [] => rfl
  | p :: L => ⟨p.c, L.flatMap El.c, rfl, hm _ _ p.h, E8e hm L⟩
theorem E6g {α : Type} {enc : α -> List Value} {k : Nat} (hk : ∀ x, (enc x).length = k) : ∀ (L : List α) (i r : Nat) {x : α}, L[i]? = some x -> r < k -> (L.flatMap enc)[i * k + r]? = (enc x)[r]?
  | [], _, _, _, h, _ => by cases h
  | y :: L, 0, r, x, h, hr => by
    simp only [List.getElem?_cons_zero, Option.some.injEq] at h
    subst h
    rw [List.flatMap_cons, Nat.zero_mul, Nat.zero_add, List.getElem?_append_left (by rw [hk]; exact hr)]
  | y :: L, i + 1, r, x, h, hr => by
    rw [List.getElem?_cons_succ] at h
    have e : (i + 1) * k + r - k = i * k + r := by rw [Nat.succ_mul]; omega
    rw [List.flatMap_cons, List.getElem?_append_right (by rw [hk, Nat.succ_mul]; omega), hk, e]
    exact E6g hk L i r h hr
theorem E6j {α : Type} {enc : α -> List Value} {k : Nat} (hk : ∀ x, (enc x).length = k) : ∀ L : List α, (L.flatMap enc).length = L.length * k
  | [] => by simp
  | x :: L => by rw [List.flatMap_cons, List.length_append, E6j hk L, hk, List.length_cons, Nat.succ_mul]; omega
theorem E7q {α : Type} [Inhabited α] {enc : α -> List Value} {k : Nat} (hk : ∀ x, (enc x).length = k) (d : Array α) {j : Nat} (hj : j < d.size * k) : (d.toList.flatMap enc)[j]? = some (Go.Sort.flatK enc k d)[j]! := by
  have hk0 : 0 < k := by
    rcases Nat.eq_zero_or_pos k with h | h
    . rw [h, Nat.mul_zero] at hj; omega
    . exact h
  have hi : j / k < d.size := (Nat.div_lt_iff_lt_mul hk0).2 hj
  have hr : j % k < k := Nat.mod_lt _ hk0
  have e : j = j / k * k + j % k := by rw [Nat.mul_comm]; exact (Nat.div_add_mod j k).symm
  rw [Go.Sort.get_flatK enc k d j hj]
  have hx : d.toList[j / k]? = some d[j / k]! := by
    rw [Array.getElem?_toList, Array.getElem?_eq_getElem hi, getElem!_pos d _ hi]
  have := E6g hk d.toList (j / k) (j % k) hx hr
  rw [<- e] at this
  have hl : j % k < (enc d[j / k]!).length := by rw [hk]; exact hr
  rw [this, List.getElem?_eq_getElem hl, getElem!_pos (enc d[j / k]!) (j % k) hl]
theorem F1r {F cur : Array Value} {n : Nat} {xs : List Value} (hx : xs.length = n) (hF : F.size = n) (hn : n <= cur.size) (h : ∀ j, j < n -> xs[j]? = some F[j]!) : (Go.Sort.putCells id 0 F cur).size = cur.size /\ (Go.Sort.putCells id 0 F cur).toList.take n = xs := by
  refine ⟨by simp [Go.Sort.putCells], ?_⟩
  apply List.ext_getElem?
  intro j
  by_cases hj : j < n
  . rw [List.getElem?_take_of_lt hj, h j hj, Array.getElem?_toList]
    unfold Go.Sort.putCells
    rw [Array.getElem?_mapIdx, Array.getElem?_eq_getElem (by omega)]
    simp only [Option.map_some]
    rw [if_pos ⟨Nat.zero_le _, by omega⟩]
    rfl
  . rw [List.getElem?_eq_none (by simp; omega), List.getElem?_eq_none (by omega)]
theorem F7t {α : Type} [Inhabited α] {d d' : Array α} (h : Go.Sort.PermIn 0 d.size d d') : d'.toList.Perm d.toList := by
  obtain ⟨h1, _, h3⟩ := h
  rw [Array.toList_extract, Array.toList_extract] at h3
  simpa [List.extract_eq_take_drop, List.take_of_length_le, h1] using h3
theorem E8i {α : Type} [Inhabited α] {lt : α -> α -> Bool} {d' : Array α} {n : Nat} (hn : d'.size = n) (h : Go.Sort.SortedIn lt 0 n d') : d'.toList.Pairwise fun a b => lt b a = false := by
  rw [List.pairwise_iff_getElem]
  intro i j hi hj hij
  have hi' : i < d'.size := by simpa using hi
  have hj' : j < d'.size := by simpa using hj
  have := h i j (Nat.zero_le _) hij (by omega)
  rw [getElem!_pos d' i hi', getElem!_pos d' j hj'] at this
  simpa using this
theorem G0l {w : World} {b m : Nat} {f : Array Value -> Array Value} {os : Array Obj} : w.heap.size <= (Go.Sort.grow (Go.Sort.mapBlock (Go.Sort.ahead w m) b f) os).heap.size := by
  simp [Go.Sort.grow, Go.Sort.mapBlock, Go.Sort.ahead]
theorem E7v {w : World} {b m j : Nat} {f : Array Value -> Array Value} {os : Array Obj} (hj : j < w.heap.size) (hne : j ≠ b) : (Go.Sort.grow (Go.Sort.mapBlock (Go.Sort.ahead w m) b f) os).heap[j]? = w.heap[j]? := by
  rw [Go.Sort.heap_grow_old _ _ (by simpa [Go.Sort.mapBlock, Go.Sort.ahead] using hj)]
  unfold Go.Sort.mapBlock
  simp only
  rw [Array.getElem?_modify, if_neg (Ne.symm hne)]
  rfl
theorem G1b {w : World} {b m : Nat} {f : Array Value -> Array Value} {os : Array Obj} {cur : Array Value} {e : TypeId} (hh : w.heap[b]? = some (.cells cur e (0, 0))) : (Go.Sort.grow (Go.Sort.mapBlock (Go.Sort.ahead w m) b f) os).heap[b]? = some (.cells (f cur) e (0, 0)) := by
  have hj : b < w.heap.size := (Array.getElem?_eq_some_iff.1 hh).1
  rw [Go.Sort.heap_grow_old _ _ (by simpa [Go.Sort.mapBlock, Go.Sort.ahead] using hj)]
  unfold Go.Sort.mapBlock
  simp only
  rw [Array.getElem?_modify, if_pos rfl]
  have : (Go.Sort.ahead w m).heap[b]? = some (.cells cur e (0, 0)) := hh
  rw [this]
  rfl
theorem B3u {P : Program} {f : FuncId} (he : A5s P f = true) (args : Array Value) (w : World) : (callFunc f args).run P w = .ok (.enter f args) w := by
  unfold A5s at he
  split at he
  . rename_i fn hfn
    simp only [Bool.and_eq_true, Bool.not_eq_true'] at he
    have h2 : ¬ fn.body = none := by intro hb; rw [hb] at he; simp at he
    have h1 : ¬ fn.name = "runtime.NumGoroutine" := by simpa using he.1
    simp [callFunc, hfn, h1, h2, go_sem]
  . cases he
theorem G1o {α β : Type} {φ : α -> α -> Int} (v : β -> α) (h1 : ∀ a, ¬ φ a a < 0) (h2 : ∀ a b c, φ a b < 0 -> φ b c < 0 -> φ a c < 0) (h3 : ∀ a b c, ¬ φ a b < 0 -> ¬ φ b c < 0 -> ¬ φ a c < 0) :
    Go.Sort.SWO (Go.Proofs.ltOf fun x y : β => φ (v x) (v y)) := by
  refine ⟨fun x => ?_, fun x y z h h' => ?_, fun x y z h h' => ?_⟩
  . exact decide_eq_false (h1 _)
  . exact decide_eq_true (h2 _ _ _ (of_decide_eq_true h) (of_decide_eq_true h'))
  . exact decide_eq_false (h3 _ _ _ (of_decide_eq_false h) (of_decide_eq_false h'))
theorem F1k {t : Ty} {φ : t.den -> t.den -> Int} {e : TypeId} {w w' : World} {Z : Nat -> Prop} {fv : Value} {g cap : Nat} {cur F : Array Value} {k : Nat} {x : List t.den} {L L' : List (El t w Z)}
    (hZ : ∀ b, Z b -> b < w.heap.size) (hgZ : ¬ Z g) (hk : t.size = k)
    (hheap : w.heap[g]? = some (.cells cur e (0, 0))) (hcap : L.length <= cap) (hmax : cap <= maxLen) (hcs : cur.size = cap * k) (hLx : L.map El.v = x)
    (hp : L'.Perm L) (hs : L'.Pairwise fun a b => ¬ φ b.v a.v < 0)
    (hF : F.size = L.length * k) (hFx : ∀ j, j < L.length * k -> (L'.flatMap El.c)[j]? = some F[j]!)
    (hos : w'.os = w.os) (htape : w'.tape = w.tape) (hout : w'.output = w.output) (hsz : w.heap.size <= w'.heap.size)
    (hblk : ∀ j, j < w.heap.size -> j ≠ g -> w'.heap[j]? = w.heap[j]?) (hg : w'.heap[g]? = some (.cells (Go.Sort.putCells id 0 F cur) e (0, 0))) :
    C1x (F8s w (Y8 t e φ).args [.slice (some ⟨g, 0, none⟩) L.length cap, fv]) w w' /\ ∃ (r : A5m (Y8 t e φ).res) (o : D2h (Y8 t e φ).args) (us : List Value) (Zn : Nat -> Prop), (Y8 t e φ).post (x, ()) r /\ (T3 (Y8 t e φ).args = true -> (Y8 t e φ).mpost (x, ()) r o) /\ Value.tuple #[] = D0j us /\ (∀ b, Zn b -> (w.heap.size <= b /\ b < w'.heap.size) \/ ((Y8 t e φ).shared = true /\ Z b)) /\ C3t w.heap.size w' Zn (Y8 t e φ).res us r /\ D9y w w' Zn (Y8 t e φ).args [.slice (some ⟨g, 0, none⟩) L.length cap, fv] o := by
  have hlen : L'.length = L.length := hp.length_eq
  have hc : ∀ p : El t w Z, p.c.length = k := fun p => by rw [<- hk]; exact Rep.length p.h
  have hxl : (L'.flatMap El.c).length = L.length * k := by rw [E6j hc, hlen]
  obtain ⟨p1, p2⟩ := F1r hxl hF (by rw [hcs]; exact Nat.mul_le_mul_right _ hcap) hFx
  have hsame : W9 Z w w' := fun b hb => hblk b (hZ b hb) (fun e => hgZ (e ▸ hb))
  refine ⟨⟨hos, htape, hout, hsz, fun j hj hm => hblk j hj (fun ej => hm ?_), trivial⟩, (), (L'.map El.v, ()), [], Z, trivial, fun _ => ⟨?_, ?_⟩, rfl, fun b hb => .inr ⟨rfl, hb⟩, rfl, ?_⟩
  . subst ej
    refine ⟨(.row t e, .slice (some ⟨j, 0, none⟩) L.length cap), List.mem_cons_self, ?_⟩
    rfl
  . rw [<- hLx]; exact hp.map _
  . exact List.pairwise_map.2 hs
  . refine ⟨⟨L'.flatMap El.c, ⟨?_, .inr ⟨g, cap, Go.Sort.putCells id 0 F cur, ?_, Nat.zero_le _, hg, ?_, hmax, ?_, ?_⟩⟩, ?_⟩, trivial⟩
    . simp only [List.length_map]; rw [hxl, hlen, hk]
    . simp only [List.length_map, hlen]
    . simp only [List.length_map, hlen]; exact hcap
    . rw [p1, hcs, hk]
    . simp only [List.length_map, hlen, hk]; exact p2
    . refine E8e (fun c y hy => ?_) L'
      exact Rep.mono (fun b hb => hb) hsame hy
def G2n (P : Program) (g : FuncId) (t : Ty) (φ : t.den -> t.den -> Int) : Prop :=
  ∀ (w : World) (Z : Nat -> Prop) (c1 c2 : List Value) (x y : t.den), Rep t w Z c1 x -> Rep t w Z c2 y -> Calls P g #[.agg c1.toArray, .agg c2.toArray] w fun e w' => e = .returned (.int .i64 (φ x y)) /\ ∃ q os, w' = Go.Sort.grow (w.drewN q) os
theorem F6e {P : Program} {ρ : Ren} (LL : Go.Proofs.SlLaysF0.n6 P ρ) {t : Ty} {e : TypeId} {g : FuncId} {φ : t.den -> t.den -> Int} (aE : ∀ w, (isAgg (ρ.t 24)).run P w = .ok true w) (zE : ∀ w, (Go.sizeOf (ρ.t 24)).run P w = .ok t.size w)
    (h1 : ∀ a, ¬ φ a a < 0) (h2 : ∀ a b c, φ a b < 0 -> φ b c < 0 -> φ a c < 0) (h3 : ∀ a b c, ¬ φ a b < 0 -> ¬ φ b c < 0 -> ¬ φ a c < 0) (hen : A5s P g = true) (hcm : G2n P g t φ) : F1m P (ρ.f 6) g t e φ := by
  rintro w Z v l hZ ⟨xs, hown, hea, hZv⟩ hlen
  obtain ⟨L, rfl, rfl⟩ := E6v hea
  have hL : (L.map El.v).length = L.length := List.length_map ..
  rw [hL] at hown hlen
  obtain ⟨hxs, hv⟩ := hown
  have hnone : ∀ (p : Option Addr) (cap : Nat), L = [] -> Gw.Ret P (ρ.f 6) [.slice p 0 cap, .func (.func g) #[] #[]] w fun u w' => u = .tuple #[] /\ w' = w := fun p cap _ =>
    Calls.mono (Go.Proofs.AnyF.slices_SortFunc_none LL p cap (.func (.func g) #[] #[]) w) fun _ _ ⟨he, hw⟩ => ⟨_, he, rfl, hw⟩
  rcases hv with ⟨rfl, hn⟩ | ⟨b, cap, cur, rfl, _, hheap, hcap, hmax, hcs, htake⟩
  . have hL0 : L = [] := List.eq_nil_of_length_eq_zero hn
    subst hL0
    refine (hnone none 0 rfl).mono ?_
    rintro _ _ ⟨rfl, rfl⟩
    refine ⟨C1x.of (Ext.refl _), (), ([], ()), [], (fun _ => False), trivial, fun _ => ⟨List.Perm.refl _, List.Pairwise.nil⟩, rfl, fun _ hb => hb.elim, rfl, ⟨⟨[], World.ownsRow_nil _ _ _ _, rfl⟩, trivial⟩⟩
  . have hbZ : ¬ Z b := hZv b rfl
    have hc : ∀ p : El t w Z, p.c.length = t.size := fun p => Rep.length p.h
    have hbl : b < w.heap.size := (Array.getElem?_eq_some_iff.1 hheap).1
    rcases hL0 : L with _ | ⟨p0, L0⟩
    . subst hL0
      refine (hnone _ cap rfl).mono ?_
      rintro _ _ ⟨rfl, rfl⟩
      refine ⟨C1x.of (Ext.refl _), (), ([], ()), [], (fun _ => False), trivial, fun _ => ⟨List.Perm.refl _, List.Pairwise.nil⟩, rfl, fun _ hb => hb.elim, rfl, ⟨⟨[], ⟨by simp, .inr ⟨b, cap, cur, rfl, Nat.zero_le _, hheap, hcap, hmax, hcs, by simp⟩⟩, rfl⟩, trivial⟩⟩
    . rw [<- hL0]
      clear hnone
      haveI : Inhabited (El t w Z) := ⟨p0⟩
      have hH : Go.Sort.HoldsK El.c t.size w b 0 L.toArray := by
        intro j hj
        rw [Go.Sort.size_flatK] at hj
        have hj' : j < L.length * t.size := by simpa using hj
        have h5 := E7q hc L.toArray hj
        rw [Nat.zero_add]
        refine ⟨?_, ?_⟩
        . have h6 : cur[j]? = some (Go.Sort.flatK El.c t.size L.toArray)[j]! := by
            rw [<- h5]
            simp only
            rw [<- htake, List.getElem?_take_of_lt hj', Array.getElem?_toList]
          simp only [World.cell?, hheap]
          exact h6
        . simp [World.frozen?, hheap]
      have hcmp : Go.Proofs.CmpLays P g #[] El.c t.size (fun x y : El t w Z => φ x.v y.v) b 0 L.toArray.size w := by
        intro m os dk hdk x y
        have hsame : W9 Z w (Go.Proofs.sortWorldK El.c t.size w b 0 m dk os) := by
          intro i hi
          have : i ≠ b := fun e => hbZ (e ▸ hi)
          exact E7v (hZ i hi) this
        exact hcm _ Z x.c y.c x.v y.v (Rep.mono (fun _ h => h) hsame x.h) (Rep.mono (fun _ h => h) hsame y.h)
      have hcall := Go.Proofs.AnyQ.slices_SortFunc LL t.size aE zE El.c hc (fun x => Rep.oneCell x.h) (fun x y : El t w Z => φ x.v y.v) (G1o El.v h1 h2 h3) g #[] b 0 cap L.toArray w (B3u hen) hcmp hH hbl (by simp; omega)
      refine Calls.mono hcall ?_
      rintro _ w' ⟨rfl, d', n, os, hperm, hsort, rfl⟩
      refine ⟨_, rfl, ?_⟩
      have hp := F7t hperm
      have hs := E8i hperm.1 hsort
      have hds : d'.size = L.length := by rw [hperm.1]; simp
      refine F1k (k := t.size) (F := Go.Sort.flatK El.c t.size d') (L := L) (L' := d'.toList) (cur := cur) (x := L.map El.v) hZ hbZ rfl hheap hcap hmax hcs rfl hp ?_ ?_ ?_ rfl rfl rfl ?_ ?_ ?_
      . exact hs.imp fun h => of_decide_eq_false h
      . rw [Go.Sort.size_flatK, hds]
      . intro j hj; exact E7q hc d' (by rw [hds]; exact hj)
      . exact G0l
      . intro i hi hne
        exact E7v hi hne
      . exact G1b hheap
end Go.Vc
namespace Go.Proofs
open Go.Shelf
def Tryz.sortEnt_ren : Go.Shelf.Ren := ⟨fun | 6 => 112 | 15 => 167 | 14 => 166 | 28 => 208 | 29 => 209 | 20 => 200 | 21 => 201 | 22 => 202 | 23 => 203 | 24 => 204 | 25 => 205 | 26 => 206 | 27 => 207 | 46 => 229 | 47 => 230 | 48 => 231 | 49 => 232 | 50 => 233 | 57 => 244 | n => n, fun | 22 => 92 | 24 => 94 | 25 => 142 | 3 => 3 | 39 => 176 | 0 => 0 | 53 => 153 | 55 => 144 | 4 => 4 | 46 => 194 | 45 => 193 | 50 => 198 | 5 => 5 | 9 => 9 | 66 => 217 | 70 => 221 | 76 => 231 | 77 => 232 | n => n, fun | n => n⟩
theorem Tryz.sortEnt : Go.Proofs.SlLaysF0.n6 Tryz.prog Tryz.sortEnt_ren := {
  mixed := by kernel_rfl
  f6 := ⟨Tryz.f112.name, by decide, Tryz.func112.trans (congrArg some (by kernel_rfl))⟩
  f14 := ⟨Tryz.f166.name, by decide, Tryz.func166.trans (congrArg some (by kernel_rfl))⟩
  f15 := Tryz.func167.trans (congrArg some (by kernel_rfl))
  f20 := ⟨Tryz.f200.name, by decide, Tryz.func200.trans (congrArg some (by kernel_rfl))⟩
  f21 := ⟨Tryz.f201.name, by decide, Tryz.func201.trans (congrArg some (by kernel_rfl))⟩
  f22 := ⟨Tryz.f202.name, by decide, Tryz.func202.trans (congrArg some (by kernel_rfl))⟩
  f23 := ⟨Tryz.f203.name, by decide, Tryz.func203.trans (congrArg some (by kernel_rfl))⟩
  f24 := ⟨Tryz.f204.name, by decide, Tryz.func204.trans (congrArg some (by kernel_rfl))⟩
  f25 := ⟨Tryz.f205.name, by decide, Tryz.func205.trans (congrArg some (by kernel_rfl))⟩
  f26 := ⟨Tryz.f206.name, by decide, Tryz.func206.trans (congrArg some (by kernel_rfl))⟩
  f27 := ⟨Tryz.f207.name, by decide, Tryz.func207.trans (congrArg some (by kernel_rfl))⟩
  f28 := Tryz.func208.trans (congrArg some (by kernel_rfl))
  f29 := Tryz.func209.trans (congrArg some (by kernel_rfl))
  f46 := ⟨Tryz.f229.name, by decide, Tryz.func229.trans (congrArg some (by kernel_rfl))⟩
  f47 := Tryz.func230.trans (congrArg some (by kernel_rfl))
  f48 := Tryz.func231.trans (congrArg some (by kernel_rfl))
  f49 := ⟨Tryz.f232.name, by decide, Tryz.func232.trans (congrArg some (by kernel_rfl))⟩
  f50 := ⟨Tryz.f233.name, by decide, Tryz.func233.trans (congrArg some (by kernel_rfl))⟩
  f57 := ⟨Tryz.f244.name, by decide, Tryz.func244.trans (congrArg some (by kernel_rfl))⟩
  t0 := Tryz.underlying0
  a0 := Tryz.isAgg0
  z0 := Tryz.sizeOf0
  v0 := Tryz.zeroValue0
  t3 := Tryz.underlying3
  a3 := Tryz.isAgg3
  z3 := Tryz.sizeOf3
  v3 := Tryz.zeroValue3
  t4 := Tryz.underlying4
  a4 := Tryz.isAgg4
  z4 := Tryz.sizeOf4
  v4 := Tryz.zeroValue4
  t5 := Tryz.underlying5
  a5 := Tryz.isAgg5
  z5 := Tryz.sizeOf5
  v5 := Tryz.zeroValue5
  t9 := Tryz.underlying9
  a9 := Tryz.isAgg9
  z9 := Tryz.sizeOf9
  v9 := Tryz.zeroValue9
  t22 := Tryz.underlying92
  a22 := Tryz.isAgg92
  z22 := Tryz.sizeOf92
  v22 := Tryz.zeroValue92
  t25 := Tryz.underlying142
  a25 := Tryz.isAgg142
  z25 := Tryz.sizeOf142
  v25 := Tryz.zeroValue142
  t39 := Tryz.underlying176
  a39 := Tryz.isAgg176
  z39 := Tryz.sizeOf176
  v39 := Tryz.zeroValue176
  t45 := Tryz.underlying193
  a45 := Tryz.isAgg193
  z45 := Tryz.sizeOf193
  v45 := Tryz.zeroValue193
  t46 := Tryz.underlying194
  a46 := Tryz.isAgg194
  z46 := Tryz.sizeOf194
  v46 := Tryz.zeroValue194
  t50 := Tryz.underlying198
  a50 := Tryz.isAgg198
  z50 := Tryz.sizeOf198
  v50 := Tryz.zeroValue198
  t53 := Tryz.underlying153
  a53 := Tryz.isAgg153
  z53 := Tryz.sizeOf153
  v53 := Tryz.zeroValue153
  t55 := Tryz.underlying144
  a55 := Tryz.isAgg144
  z55 := Tryz.sizeOf144
  v55 := Tryz.zeroValue144
  t66 := Tryz.underlying217
  a66 := Tryz.isAgg217
  z66 := Tryz.sizeOf217
  v66 := Tryz.zeroValue217
  t70 := Tryz.underlying221
  a70 := Tryz.isAgg221
  z70 := Tryz.sizeOf221
  v70 := Tryz.zeroValue221
  t76 := Tryz.underlying231
  a76 := Tryz.isAgg231
  z76 := Tryz.sizeOf231
  v76 := Tryz.zeroValue231
  t77 := Tryz.underlying232
  a77 := Tryz.isAgg232
  z77 := Tryz.sizeOf232
  v77 := Tryz.zeroValue232 }
def Tryz.sortedInt_ren : Go.Shelf.Ren := ⟨fun | 6 => 174 | 8 => 213 | 9 => 214 | 11 => 235 | 13 => 167 | 12 => 236 | 23 => 208 | 24 => 209 | 14 => 246 | 15 => 247 | 16 => 248 | 17 => 249 | 18 => 250 | 19 => 251 | 20 => 252 | 21 => 253 | 22 => 254 | 25 => 257 | 26 => 230 | 27 => 231 | 28 => 258 | 29 => 259 | 30 => 168 | 31 => 261 | n => n, fun | 26 => 3 | 28 => 182 | 24 => 25 | 0 => 0 | 3 => 3 | 37 => 176 | 48 => 153 | 50 => 144 | 4 => 4 | 40 => 194 | 39 => 193 | 45 => 198 | 5 => 5 | 9 => 9 | 51 => 217 | 55 => 221 | 57 => 231 | 58 => 232 | 33 => 137 | n => n, fun | n => n⟩
theorem Tryz.sortedInt : Go.Proofs.SlLaysZI.n6 Tryz.prog Tryz.sortedInt_ren := {
  mixed := by kernel_rfl
  f6 := ⟨Tryz.f174.name, by decide, Tryz.func174.trans (congrArg some (by kernel_rfl))⟩
  f8 := ⟨Tryz.f213.name, by decide, Tryz.func213.trans (congrArg some (by kernel_rfl))⟩
  f11 := ⟨Tryz.f235.name, by decide, Tryz.func235.trans (congrArg some (by kernel_rfl))⟩
  t0 := Tryz.underlying0
  a0 := Tryz.isAgg0
  z0 := Tryz.sizeOf0
  v0 := Tryz.zeroValue0
  t24 := Tryz.underlying25
  a24 := Tryz.isAgg25
  z24 := Tryz.sizeOf25
  v24 := Tryz.zeroValue25
  t26 := Tryz.underlying3
  a26 := Tryz.isAgg3
  z26 := Tryz.sizeOf3
  v26 := Tryz.zeroValue3
  t28 := Tryz.underlying182
  a28 := Tryz.isAgg182
  z28 := Tryz.sizeOf182
  v28 := Tryz.zeroValue182
  i26 := by kernel_rfl }
def Tryz.keysGo_ren : Go.Shelf.Ren := ⟨fun | 10 => 215 | n => n, fun | 33 => 137 | 23 => 179 | 0 => 0 | 4 => 4 | 26 => 3 | 3 => 31 | n => n, fun | n => n⟩
theorem Tryz.keysGo : Go.Proofs.SlLaysZI.n10 Tryz.prog Tryz.keysGo_ren := {
  mixed := by kernel_rfl
  f10 := ⟨Tryz.f215.name, by decide, Tryz.func215.trans (congrArg some (by kernel_rfl))⟩
  t0 := Tryz.underlying0
  a0 := Tryz.isAgg0
  z0 := Tryz.sizeOf0
  v0 := Tryz.zeroValue0
  t4 := Tryz.underlying4
  a4 := Tryz.isAgg4
  z4 := Tryz.sizeOf4
  v4 := Tryz.zeroValue4
  t23 := Tryz.underlying179
  a23 := Tryz.isAgg179
  z23 := Tryz.sizeOf179
  v23 := Tryz.zeroValue179
  t26 := Tryz.underlying3
  a26 := Tryz.isAgg3
  z26 := Tryz.sizeOf3
  v26 := Tryz.zeroValue3
  t33 := Tryz.underlying137
  a33 := Tryz.isAgg137
  z33 := Tryz.sizeOf137
  v33 := Tryz.zeroValue137 }
def Tryz.sortInt_ren : Go.Shelf.Ren := ⟨fun | 5 => 214 | 8 => 167 | 7 => 236 | 19 => 208 | 20 => 209 | 10 => 246 | 11 => 247 | 12 => 248 | 13 => 249 | 14 => 250 | 15 => 251 | 16 => 252 | 17 => 253 | 18 => 254 | 30 => 257 | 31 => 230 | 32 => 231 | 33 => 258 | 34 => 259 | 35 => 168 | 40 => 261 | n => n, fun | 23 => 25 | 25 => 3 | 3 => 3 | 32 => 176 | 22 => 25 | 0 => 0 | 44 => 153 | 46 => 144 | 4 => 4 | 36 => 194 | 35 => 193 | 41 => 198 | 5 => 5 | 9 => 9 | 53 => 217 | 57 => 221 | 63 => 231 | 64 => 232 | n => n, fun | n => n⟩
theorem Tryz.sortInt : Go.Proofs.SlLaysM.n5 Tryz.prog Tryz.sortInt_ren := {
  mixed := by kernel_rfl
  f5 := ⟨Tryz.f214.name, by decide, Tryz.func214.trans (congrArg some (by kernel_rfl))⟩
  f7 := ⟨Tryz.f236.name, by decide, Tryz.func236.trans (congrArg some (by kernel_rfl))⟩
  f8 := Tryz.func167.trans (congrArg some (by kernel_rfl))
  f10 := ⟨Tryz.f246.name, by decide, Tryz.func246.trans (congrArg some (by kernel_rfl))⟩
  f11 := ⟨Tryz.f247.name, by decide, Tryz.func247.trans (congrArg some (by kernel_rfl))⟩
  f12 := ⟨Tryz.f248.name, by decide, Tryz.func248.trans (congrArg some (by kernel_rfl))⟩
  f13 := ⟨Tryz.f249.name, by decide, Tryz.func249.trans (congrArg some (by kernel_rfl))⟩
  f14 := ⟨Tryz.f250.name, by decide, Tryz.func250.trans (congrArg some (by kernel_rfl))⟩
  f15 := ⟨Tryz.f251.name, by decide, Tryz.func251.trans (congrArg some (by kernel_rfl))⟩
  f16 := ⟨Tryz.f252.name, by decide, Tryz.func252.trans (congrArg some (by kernel_rfl))⟩
  f17 := ⟨Tryz.f253.name, by decide, Tryz.func253.trans (congrArg some (by kernel_rfl))⟩
  f18 := ⟨Tryz.f254.name, by decide, Tryz.func254.trans (congrArg some (by kernel_rfl))⟩
  f19 := Tryz.func208.trans (congrArg some (by kernel_rfl))
  f20 := Tryz.func209.trans (congrArg some (by kernel_rfl))
  f30 := ⟨Tryz.f257.name, by decide, Tryz.func257.trans (congrArg some (by kernel_rfl))⟩
  f31 := Tryz.func230.trans (congrArg some (by kernel_rfl))
  f32 := Tryz.func231.trans (congrArg some (by kernel_rfl))
  f33 := ⟨Tryz.f258.name, by decide, Tryz.func258.trans (congrArg some (by kernel_rfl))⟩
  f34 := ⟨Tryz.f259.name, by decide, Tryz.func259.trans (congrArg some (by kernel_rfl))⟩
  f35 := ⟨Tryz.f168.name, by decide, Tryz.func168.trans (congrArg some (by kernel_rfl))⟩
  f40 := ⟨Tryz.f261.name, by decide, Tryz.func261.trans (congrArg some (by kernel_rfl))⟩
  t0 := Tryz.underlying0
  a0 := Tryz.isAgg0
  z0 := Tryz.sizeOf0
  v0 := Tryz.zeroValue0
  t3 := Tryz.underlying3
  a3 := Tryz.isAgg3
  z3 := Tryz.sizeOf3
  v3 := Tryz.zeroValue3
  t4 := Tryz.underlying4
  a4 := Tryz.isAgg4
  z4 := Tryz.sizeOf4
  v4 := Tryz.zeroValue4
  t5 := Tryz.underlying5
  a5 := Tryz.isAgg5
  z5 := Tryz.sizeOf5
  v5 := Tryz.zeroValue5
  t9 := Tryz.underlying9
  a9 := Tryz.isAgg9
  z9 := Tryz.sizeOf9
  v9 := Tryz.zeroValue9
  t22 := Tryz.underlying25
  a22 := Tryz.isAgg25
  z22 := Tryz.sizeOf25
  v22 := Tryz.zeroValue25
  t23 := Tryz.underlying25
  a23 := Tryz.isAgg25
  z23 := Tryz.sizeOf25
  v23 := Tryz.zeroValue25
  t25 := Tryz.underlying3
  a25 := Tryz.isAgg3
  z25 := Tryz.sizeOf3
  v25 := Tryz.zeroValue3
  t32 := Tryz.underlying176
  a32 := Tryz.isAgg176
  z32 := Tryz.sizeOf176
  v32 := Tryz.zeroValue176
  t35 := Tryz.underlying193
  a35 := Tryz.isAgg193
  z35 := Tryz.sizeOf193
  v35 := Tryz.zeroValue193
  t36 := Tryz.underlying194
  a36 := Tryz.isAgg194
  z36 := Tryz.sizeOf194
  v36 := Tryz.zeroValue194
  t41 := Tryz.underlying198
  a41 := Tryz.isAgg198
  z41 := Tryz.sizeOf198
  v41 := Tryz.zeroValue198
  t44 := Tryz.underlying153
  a44 := Tryz.isAgg153
  z44 := Tryz.sizeOf153
  v44 := Tryz.zeroValue153
  t46 := Tryz.underlying144
  a46 := Tryz.isAgg144
  z46 := Tryz.sizeOf144
  v46 := Tryz.zeroValue144
  t53 := Tryz.underlying217
  a53 := Tryz.isAgg217
  z53 := Tryz.sizeOf217
  v53 := Tryz.zeroValue217
  t57 := Tryz.underlying221
  a57 := Tryz.isAgg221
  z57 := Tryz.sizeOf221
  v57 := Tryz.zeroValue221
  t63 := Tryz.underlying231
  a63 := Tryz.isAgg231
  z63 := Tryz.sizeOf231
  v63 := Tryz.zeroValue231
  t64 := Tryz.underlying232
  a64 := Tryz.isAgg232
  z64 := Tryz.sizeOf232
  v64 := Tryz.zeroValue232 }
def Tryz.cmpInt_ren : Go.Shelf.Ren := ⟨fun | 5 => 114 | 7 => 168 | n => n, fun | 22 => 3 | 3 => 3 | 4 => 4 | n => n, fun | n => n⟩
theorem Tryz.cmpInt : Go.Proofs.SlLaysC2.n5 Tryz.prog Tryz.cmpInt_ren := {
  mixed := by kernel_rfl
  f5 := ⟨Tryz.f114.name, by decide, Tryz.func114.trans (congrArg some (by kernel_rfl))⟩
  f7 := ⟨Tryz.f168.name, by decide, Tryz.func168.trans (congrArg some (by kernel_rfl))⟩
  t3 := Tryz.underlying3
  a3 := Tryz.isAgg3
  z3 := Tryz.sizeOf3
  v3 := Tryz.zeroValue3
  t4 := Tryz.underlying4
  a4 := Tryz.isAgg4
  z4 := Tryz.sizeOf4
  v4 := Tryz.zeroValue4
  t22 := Tryz.underlying3
  a22 := Tryz.isAgg3
  z22 := Tryz.sizeOf3
  v22 := Tryz.zeroValue3 }
end Go.Proofs
namespace Go.Proofs.YtkdmjgcjpmcjjaaGreat
open Go.Vc Go.Gw Go.Lib Go.Shelf
theorem D8q (w : World) (o : Obj) : w.alloc o = { w with heap := w.heap.push o } := rfl
theorem F6i (a b : Int) (r1 r2 : List Value) (w : World) : Calls Tryz.prog 113 #[.agg (.int .i64 a :: r1).toArray, .agg (.int .i64 b :: r2).toArray] w fun e w' => e = .returned (.int .i64 (Lib.compareInt a b)) /\ ∃ q os, w' = Go.Sort.grow (w.drewN q) os := by
  have e114 : ∀ args w, (callFunc 114 args).run Tryz.prog w = .ok (.enter 114 args) w := Go.Vc.B3u (by kernel_rfl)
  have hc := fun (w : World) => AnyG.cmp_Compare_int Tryz.cmpInt a b w
  go_enter Tryz.func113, Tryz.ntmps113
  go_wp2_with (go_at_fn (114); refine (hc _).mono ?_; rintro e w' ⟨rfl, hw⟩; rw [hw])
  go_ret
  refine ⟨rfl, 0, #[.cells (Value.int .i64 a :: r1).toArray 94, .cells (Value.int .i64 b :: r2).toArray 94], ?_⟩
  rw [D8q, D8q]
  simp [Go.Sort.grow, World.drewN]
  apply Array.toList_inj.1
  simp
theorem G2a (a b : Int) : Lib.compareInt a b = C6u a b := by
  unfold Lib.compareInt C6u
  (repeat' split) <;> first | rfl | omega
theorem G3c : G2n Tryz.prog 113 tE (fun a b : Ent => C6u a.1 b.1) := by
  rintro w Z c1 c2 x y ⟨u1, r1, rfl, ⟨rfl, _⟩, _⟩ ⟨u2, r2, rfl, ⟨rfl, _⟩, _⟩
  have := F6i x.1 y.1 r1 r2 w
  rw [G2a] at this
  exact this
theorem G0k : D8y Tryz.prog 112 (E3x 113 tE 94 (fun a b => C6u a.1 b.1)) := by
  refine E9v (tys := []) (F6e (ρ := Tryz.sortEnt_ren) Tryz.sortEnt (t := tE) (e := 94) (g := 113) (φ := fun a b : Ent => C6u a.1 b.1) Tryz.isAgg94 Tryz.sizeOf94 (fun a => ?_) (fun a b c => ?_) (fun a b c => ?_) (by kernel_rfl) G3c)
  all_goals (simp only [C6u]; (repeat' split) <;> omega)
theorem F5u (n : Int) (w : World) : Calls Tryz.prog 106 #[.int .i64 n] w fun e w' => e = .returned (.func (.func 107) #[] #[.pointer (some ⟨w.heap.size, 0, none⟩)]) /\ w' = w.alloc (.cells #[.int .i64 n] 3) := by
  go_enter Tryz.func106, Tryz.ntmps106
  go_wp2
  go_ret
  exact ⟨rfl, rfl⟩
theorem G3n (hm : B9 Tryz.prog 107 E2) : D8y Tryz.prog 106 (F9m Tryz.prog [(false, .int .i64)] false .bool (.int .i64) (fun n x => decide (x.1 < 0 \/ n <= x.1))) := by
  refine F5h ?_
  rintro w Z v n ⟨hv, hn⟩
  obtain rfl : v = .int .i64 n := by simpa using hv
  refine Calls.mono (F5u _ w) ?_
  rintro _ _ ⟨rfl, rfl⟩
  have hsz : (w.alloc (.cells #[Value.int .i64 n] 3)).heap.size = w.heap.size + 1 := by simp
  refine ⟨_, rfl, Ext.alloc w _, (fun b => b = w.heap.size), fun b hb => .inr ⟨by omega, by rw [hsz, hb]; omega⟩, 107, [.pointer (some ⟨w.heap.size, 0, none⟩)], rfl, by kernel_rfl, ?_⟩
  rintro w1 Z1 vs ⟨i, _⟩ hs h0 hz ⟨v1, vs1, rfl, hv1, rfl⟩ _
  have hc : (w.alloc (.cells #[Value.int .i64 n] 3)).heap[w.heap.size]? = some (.cells #[Value.int .i64 n] 3 (0, 0)) := by rw [D8q]; simp
  have hc1 : w1.heap[w.heap.size]? = some (.cells #[Value.int .i64 n] 3 (0, 0)) := (hs _ rfl).trans hc
  have hrep : A2a Tryz.prog w1 (fun b => Z1 b \/ b = w.heap.size) E2.args [v1, .pointer (some ⟨w.heap.size, 0, none⟩)] (i, n, ()) := by
    refine ⟨_, _, rfl, ?_, _, _, rfl, ?_, rfl⟩
    . exact hv1
    . exact ⟨w.heap.size, 0, [Value.int .i64 n], rfl, .inr rfl, fun j u hj => by
        rcases j with _ | j
        . simp only [List.getElem?_cons_zero, Option.some.injEq] at hj
          subst hj
          rw [N0]
          simp [World.cell?, hc1]
        . simp at hj, rfl, hn⟩
  have := hm w1 (fun b => Z1 b \/ b = w.heap.size) [v1, .pointer (some ⟨w.heap.size, 0, none⟩)] (i, n, ()) (fun b hb => hb.elim (hz b) fun e => h0 b e) hrep trivial trivial
  refine Gw.Ret.mono this ?_
  rintro u w2 ⟨hx, ⟨r, _⟩, o, us, Zn, hpost, _, rfl, hzn, ⟨v2, us2, rfl, hv2, _, rfl⟩, _⟩
  refine ⟨hx.ext fun b hb => ?_, Zn, fun b hb => ?_, ?_⟩
  . obtain ⟨p, hp, _⟩ := hb
    cases hp
  . rcases hzn b hb with h | ⟨h, _⟩
    . exact .inl h
    . cases h
  . have hr : r = decide (i < 0 \/ n <= i) := hpost
    show A8k false .bool w2 Zn v2 (decide (i < 0 \/ n <= i))
    rw [<- hr]; exact hv2
end Go.Proofs.YtkdmjgcjpmcjjaaGreat
namespace Go.Proofs.YtkdmjgcjpmcjjaaGreat
open Go Go.Vc Go.Gw Go.Lib Go.Shelf Go.Maps Go.Sort Go.RowKit
open Go.WideElems (Fit)
def F5i (_ : Value) : Option (DataW Unit × List MemPlace) := some (.nil, [])
theorem G0v {P : Program} {k : TypeId} (hk : P.underlying k = some (.int .i64)) {n : Int} (hn : inR .i64 n) : keyOf P k (.int .i64 n) = some (.int .i64 n) := by
  refine keyOf_int_mk hk ?_
  unfold inR at hn
  simpa [Lit.wf] using hn
theorem G3o {P : Program} {k : TypeId} (hk : P.underlying k = some (.int .i64)) {x : MapEntry} {n : Int} (hx : x.key = .int .i64 n) (hn : inR .i64 n) : WideElems.rd P k F5i x = some (.int .i64 n, .nil) := by
  unfold WideElems.rd
  rw [hx, G0v hk hn]; rfl
theorem E0d {w : World} {Z : Nat -> Prop} {va : Bool} {vt : Ty} : ∀ {es : List (Int × vt.den)} {l : List MapEntry}, D7i w Z false (.int .i64) va vt l es -> ∀ {P : Program} {k : TypeId}, P.underlying k = some (.int .i64) -> (∀ x ∈ l, ∃ y, WideElems.rd P k F5i x = some y) /\ l.map (WideElems.rg P k F5i) = es.map fun e => (.int .i64 e.1, .nil)
  | [], l, h, P, k, hk => by
    obtain rfl : l = [] := h
    exact ⟨fun x hx => (by cases hx), rfl⟩
  | e :: es, l, h, P, k, hk => by
    obtain ⟨x, l', rfl, ⟨h1, h2⟩, _, h3⟩ := h
    have hx : x.key = .int .i64 e.1 := by simpa using h1
    have h4 := G3o hk hx h2
    obtain ⟨i1, i2⟩ := E0d h3 hk
    refine ⟨fun y hy => ?_, ?_⟩
    . rcases List.mem_cons.1 hy with rfl | hy
      . exact ⟨_, h4⟩
      . exact i1 y hy
    . rw [List.map_cons, List.map_cons, i2]
      congr 1
      unfold WideElems.rg
      rw [h4]; rfl
theorem E2b {w : World} {Z : Nat -> Prop} {va : Bool} {vt : Ty} : ∀ {es : List (Int × vt.den)} {l : List MapEntry}, D7i w Z false (.int .i64) va vt l es -> l.map (·.key) = es.map fun e => Value.int .i64 e.1
  | [], l, h => by obtain rfl : l = [] := h; rfl
  | e :: es, l, h => by
    obtain ⟨x, l', rfl, ⟨h1, h2⟩, _, h3⟩ := h
    have hx : x.key = .int .i64 e.1 := by simpa using h1
    rw [List.map_cons, List.map_cons, E2b h3, hx]
theorem F6t {P : Program} {k : TypeId} (hk : P.underlying k = some (.int .i64)) {w : World} {b clock : Nat} {ents : Array MapEntry} {Z : Nat -> Prop} {va : Bool} {vt : Ty} {es : List (Int × vt.den)} (hb : w.heap[b]? = some (.map ents clock)) (hm : MOk ents clock) (he : D7i w Z false (.int .i64) va vt ents.toList es) (hl : es.length <= 100000) (hnd : List.Nodup (α := Int) (es.map (·.1))) :
    ∃ D0 : DataW Unit, w.ownsMap P k F5i b ents.size D0 /\ (intKeys D0).Perm (es.map (·.1)) /\ Maps.size D0 = es.length := by
  obtain ⟨h1, h2⟩ := E0d he (P := P) hk
  have h4 : ents.toList.length = es.length := by have := congrArg List.length h2; simpa using this
  have h5 : ents.toList.map (·.key) = es.map fun e => Value.int .i64 e.1 := E2b he
  refine ⟨_, ⟨ents, clock, hb, ⟨?_, ⟨hm.1, hm.2, ?_⟩, h1⟩, Nat.le_refl _, rfl⟩, ?_, ?_⟩
  . have : ents.size = es.length := by rw [<- h4]; simp
    rw [this]
    exact Nat.le_trans hl (by decide)
  . rw [h5]
    have : (es.map fun e => Value.int .i64 e.1) = (es.map (·.1)).map fun n : Int => Value.int .i64 n := by rw [List.map_map]; rfl
    rw [this]
    exact List.Pairwise.map _ (fun a b hab h => hab (by simpa using h)) hnd
  . show (List.map _ _).Perm _
    refine ((WideShapes.sorted_perm _).map _).trans ?_
    rw [h2, List.map_map]
    exact List.Perm.of_eq (List.map_congr_left fun e _ => rfl)
  . show List.length (List.foldr _ _ _) = _
    rw [(WideShapes.sorted_perm _).length_eq, List.length_map, h4]
theorem E2l {w : World} {Z : Nat -> Prop} : ∀ {l : List Int}, (∀ n ∈ l, inR .i64 n) -> Q4 (Rep (.int .i64) w Z) (l.map encZ) l
  | [], _ => rfl
  | n :: l, h => ⟨[encZ n], l.map encZ, rfl, ⟨rfl, h n List.mem_cons_self⟩, E2l fun m hm => h m (List.mem_cons_of_mem _ hm)⟩
theorem F6w (m : Nat) : AnyZI.SortsIn Tryz.prog Tryz.sortedInt_ren Fence.wide m :=
  ⟨fun blk off cap ss W hH hblk hsz => callsIn_wide.2 (AnyM.slices_Sort_int Tryz.sortInt blk off cap ss W hH hblk hsz),
   fun p cap W => callsIn_wide.2 (AnyM.slices_Sort_int_none Tryz.sortInt p cap W)⟩
theorem G0t : D8y Tryz.prog 174 (E5e 215 3) := by
  refine F0s (tys := []) ?_
  intro w Z va vt bm b clock T ents es hbm hb hm he hl hnd
  obtain ⟨D0, hown, hperm, hsize⟩ := F6t (P := Tryz.prog) (k := 3) Tryz.underlying3 hb hm he hl hnd
  have hbl : bm < w.heap.size := hbm.lt
  have hcell : w.cell? ⟨bm, 0, none⟩ = some (.map (some b)) := by
    exact hbm.cell (o := 0) rfl
  have hseq := AnyZI.keys_gives Tryz.keysGo Fence.wide 3 trivial rfl (by decide) bm b ents.size D0 w hbl hcell hown
  have := AnyZI.sorted_in Tryz.sortedInt Fence.wide 6 trivial trivial trivial trivial rfl (by decide) (F6w _) (fun args w => Go.Vc.B3u (f := 214) (by kernel_rfl) args w) 215 _ trivial (Go.Vc.B3u (by kernel_rfl)) _ _ (by rw [hsize]; exact Nat.le_trans hl (by decide)) (by rw [hsize]; omega) w hseq
  refine Calls.mono (callsIn_wide.1 this) ?_
  rintro _ w' ⟨v, ss, rfl, hS, hrow, hnil, hbelow⟩
  have hb : Below w.heap.size w w' := hbelow
  have tr : ∀ a b c : Int, decide (a <= b) = true -> decide (b <= c) = true -> decide (a <= c) = true := fun a b c h h' => decide_eq_true (Int.le_trans (of_decide_eq_true h) (of_decide_eq_true h'))
  have to : ∀ a b : Int, (decide (a <= b) || decide (b <= a)) = true := fun a b => by
    simp only [Bool.or_eq_true, decide_eq_true_eq]; omega
  have hin : ∀ n ∈ ss, inR .i64 n := fun n hn => by
    have hn2 : n ∈ es.map (·.1) := hperm.mem_iff.1 (hS.mem_iff.1 hn)
    obtain ⟨e, he2, rfl⟩ := List.mem_map.1 hn2
    obtain ⟨x, _, hx, _⟩ := X4.mem he he2
    exact hx.2
  refine ⟨v, rfl, C1x.of ⟨hb, trivial⟩, (ss.mergeSort (fun x y => decide (x <= y)), ()), (), [v], (fun _ => False), ⟨?_, ?_⟩, fun h => (by cases h), rfl, fun _ hb => hb.elim, ⟨v, [], rfl, ⟨(ss.mergeSort (fun x y => decide (x <= y))).map encZ, ?_, ?_, fun _ _ h => h⟩, fun _ b _ u hu => (by cases hu), rfl⟩, trivial⟩
  . exact (List.mergeSort_perm ss _).trans (hS.trans hperm)
  . exact (List.pairwise_mergeSort tr to ss).imp fun h => of_decide_eq_true h
  . have hl2 : (ss.mergeSort (fun x y => decide (x <= y))).length = ss.length := (List.mergeSort_perm ss _).length_eq
    show w'.ownsRow w.heap.size 3 1 v (ss.mergeSort (fun x y => decide (x <= y))).length _
    rw [hl2]; exact hrow
  . exact E2l fun n hn => hin n ((List.mergeSort_perm ss _).mem_iff.1 hn)
end Go.Proofs.YtkdmjgcjpmcjjaaGreat
namespace Go.Proofs.YtkdmjgcjpmcjjaaGreat
open Go.Vc Go.Gw
theorem B5e : B9 Tryz.prog 107 E2 := A4 (sp := A3w) Tryz.func107 (by kernel_rfl) (by kernel_rfl) (by kernel_rfl) A7 (A3) A8t A8x
theorem B2y : B9 Tryz.prog 77 Q6 := A4 (sp := C5y) Tryz.func77 (by kernel_rfl) (by kernel_rfl) (by kernel_rfl) A7 (A3) D0m D1c
theorem E0p : B9 Tryz.prog 76 W4 := A4 (sp := C6k) Tryz.func76 (by kernel_rfl) (by kernel_rfl) (by kernel_rfl) A7 (A0 B2y (A3)) D1o C9z
theorem B1z : B9 Tryz.prog 17 Q3 := A4 (sp := C5t) Tryz.func17 (by kernel_rfl) (by kernel_rfl) (by kernel_rfl) A7 (A0 E0p (A0 B2y (A3))) D1a C8y
theorem E6c : B9 Tryz.prog 18 A0e := A4 (sp := C8d) Tryz.func18 (by kernel_rfl) (by kernel_rfl) (by kernel_rfl) A7 (A3) D3s D3y
theorem C9u : B9 Tryz.prog 49 W7 := A4 (sp := D0k) Tryz.func49 (by kernel_rfl) (by kernel_rfl) (by kernel_rfl) A7 (A3) D3k D3n
theorem A2l : B9 Tryz.prog 28 G1 := A4 (sp := A7f) Tryz.func28 (by kernel_rfl) (by kernel_rfl) (by kernel_rfl) A7 (A0 C9u (A3)) B4d B3x
theorem A9q : B9 Tryz.prog 75 R9 := A4 (sp := C9b) Tryz.func75 (by kernel_rfl) (by kernel_rfl) (by kernel_rfl) A7 (A3) D3p D3h
theorem Q0 : B9 Tryz.prog 191 H9 := A4 (sp := D1t) Tryz.func191 (by kernel_rfl) (by kernel_rfl) (by kernel_rfl) A7 (A3) D2e D2v
theorem V9 : B9 Tryz.prog 149 K3 := A4 (sp := C9o) Tryz.func149 (by kernel_rfl) (by kernel_rfl) (by kernel_rfl) A7 (A0 Q0 (A3)) D2p D3x
theorem C8g : B9 Tryz.prog 145 X2 := A4 (sp := C9w) Tryz.func145 (by kernel_rfl) (by kernel_rfl) (by kernel_rfl) A7 (A0 V9 (A3)) D2y D2c
theorem C8q : B9 Tryz.prog 88 W8 := A4 (sp := D1i) Tryz.func88 (by kernel_rfl) (by kernel_rfl) (by kernel_rfl) A7 (A0 C8g (A3)) D3t D2r
theorem D6c : B9 Tryz.prog 157 A0v := A4 (sp := D5e) Tryz.func157 (by kernel_rfl) (by kernel_rfl) (by kernel_rfl) A7 (A0 Q0 (A3)) D9i D8v
theorem D4c : B9 Tryz.prog 194 P4 := A4 (sp := B5i) Tryz.func194 (by kernel_rfl) (by kernel_rfl) (by kernel_rfl) A7 (A0 Q0 (A3)) C5g C4f
theorem D4m : B9 Tryz.prog 158 A1b := A4 (sp := D4q) Tryz.func158 (by kernel_rfl) (by kernel_rfl) (by kernel_rfl) A7 (A0 Q0 (A0 D4c (A3))) D9k D8f
theorem A7e : B9 Tryz.prog 176 H6 := A4 (sp := A7k) Tryz.func176 (by kernel_rfl) (by kernel_rfl) (by kernel_rfl) A7 (A0 Q0 (A3)) B4l B4w
theorem D6i : B9 Tryz.prog 224 T6 := A4 (sp := C1b) Tryz.func224 (by kernel_rfl) (by kernel_rfl) (by kernel_rfl) A7 (A0 Q0 (A3)) C7n C7k
theorem E4g : B9 Tryz.prog 225 A0f := A4 (sp := C8h) Tryz.func225 (by kernel_rfl) (by kernel_rfl) (by kernel_rfl) A7 (A0 Q0 (A3)) D3z D3r
theorem F0d : B9 Tryz.prog 226 A3i := A4 (sp := D4i) Tryz.func226 (by kernel_rfl) (by kernel_rfl) (by kernel_rfl) A7 (A3) D7j D6k
theorem C1k : B9 Tryz.prog 188 O9 := A4 (sp := C1r) Tryz.func188 (by kernel_rfl) (by kernel_rfl) (by kernel_rfl) A7 (A0 D6c (A0 D4m (A0 A7e (A0 Q0 (A0 D6i (A0 E4g (A0 F0d (A3)))))))) C6n C7b
theorem F0l : B9 Tryz.prog 187 A2u := A4 (sp := D4z) Tryz.func187 (by kernel_rfl) (by kernel_rfl) (by kernel_rfl) A7 (A0 C1k (A0 Q0 (A3))) D6y D9e
theorem F0n : B9 Tryz.prog 146 A3b := A4 (sp := D5v) Tryz.func146 (by kernel_rfl) (by kernel_rfl) (by kernel_rfl) A7 (A0 V9 (A0 F0l (A3))) D9b D6r
theorem C3d : B9 Tryz.prog 93 Y1 := A4 (sp := D4n) Tryz.func93 (by kernel_rfl) (by kernel_rfl) (by kernel_rfl) A7 (A0 V9 (A0 D6c (A0 D4m (A3)))) D9q D7m
theorem A6o : B9 Tryz.prog 132 K7 := A4 (sp := B5l) Tryz.func132 (by kernel_rfl) (by kernel_rfl) (by kernel_rfl) A7 (A0 V9 (A0 A7e (A3))) C3q C3m
theorem E8t : B9 Tryz.prog 189 A2s := A4 (sp := D5p) Tryz.func189 (by kernel_rfl) (by kernel_rfl) (by kernel_rfl) A7 (A0 V9 (A3)) D8e D6m
theorem C2u : B9 Tryz.prog 148 Y4 := A4 (sp := D5t) Tryz.func148 (by kernel_rfl) (by kernel_rfl) (by kernel_rfl) A7 (A0 V9 (A3)) D7p D6l
theorem E9y : B9 Tryz.prog 190 A2t := A4 (sp := D5x) Tryz.func190 (by kernel_rfl) (by kernel_rfl) (by kernel_rfl) A7 (A0 C3d (A0 C2u (A3))) D7r D6u
theorem D8t : B9 Tryz.prog 147 T1 := A4 (sp := C1s) Tryz.func147 (by kernel_rfl) (by kernel_rfl) (by kernel_rfl) A7 (A0 C3d (A0 A6o (A0 V9 (A0 C1k (A0 E8t (A0 E9y (A3))))))) C7g C7a
theorem Z9 : B9 Tryz.prog 81 M8 := A4 (sp := C8a) Tryz.func81 (by kernel_rfl) (by kernel_rfl) (by kernel_rfl) A7 (A0 A9q (A0 B2y (A0 C8q (A0 C8g (A0 F0n (A0 D8t (A0 C2u (A3)))))))) D2a D3v
theorem A0a : B9 Tryz.prog 83 M6 := A4 (sp := C8u) Tryz.func83 (by kernel_rfl) (by kernel_rfl) (by kernel_rfl) A7 (A0 Z9 (A3)) D3o D3l
theorem A9i : B9 Tryz.prog 29 R4 := A4 (sp := C9d) Tryz.func29 (by kernel_rfl) (by kernel_rfl) (by kernel_rfl) A7 (A0 A0a (A0 C8q (A3))) D2m D2o
theorem E9e : B9 Tryz.prog 150 A2x := A4 (sp := D5h) Tryz.func150 (by kernel_rfl) (by kernel_rfl) (by kernel_rfl) A7 (A0 Q0 (A3)) D8r D6p
theorem C3i : B9 Tryz.prog 82 Y2 := A4 (sp := D5z) Tryz.func82 (by kernel_rfl) (by kernel_rfl) (by kernel_rfl) A7 (A0 V9 (A0 E9e (A3))) D7f D8s
theorem B3n : B9 Tryz.prog 84 U7 := A4 (sp := D5n) Tryz.func84 (by kernel_rfl) (by kernel_rfl) (by kernel_rfl) A7 (A0 A0a (A3)) D7o D6f
theorem D5b : B9 Tryz.prog 32 A0w := A4 (sp := D4w) Tryz.func32 (by kernel_rfl) (by kernel_rfl) (by kernel_rfl) A7 (A0 Z9 (A0 C3i (A0 A0a (A0 B3n (A0 C3d (A3)))))) D8i D6t
theorem D5g : B9 Tryz.prog 120 A0z := A4 (sp := D4l) Tryz.func120 (by kernel_rfl) (by kernel_rfl) (by kernel_rfl) A7 (A0 D5b (A0 A9q (A3))) D9d D7s
theorem D3u : B9 Tryz.prog 199 P5 := A4 (sp := B5w) Tryz.func199 (by kernel_rfl) (by kernel_rfl) (by kernel_rfl) A7 (A3) C3x C2h
theorem E3r : B9 Tryz.prog 164 A0c := A4 (sp := D0b) Tryz.func164 (by kernel_rfl) (by kernel_rfl) (by kernel_rfl) A7 (A0 A9i (A0 D5g (A0 D3u (A3)))) D2l D3a
theorem C7f : B9 Tryz.prog 105 L7 := A4 (sp := B0a) Tryz.func105 (by kernel_rfl) (by kernel_rfl) (by kernel_rfl) A7 (A0 E3r (A3)) B7r B8e
theorem D1u : B9 Tryz.prog 78 X0 := A4 (sp := D0q) Tryz.func78 (by kernel_rfl) (by kernel_rfl) (by kernel_rfl) A7 (A0 C7f (A3)) D2g D3g
theorem F3a : B9 Tryz.prog 144 A5q := A4 (sp := E2j) Tryz.func144 (by kernel_rfl) (by kernel_rfl) (by kernel_rfl) A7 (A0 Z9 (A0 A6o (A3))) E2w E2s
theorem B0b : B9 Tryz.prog 79 I7 := A4 (sp := A9u) Tryz.func79 (by kernel_rfl) (by kernel_rfl) (by kernel_rfl) A7 (A0 A2l (A0 F3a (A3))) B6o B7j
theorem B7h : B9 Tryz.prog 20 G9 := A4 (sp := A5c) Tryz.func20 (by kernel_rfl) (by kernel_rfl) (by kernel_rfl) A7 (A0 A2l (A0 A9q (A0 D1u (A0 B0b (A3))))) B0m B0h
theorem E9w : B9 Tryz.prog 24 A2q := A4 (sp := D5l) Tryz.func24 (by kernel_rfl) (by kernel_rfl) (by kernel_rfl) A7 (A0 Z9 (A0 C3i (A0 A0a (A0 B3n (A3))))) D7n D6g
theorem C3c : B9 Tryz.prog 31 J2 := A4 (sp := A7d) Tryz.func31 (by kernel_rfl) (by kernel_rfl) (by kernel_rfl) A7 (A0 B0b (A3)) B4u B3w
theorem A8h : B9 Tryz.prog 109 H5 := A4 (sp := A8c) Tryz.func109 (by kernel_rfl) (by kernel_rfl) (by kernel_rfl) A7 (A3) B4r B4v
theorem G2 : B9 Tryz.prog 186 C7 := A4 (sp := B6d) Tryz.func186 (by kernel_rfl) (by kernel_rfl) (by kernel_rfl) A7 (A3) C3n C2t
theorem M7 : B9 Tryz.prog 172 C8 := A4 (sp := A5u) Tryz.func172 (by kernel_rfl) (by kernel_rfl) (by kernel_rfl) A7 (A0 G2 (A3)) B0x B1u
theorem X1 : B9 Tryz.prog 139 E5 := A4 (sp := A7i) Tryz.func139 (by kernel_rfl) (by kernel_rfl) (by kernel_rfl) A7 (A0 M7 (A3)) B4g B4q
theorem D0p : B9 Tryz.prog 198 N9 := A4 (sp := B2g) Tryz.func198 (by kernel_rfl) (by kernel_rfl) (by kernel_rfl) A7 (A0 M7 (A3)) B9p B8q
theorem O7 : B9 Tryz.prog 160 E1 := A4 (sp := B0e) Tryz.func160 (by kernel_rfl) (by kernel_rfl) (by kernel_rfl) A7 (A0 X1 (A0 D0p (A3))) B7o B8j
theorem A4m : B9 Tryz.prog 192 F3 := A4 (sp := A4g) Tryz.func192 (by kernel_rfl) (by kernel_rfl) (by kernel_rfl) A7 (A3) B0j B0f
theorem D1w : B9 Tryz.prog 151 N4 := A4 (sp := B2f) Tryz.func151 (by kernel_rfl) (by kernel_rfl) (by kernel_rfl) A7 (A0 O7 (A0 A4m (A3))) B8o B9r
theorem A0r : B9 Tryz.prog 85 H2 := A4 (sp := B1f) Tryz.func85 (by kernel_rfl) (by kernel_rfl) (by kernel_rfl) A7 (A0 A8h (A0 D1w (A3))) B9o C0r
theorem A4a : B9 Tryz.prog 165 C6 := A4 (sp := U5) Tryz.func165 (by kernel_rfl) (by kernel_rfl) (by kernel_rfl) A7 (A3) A1u A2c
theorem A1w : B9 Tryz.prog 108 C0 := A4 (sp := R5) Tryz.func108 (by kernel_rfl) (by kernel_rfl) (by kernel_rfl) A7 (A0 A4a (A3)) A0l A0m
theorem A4p : B9 Tryz.prog 219 I6 := A4 (sp := B1d) Tryz.func219 (by kernel_rfl) (by kernel_rfl) (by kernel_rfl) A7 (A3) B9y C0l
theorem C4u : B9 Tryz.prog 181 J3 := A4 (sp := A8f) Tryz.func181 (by kernel_rfl) (by kernel_rfl) (by kernel_rfl) A7 (A0 G2 (A0 A4p (A3))) B4z B5a
theorem A2m : B9 Tryz.prog 137 F9 := A4 (sp := A6w) Tryz.func137 (by kernel_rfl) (by kernel_rfl) (by kernel_rfl) A7 (A0 C4u (A3)) B4t B5g
theorem I4 : B9 Tryz.prog 180 C3 := A4 (sp := A2w) Tryz.func180 (by kernel_rfl) (by kernel_rfl) (by kernel_rfl) A7 (A0 G2 (A3)) A8i A6x
theorem X6 : B9 Tryz.prog 138 D6 := A4 (sp := A3v) Tryz.func138 (by kernel_rfl) (by kernel_rfl) (by kernel_rfl) A7 (A0 I4 (A3)) A8n A9b
theorem R8 : B9 Tryz.prog 179 D8 := A4 (sp := A7w) Tryz.func179 (by kernel_rfl) (by kernel_rfl) (by kernel_rfl) A7 (A3) B4c B4n
theorem V8 : B9 Tryz.prog 183 F7 := A4 (sp := B1w) Tryz.func183 (by kernel_rfl) (by kernel_rfl) (by kernel_rfl) A7 (A0 G2 (A3)) C0b B9q
theorem D0o : B9 Tryz.prog 182 N8 := A4 (sp := B2i) Tryz.func182 (by kernel_rfl) (by kernel_rfl) (by kernel_rfl) A7 (A0 R8 (A0 V8 (A3))) B9j C1v
theorem A9m : B9 Tryz.prog 222 D7 := A4 (sp := A0t) Tryz.func222 (by kernel_rfl) (by kernel_rfl) (by kernel_rfl) A7 (A0 I4 (A0 G2 (A3))) A5o A5k
theorem D9s : B9 Tryz.prog 208 T5 := A4 (sp := B8w) Tryz.func208 (by kernel_rfl) (by kernel_rfl) (by kernel_rfl) A7 (A3) C6l C6y
theorem A1q : B9 Tryz.prog 238 D5 := A4 (sp := A1p) Tryz.func238 (by kernel_rfl) (by kernel_rfl) (by kernel_rfl) A7 (A0 D9s (A3)) A6h A6i
theorem C0j : B9 Tryz.prog 240 I0 := A4 (sp := A5w) Tryz.func240 (by kernel_rfl) (by kernel_rfl) (by kernel_rfl) A7 (A3) B2d B3f
theorem B1e : B9 Tryz.prog 242 F0 := A4 (sp := A3g) Tryz.func242 (by kernel_rfl) (by kernel_rfl) (by kernel_rfl) A7 (A0 G2 (A3)) A6y A7o
theorem B1o : B9 Tryz.prog 223 E8 := A4 (sp := A3d) Tryz.func223 (by kernel_rfl) (by kernel_rfl) (by kernel_rfl) A7 (A0 G2 (A0 A1q (A0 C0j (A0 B1e (A8z (E6y (cx := ⟨Tryz.prog, tys⟩) (fn := Tryz.f241) (c := Tryz.f241.body.getD .skip) Tryz.func241 (by kernel_rfl) (by kernel_rfl) A7 (B3s (A3) (B9f))) (A3)))))) A8b A7q
theorem A8e : B9 Tryz.prog 185 H7 := A4 (sp := A8g) Tryz.func185 (by kernel_rfl) (by kernel_rfl) (by kernel_rfl) A7 (A0 M7 (A0 I4 (A0 V8 (A0 G2 (A0 A4p (A0 A9m (A0 B1o (A3)))))))) B4h B4j
theorem B6v : B9 Tryz.prog 255 G8 := A4 (sp := A5b) Tryz.func255 (by kernel_rfl) (by kernel_rfl) (by kernel_rfl) A7 (A3) B0q B0p
theorem C4y : B9 Tryz.prog 239 J1 := A4 (sp := A7c) Tryz.func239 (by kernel_rfl) (by kernel_rfl) (by kernel_rfl) A7 (A0 B6v (A3)) B3z B5d
theorem B9c : B9 Tryz.prog 220 H8 := A4 (sp := A5y) Tryz.func220 (by kernel_rfl) (by kernel_rfl) (by kernel_rfl) A7 (A0 A1q (A0 C4y (A3))) B1i B2l
theorem A2n : B9 Tryz.prog 142 J0 := A4 (sp := B6b) Tryz.func142 (by kernel_rfl) (by kernel_rfl) (by kernel_rfl) A7 (A0 G2 (A3)) C2q C4q
theorem B5n : B9 Tryz.prog 212 N1 := A4 (sp := B6e) Tryz.func212 (by kernel_rfl) (by kernel_rfl) (by kernel_rfl) A7 (A0 M7 (A0 G2 (A3))) C4e C5c
theorem B9n : B9 Tryz.prog 221 I2 := A4 (sp := A5t) Tryz.func221 (by kernel_rfl) (by kernel_rfl) (by kernel_rfl) A7 (A0 A2n (A0 I4 (A0 B5n (A3)))) B3j B1p
theorem D3d : B9 Tryz.prog 184 P6 := A4 (sp := B5q) Tryz.func184 (by kernel_rfl) (by kernel_rfl) (by kernel_rfl) A7 (A0 M7 (A0 I4 (A0 V8 (A0 A8e (A0 G2 (A0 A4p (A0 B9c (A0 B9n (A3))))))))) C5f C4r
theorem A1h : B9 Tryz.prog 140 E7 := A4 (sp := A5x) Tryz.func140 (by kernel_rfl) (by kernel_rfl) (by kernel_rfl) A7 (A0 D0o (A0 V8 (A0 D3d (A0 A8e (A3))))) B1t B2u
theorem U2 : B9 Tryz.prog 111 E4 := A4 (sp := A9s) Tryz.func111 (by kernel_rfl) (by kernel_rfl) (by kernel_rfl) A7 (A0 A2m (A0 X6 (A0 X1 (A0 A1h (A3))))) B6u B6s
theorem C6v : B9 Tryz.prog 45 L4 := A4 (sp := A9z) Tryz.func45 (by kernel_rfl) (by kernel_rfl) (by kernel_rfl) F2c (A0 A0r (A8z (G3n B5e) (A0 A1w (A0 A8h (A0 U2 (A8z G0k (A8z (E6y (cx := ⟨Tryz.prog, G3x⟩) (fn := Tryz.f110) (c := Tryz.f110.body.getD .skip) Tryz.func110 (by kernel_rfl) (by kernel_rfl) F2c (B3s (A3) (B9f))) (A3)))))))) B8g B6k
theorem B5z : B9 Tryz.prog 141 M9 := A4 (sp := B5p) Tryz.func141 (by kernel_rfl) (by kernel_rfl) (by kernel_rfl) A7 (A0 A2n (A0 R8 (A3))) C5l C2f
theorem A0y : B9 Tryz.prog 71 H4 := A4 (sp := B1y) Tryz.func71 (by kernel_rfl) (by kernel_rfl) (by kernel_rfl) A7 (A0 A2m (A0 X6 (A0 X1 (A0 A1h (A0 B5z (A0 A2n (A3))))))) C0x B9b
theorem D3i : B9 Tryz.prog 143 P3 := A4 (sp := B5m) Tryz.func143 (by kernel_rfl) (by kernel_rfl) (by kernel_rfl) A7 (A0 R8 (A0 V8 (A3))) C5j C5p
theorem C9h : B9 Tryz.prog 73 N7 := A4 (sp := B2a) Tryz.func73 (by kernel_rfl) (by kernel_rfl) (by kernel_rfl) A7 (A0 U2 (A0 D3i (A3))) B9d C0i
theorem D0i : B9 Tryz.prog 117 N5 := A4 (sp := B2q) Tryz.func117 (by kernel_rfl) (by kernel_rfl) (by kernel_rfl) A7 (A0 U2 (A0 O7 (A3))) B9a B8p
theorem B8z : B9 Tryz.prog 136 I3 := A4 (sp := A5p) Tryz.func136 (by kernel_rfl) (by kernel_rfl) (by kernel_rfl) A7 (A0 R8 (A0 I4 (A3))) B2w B3i
theorem A4v : B9 Tryz.prog 70 F2 := A4 (sp := A4s) Tryz.func70 (by kernel_rfl) (by kernel_rfl) (by kernel_rfl) A7 (A0 B8z (A3)) B0s B0g
theorem D2s : B9 Tryz.prog 211 P8 := A4 (sp := B5o) Tryz.func211 (by kernel_rfl) (by kernel_rfl) (by kernel_rfl) A7 (A0 G2 (A3)) C2z C5a
theorem D3w : B9 Tryz.prog 173 P9 := A4 (sp := B6c) Tryz.func173 (by kernel_rfl) (by kernel_rfl) (by kernel_rfl) A7 (A0 R8 (A0 D2s (A0 B5n (A3)))) C3u C3w
theorem V5 : B9 Tryz.prog 122 F8 := A4 (sp := B3b) Tryz.func122 (by kernel_rfl) (by kernel_rfl) (by kernel_rfl) A7 (A0 U2 (A0 A2m (A0 X6 (A0 X1 (A0 A1h (A0 B5z (A0 A2n (A0 O7 (A0 M7 (A0 D3w (A3))))))))))) C0z B9e
theorem D9u : B9 Tryz.prog 118 T7 := A4 (sp := B9h) Tryz.func118 (by kernel_rfl) (by kernel_rfl) (by kernel_rfl) A7 (A0 A4v (A0 V5 (A3))) C7p C6m
theorem C8e : B9 Tryz.prog 169 N6 := A4 (sp := B3c) Tryz.func169 (by kernel_rfl) (by kernel_rfl) (by kernel_rfl) A7 (A0 O7 (A3)) C0c C1w
theorem C7e : B9 Tryz.prog 168 L1 := A4 (sp := B0c) Tryz.func168 (by kernel_rfl) (by kernel_rfl) (by kernel_rfl) A7 (A3) B7l B7d
theorem B8r : B9 Tryz.prog 114 I1 := A4 (sp := A5z) Tryz.func114 (by kernel_rfl) (by kernel_rfl) (by kernel_rfl) A7 (A0 C7e (A3)) B2e B1s
theorem C4t : B9 Tryz.prog 156 J5 := A4 (sp := A7v) Tryz.func156 (by kernel_rfl) (by kernel_rfl) (by kernel_rfl) A7 (A0 B8r (A3)) B4o B4a
theorem X7 : B9 Tryz.prog 210 O1 := E5c fun _ h => h
theorem C4m : B9 Tryz.prog 170 J4 := A4 (sp := A7m) Tryz.func170 (by kernel_rfl) (by kernel_rfl) (by kernel_rfl) A7 (A0 V5 (A0 C4t (A0 A4m (A0 X7 (A3))))) B4m B4k
theorem B1h : B9 Tryz.prog 171 E9 := A4 (sp := A2r) Tryz.func171 (by kernel_rfl) (by kernel_rfl) (by kernel_rfl) A7 (A0 A0y (A0 U2 (A0 V5 (A0 O7 (A3))))) A7b A7p
theorem B8f : B9 Tryz.prog 119 H0 := A4 (sp := A4w) Tryz.func119 (by kernel_rfl) (by kernel_rfl) (by kernel_rfl) A7 (A0 C8e (A0 C4m (A0 B1h (A3)))) B0l B0r
theorem B2m : B9 Tryz.prog 50 K8 := A4 (sp := B1x) Tryz.func50 (by kernel_rfl) (by kernel_rfl) (by kernel_rfl) A7 (A0 A0y (A0 C9h (A0 A0r (A0 D0i (A0 D9u (A0 B8f (A3))))))) C1o B8y
theorem B2b : B9 Tryz.prog 125 F1 := A4 (sp := A3c) Tryz.func125 (by kernel_rfl) (by kernel_rfl) (by kernel_rfl) A7 (A0 A0y (A0 V5 (A0 O7 (A8z G0t (A8z (E6y (cx := ⟨Tryz.prog, tys⟩) (fn := Tryz.f175) (c := Tryz.f175.body.getD .skip) Tryz.func175 (by kernel_rfl) (by kernel_rfl) A7 (B3s (A3) (B9f))) (A3)))))) A8j A6z
theorem D8j : B9 Tryz.prog 55 T4 := A4 (sp := C0a) Tryz.func55 (by kernel_rfl) (by kernel_rfl) (by kernel_rfl) A7 (A0 A0r (A0 B2b (A8z (E6y (cx := ⟨Tryz.prog, tys⟩) (fn := Tryz.f110) (c := Tryz.f110.body.getD .skip) Tryz.func110 (by kernel_rfl) (by kernel_rfl) A7 (B3s (A3) (B9f))) (A3)))) C6x C7m
theorem C6p : B9 Tryz.prog 102 L3 := A4 (sp := A9x) Tryz.func102 (by kernel_rfl) (by kernel_rfl) (by kernel_rfl) A7 (A0 B1z (A0 A0a (A3))) B7b B6m
theorem C6s : B9 Tryz.prog 126 L6 := A4 (sp := B0d) Tryz.func126 (by kernel_rfl) (by kernel_rfl) (by kernel_rfl) A7 (A0 B1z (A0 C6p (A3))) B6y B8c
theorem C6t : B9 Tryz.prog 58 L5 := A4 (sp := A9t) Tryz.func58 (by kernel_rfl) (by kernel_rfl) (by kernel_rfl) A7 (A0 C6s (A3)) B6g B7n
theorem D2x : B9 Tryz.prog 68 P7 := A4 (sp := B5u) Tryz.func68 (by kernel_rfl) (by kernel_rfl) (by kernel_rfl) A7 (A0 Z9 (A0 A6o (A3))) C5m C4g
theorem D9j : B9 Tryz.prog 116 S8 := A4 (sp := B9v) Tryz.func116 (by kernel_rfl) (by kernel_rfl) (by kernel_rfl) A7 (A0 D2x (A0 D1u (A3))) C6q C6z
theorem D3j : B9 Tryz.prog 47 O8 := A4 (sp := B6a) Tryz.func47 (by kernel_rfl) (by kernel_rfl) (by kernel_rfl) A7 (A0 C6v (A0 B2m (A0 D8j (A0 C6t (A0 D9j (A3)))))) C3a C4p
theorem E1j : B9 Tryz.prog 104 V6 := A4 (sp := C6j) Tryz.func104 (by kernel_rfl) (by kernel_rfl) (by kernel_rfl) A7 (A0 A9i (A3)) C8f C9l
theorem E1p : B9 Tryz.prog 41 W3 := A4 (sp := C6d) Tryz.func41 (by kernel_rfl) (by kernel_rfl) (by kernel_rfl) A7 (A0 E1j (A3)) C8l D0n
theorem F2j : B9 Tryz.prog 51 A6b := A4 (sp := E2v) Tryz.func51 (by kernel_rfl) (by kernel_rfl) (by kernel_rfl) A7 (A0 E1p (A0 A9q (A0 D5g (A3)))) E2r E2h
theorem C8o : B9 Tryz.prog 121 O0 := A4 (sp := B0w) Tryz.func121 (by kernel_rfl) (by kernel_rfl) (by kernel_rfl) A7 (A0 A4v (A3)) C0k C0d
theorem D1d : B9 Tryz.prog 52 N3 := A4 (sp := B1g) Tryz.func52 (by kernel_rfl) (by kernel_rfl) (by kernel_rfl) A7 (A0 A0y (A0 A0r (A0 C8o (A0 V5 (A3))))) B9u B9l
theorem E9j : B9 Tryz.prog 123 A3h := A4 (sp := D5i) Tryz.func123 (by kernel_rfl) (by kernel_rfl) (by kernel_rfl) A7 (A0 Z9 (A0 A0a (A0 B3n (A0 C2u (A3))))) D9l D6d
theorem E8u : B9 Tryz.prog 53 A2y := A4 (sp := D4u) Tryz.func53 (by kernel_rfl) (by kernel_rfl) (by kernel_rfl) A7 (A0 D5b (A0 E9j (A3))) D8d D8g
theorem F0q : B9 Tryz.prog 124 A3f := A4 (sp := D5y) Tryz.func124 (by kernel_rfl) (by kernel_rfl) (by kernel_rfl) A7 (A0 A9i (A0 Z9 (A0 C3i (A0 A0a (A0 B3n (A3)))))) D6o D8n
theorem E4w : B9 Tryz.prog 54 A0d := A4 (sp := D1r) Tryz.func54 (by kernel_rfl) (by kernel_rfl) (by kernel_rfl) A7 (A0 F0q (A3)) D2f D2b
theorem A5l : B9 Tryz.prog 9 C5 := A4 (sp := X3) Tryz.func9 (by kernel_rfl) (by kernel_rfl) (by kernel_rfl) A7 (A0 B1z (A0 E6c (A0 B7h (A0 E9w (A0 A2l (A0 A9i (A0 C3c (A0 D3j (A0 C9u (A0 B2m (A0 F2j (A0 D1d (A0 E8u (A0 E4w (A3))))))))))))))) A3t A3r
end Go.Proofs.YtkdmjgcjpmcjjaaGreat
