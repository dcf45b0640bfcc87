/- Parts: VcSort, Shelf, OkSort, OkC, Vi, SM4, SM5, SM6, SM7, SM8, SM9, SM10, SM11, SM12. -/
import Derived.Shelf.SlSortCmp.NoneTotal
import Derived.Lib.QuietBelow
import Derived.Ground.SlsfProg
import Derived.Test.YtopgdjjiilkfgaaProg
import Derived.Test.YtopgdjjiilkfgaaKF
/- The sort of the library does what the verifier asks of a function: rows of structs, rows of one-cell elements. -/
namespace Go.Vc
open Go Go.RowKit Go.Gw Go.Shelf
/-- An element of the row, with what it holds. -/
structure El (t : Ty) (w : World) (Z : Nat → Prop) where
  c : List Value
  v : t.den
  h : Rep t w Z c v
theorem each_els {t : Ty} {w : World} {Z : Nat → Prop} : ∀ {l : List t.den} {xs : List Value}, Each (Rep t w Z) xs l → ∃ L : List (El t w Z), L.flatMap El.c = xs ∧ L.map El.v = l
  | [], _, h => ⟨[], h.symm, rfl⟩
  | x :: l, _, ⟨c1, c2, e, h1, h2⟩ => by
    obtain ⟨L, i1, i2⟩ := each_els h2
    exact ⟨⟨c1, x, h1⟩ :: L, by rw [List.flatMap_cons, i1, e], by rw [List.map_cons, i2]⟩
theorem els_each {t : Ty} {w w' : World} {Z Z' : Nat → Prop} (hm : ∀ c x, Rep t w Z c x → Rep t w' Z' c x) : ∀ L : List (El t w Z), Each (Rep t w' Z') (L.flatMap El.c) (L.map El.v)
  | [] => rfl
  | p :: L => ⟨p.c, L.flatMap El.c, rfl, hm _ _ p.h, els_each hm L⟩
theorem flat_get {α : Type} {enc : α → List Value} {k : Nat} (hk : ∀ x, (enc x).length = k) : ∀ (L : List α) (i r : Nat) {x : α}, L[i]? = some x → r < k → (L.flatMap enc)[i * k + r]? = (enc x)[r]?
  | [], _, _, _, h, _ => by cases h
  | y :: L, 0, r, x, h, hr => by
    simp only [List.getElem?_cons_zero, Option.some.injEq] at h
    subst h
    rw [List.flatMap_cons, Nat.zero_mul, Nat.zero_add, List.getElem?_append_left (by rw [hk]; exact hr)]
  | y :: L, i + 1, r, x, h, hr => by
    rw [List.getElem?_cons_succ] at h
    have e : (i + 1) * k + r - k = i * k + r := by rw [Nat.succ_mul]; omega
    rw [List.flatMap_cons, List.getElem?_append_right (by rw [hk, Nat.succ_mul]; omega), hk, e]
    exact flat_get hk L i r h hr
theorem flat_len {α : Type} {enc : α → List Value} {k : Nat} (hk : ∀ x, (enc x).length = k) : ∀ L : List α, (L.flatMap enc).length = L.length * k
  | [] => by simp
  | x :: L => by rw [List.flatMap_cons, List.length_append, flat_len hk L, hk, List.length_cons, Nat.succ_mul]; omega
theorem flatK_at {α : Type} [Inhabited α] {enc : α → List Value} {k : Nat} (hk : ∀ x, (enc x).length = k) (d : Array α) {j : Nat} (hj : j < d.size * k) : (d.toList.flatMap enc)[j]? = some (Go.Sort.flatK enc k d)[j]! := by
  have hk0 : 0 < k := by
    rcases Nat.eq_zero_or_pos k with h | h
    · rw [h, Nat.mul_zero] at hj; omega
    · exact h
  have hi : j / k < d.size := (Nat.div_lt_iff_lt_mul hk0).2 hj
  have hr : j % k < k := Nat.mod_lt _ hk0
  have e : j = j / k * k + j % k := by rw [Nat.mul_comm]; exact (Nat.div_add_mod j k).symm
  rw [Go.Sort.get_flatK enc k d j hj]
  have hx : d.toList[j / k]? = some d[j / k]! := by
    rw [Array.getElem?_toList, Array.getElem?_eq_getElem hi, getElem!_pos d _ hi]
  have := flat_get hk d.toList (j / k) (j % k) hx hr
  rw [← e] at this
  have hl : j % k < (enc d[j / k]!).length := by rw [hk]; exact hr
  rw [this, List.getElem?_eq_getElem hl, getElem!_pos (enc d[j / k]!) (j % k) hl]
theorem drew_of {W w'' : World} (h : Ext W w'') : ∃ q os', w'' = Go.Sort.grow (W.drewN q) os' := by
  obtain ⟨p, hp⟩ := regrown_of_below h.toBelow
  refine ⟨p.d - W.drawn, p.os, ?_⟩
  have hd : W.drawn ≤ p.d := by have := h.drw; rw [hp] at this; exact this
  rw [hp]
  unfold World.drewN redrawn
  rw [show W.drawn + (p.d - W.drawn) = p.d by omega]
theorem put_cells {F cur : Array Value} {n : Nat} {xs : List Value} (hx : xs.length = n) (hF : F.size = n) (hn : n ≤ cur.size) (h : ∀ j, j < n → xs[j]? = some F[j]!) : (Go.Sort.putCells id 0 F cur).size = cur.size ∧ (Go.Sort.putCells id 0 F cur).toList.take n = xs := by
  refine ⟨by simp [Go.Sort.putCells], ?_⟩
  apply List.ext_getElem?
  intro j
  by_cases hj : j < n
  · rw [List.getElem?_take_of_lt hj, h j hj, Array.getElem?_toList]
    unfold Go.Sort.putCells
    rw [Array.getElem?_mapIdx, Array.getElem?_eq_getElem (by omega)]
    simp only [Option.map_some]
    rw [if_pos ⟨Nat.zero_le _, by omega⟩]
    rfl
  · rw [List.getElem?_eq_none (by simp; omega), List.getElem?_eq_none (by omega)]
theorem perm_all {α : Type} [Inhabited α] {d d' : Array α} (h : Go.Sort.PermIn 0 d.size d d') : d'.toList.Perm d.toList := by
  obtain ⟨h1, _, h3⟩ := h
  rw [Array.toList_extract, Array.toList_extract] at h3
  simpa [List.extract_eq_take_drop, List.take_of_length_le, h1] using h3
theorem sorted_all {α : Type} [Inhabited α] {lt : α → α → Bool} {d' : Array α} {n : Nat} (hn : d'.size = n) (h : Go.Sort.SortedIn lt 0 n d') : d'.toList.Pairwise fun a b => lt b a = false := by
  rw [List.pairwise_iff_getElem]
  intro i j hi hj hij
  have hi' : i < d'.size := by simpa using hi
  have hj' : j < d'.size := by simpa using hj
  have := h i j (Nat.zero_le _) hij (by omega)
  rw [getElem!_pos d' i hi', getElem!_pos d' j hj'] at this
  simpa using this
theorem sw_size {w : World} {b m : Nat} {f : Array Value → Array Value} {os : Array Obj} : w.heap.size ≤ (Go.Sort.grow (Go.Sort.mapBlock (Go.Sort.ahead w m) b f) os).heap.size := by
  simp [Go.Sort.grow, Go.Sort.mapBlock, Go.Sort.ahead]
theorem sw_other {w : World} {b m j : Nat} {f : Array Value → Array Value} {os : Array Obj} (hj : j < w.heap.size) (hne : j ≠ b) : (Go.Sort.grow (Go.Sort.mapBlock (Go.Sort.ahead w m) b f) os).heap[j]? = w.heap[j]? := by
  rw [Go.Sort.heap_grow_old _ _ (by simpa [Go.Sort.mapBlock, Go.Sort.ahead] using hj)]
  unfold Go.Sort.mapBlock
  simp only
  rw [Array.getElem?_modify, if_neg (Ne.symm hne)]
  rfl
theorem sw_self {w : World} {b m : Nat} {f : Array Value → Array Value} {os : Array Obj} {cur : Array Value} {e : TypeId} (hh : w.heap[b]? = some (.cells cur e (0, 0))) : (Go.Sort.grow (Go.Sort.mapBlock (Go.Sort.ahead w m) b f) os).heap[b]? = some (.cells (f cur) e (0, 0)) := by
  have hj : b < w.heap.size := (Array.getElem?_eq_some_iff.1 hh).1
  rw [Go.Sort.heap_grow_old _ _ (by simpa [Go.Sort.mapBlock, Go.Sort.ahead] using hj)]
  unfold Go.Sort.mapBlock
  simp only
  rw [Array.getElem?_modify, if_pos rfl]
  have : (Go.Sort.ahead w m).heap[b]? = some (.cells cur e (0, 0)) := hh
  rw [this]
  rfl
theorem enters_run {P : Program} {f : FuncId} (he : enters P f = true) (args : Array Value) (w : World) : (callFunc f args).run P w = .ok (.enter f args) w := by
  unfold enters at he
  split at he
  · rename_i fn hfn
    simp only [Bool.and_eq_true, Bool.not_eq_true'] at he
    have h2 : ¬ fn.body = none := by intro hb; rw [hb] at he; simp at he
    have h1 : ¬ fn.name = "runtime.NumGoroutine" := by simpa using he.1
    simp [callFunc, hfn, h1, h2, go_sem]
  · cases he
/-- What the sort's argument must be like. -/
def sortPre {α : Type} (x : List α × (((α × α × Unit) → Prop) × ((α × α × Unit) → Int)) × Unit) : Prop :=
  (∀ a b, x.2.1.1 (a, b, ())) ∧ x.1.length ≤ 100000 ∧ (∀ a, ¬ x.2.1.2 (a, a, ()) < 0) ∧ (∀ a b c, x.2.1.2 (a, b, ()) < 0 → x.2.1.2 (b, c, ()) < 0 → x.2.1.2 (a, c, ()) < 0) ∧ (∀ a b c, ¬ x.2.1.2 (a, b, ()) < 0 → ¬ x.2.1.2 (b, c, ()) < 0 → ¬ x.2.1.2 (a, c, ()) < 0)
def sortPost {α : Type} (x : List α × (((α × α × Unit) → Prop) × ((α × α × Unit) → Int)) × Unit) (o : List α × Unit) : Prop :=
  o.1.Perm x.1 ∧ o.1.Pairwise (fun a b => ¬ x.2.1.2 (b, a, ()) < 0)
def sortSpec (agg sh : Bool) (t : Ty) (e : TypeId) : FSpec :=
  { args := [.row t e, .fn [(agg, t), (agg, t)] (.int .i64)], res := [], shared := sh, pre := fun x => sortPre (α := t.den) x, post := fun _ _ => True, mpost := fun x _ o => sortPost (α := t.den) x o }
theorem swo_of {α β : Type} {φ : (α × α × Unit) → Int} (v : β → α) (h1 : ∀ a, ¬ φ (a, a, ()) < 0) (h2 : ∀ a b c, φ (a, b, ()) < 0 → φ (b, c, ()) < 0 → φ (a, c, ()) < 0) (h3 : ∀ a b c, ¬ φ (a, b, ()) < 0 → ¬ φ (b, c, ()) < 0 → ¬ φ (a, c, ()) < 0) :
    Go.Sort.SWO (Go.Proofs.ltOf fun x y : β => φ (v x, v y, ())) := by
  refine ⟨fun x => ?_, fun x y z h h' => ?_, fun x y z h h' => ?_⟩
  · exact decide_eq_false (h1 _)
  · exact decide_eq_true (h2 _ _ _ (of_decide_eq_true h) (of_decide_eq_true h'))
  · exact decide_eq_false (h3 _ _ _ (of_decide_eq_false h) (of_decide_eq_false h'))
/-- The end of both proofs. -/
theorem sort_end {agg sh : Bool} {t : Ty} {e : TypeId} {w w' : World} {Z : Nat → Prop} {fv : Value} {g cap : Nat} {cur F : Array Value} {k : Nat} {x : dens (sortSpec agg sh t e).args} {L L' : List (El t w Z)}
    (hfl : sh = true ∨ ∀ w1 w2 Z1 Z2 c (y : t.den), Rep t w1 Z1 c y → Rep t w2 Z2 c y) (hZ : ∀ b, Z b → b < w.heap.size) (hgZ : ¬ Z g) (hk : t.size = k)
    (hheap : w.heap[g]? = some (.cells cur e (0, 0))) (hcap : L.length ≤ cap) (hmax : cap ≤ maxLen) (hcs : cur.size = cap * k) (hLx : L.map El.v = x.1)
    (hp : L'.Perm L) (hs : L'.Pairwise fun a b => ¬ x.2.1.2 (b.v, a.v, ()) < 0)
    (hF : F.size = L.length * k) (hFx : ∀ j, j < L.length * k → (L'.flatMap El.c)[j]? = some F[j]!)
    (hos : w'.os = w.os) (htape : w'.tape = w.tape) (hout : w'.output = w.output) (hsz : w.heap.size ≤ w'.heap.size) (hdr : w.drawn ≤ w'.drawn)
    (hblk : ∀ j, j < w.heap.size → j ≠ g → w'.heap[j]? = w.heap[j]?) (hg : w'.heap[g]? = some (.cells (Go.Sort.putCells id 0 F cur) e (0, 0))) :
    ExtM (mset w (sortSpec agg sh t e).args [.slice (some ⟨g, 0, none⟩) L.length cap, fv]) w w' ∧ ∃ (r : rdens (sortSpec agg sh t e).res) (o : outs (sortSpec agg sh t e).args) (us : List Value) (Zn : Nat → Prop), (sortSpec agg sh t e).post x r ∧ (hasMut (sortSpec agg sh t e).args = true → (sortSpec agg sh t e).mpost x r o) ∧ Value.tuple #[] = valOf us ∧ (∀ b, Zn b → (w.heap.size ≤ b ∧ b < w'.heap.size) ∨ ((sortSpec agg sh t e).shared = true ∧ Z b)) ∧ RepRs w.heap.size w' Zn (sortSpec agg sh t e).res us r ∧ RepO w w' Zn (sortSpec agg sh t e).args [.slice (some ⟨g, 0, none⟩) L.length cap, fv] o := by
  have hlen : L'.length = L.length := hp.length_eq
  have hc : ∀ p : El t w Z, p.c.length = k := fun p => by rw [← hk]; exact Rep.length p.h
  have hxl : (L'.flatMap El.c).length = L.length * k := by rw [flat_len hc, hlen]
  obtain ⟨p1, p2⟩ := put_cells hxl hF (by rw [hcs]; exact Nat.mul_le_mul_right _ hcap) hFx
  have hsame : SameZ Z w w' := fun b hb => hblk b (hZ b hb) (fun e => hgZ (e ▸ hb))
  refine ⟨⟨hos, htape, hout, hsz, fun j hj hm => hblk j hj (fun ej => hm ?_), hdr⟩, (), (L'.map El.v, ()), [], (fun b => sh = true ∧ Z b), trivial, fun _ => ⟨?_, ?_⟩, rfl, fun b hb => .inr hb, rfl, ?_⟩
  · subst ej
    refine ⟨(.row t e, .slice (some ⟨j, 0, none⟩) L.length cap), List.mem_cons_self, ?_⟩
    rfl
  · rw [← hLx]; exact hp.map _
  · exact List.pairwise_map.2 hs
  · refine ⟨⟨L'.flatMap El.c, ⟨?_, .inr ⟨g, cap, Go.Sort.putCells id 0 F cur, ?_, Nat.zero_le _, hg, ?_, hmax, ?_, ?_⟩⟩, ?_⟩, trivial⟩
    · simp only [List.length_map]; rw [hxl, hlen, hk]
    · simp only [List.length_map, hlen]
    · simp only [List.length_map, hlen]; exact hcap
    · rw [p1, hcs, hk]
    · simp only [List.length_map, hlen, hk]; exact p2
    · refine els_each (fun c y hy => ?_) L'
      rcases hfl with h1 | h1
      · exact Rep.mono (fun b hb => ⟨h1, hb⟩) hsame hy
      · exact h1 _ _ _ _ _ _ hy
/-- Rows of structs. -/
theorem meets_sortK {P : Program} {ρ : Ren} (LL : Go.Proofs.SlLaysF0.n6 P ρ) {t : Ty} {e : TypeId} {sh : Bool} (aE : ∀ w, (isAgg (ρ.t 24)).run P w = .ok true w) (zE : ∀ w, (Go.sizeOf (ρ.t 24)).run P w = .ok t.size w)
    (hfl : sh = true ∨ ∀ w1 w2 Z1 Z2 c (y : t.den), Rep t w1 Z1 c y → Rep t w2 Z2 c y) : Meets P (ρ.f 6) (sortSpec true sh t e) := by
  rintro w Z vs ⟨l, ⟨ok, φ⟩, ⟨⟩⟩ hZ ⟨v, _, rfl, ⟨xs, hown, hea, hZv⟩, fv, _, rfl, ⟨g, caps, rfl, hen, hfn⟩, rfl⟩ _ ⟨hok, hlen, h1, h2, h3⟩
  simp only at hok hlen h1 h2 h3 hown hea hfn
  obtain ⟨L, rfl, rfl⟩ := each_els hea
  have hL : (L.map El.v).length = L.length := List.length_map ..
  rw [hL] at hown hlen
  obtain ⟨hxs, hv⟩ := hown
  have hnone : ∀ (p : Option Addr) (cap : Nat), L = [] → Gw.Ret P (ρ.f 6) [.slice p 0 cap, .func (.func g) #[] caps.toArray] w fun u w' => u = .tuple #[] ∧ w' = w := fun p cap _ =>
    Calls.mono (Go.Proofs.AnyF.slices_SortFunc_none LL p cap (.func (.func g) #[] caps.toArray) w) fun _ _ ⟨he, hw⟩ => ⟨_, he, rfl, hw⟩
  rcases hv with ⟨rfl, hn⟩ | ⟨b, cap, cur, rfl, _, hheap, hcap, hmax, hcs, htake⟩
  · have hL0 : L = [] := List.eq_nil_of_length_eq_zero hn
    subst hL0
    refine (hnone none 0 rfl).mono ?_
    rintro _ _ ⟨rfl, rfl⟩
    refine ⟨ExtM.of (Ext.refl _), (), ([], ()), [], (fun _ => False), trivial, fun _ => ⟨List.Perm.refl _, List.Pairwise.nil⟩, rfl, fun _ hb => hb.elim, rfl, ⟨⟨[], World.ownsRow_nil _ _ _ _, rfl⟩, trivial⟩⟩
  · have hbZ : ¬ Z b := hZv b rfl
    have hc : ∀ p : El t w Z, p.c.length = t.size := fun p => Rep.length p.h
    have hbl : b < w.heap.size := (Array.getElem?_eq_some_iff.1 hheap).1
    rcases hL0 : L with _ | ⟨p0, L0⟩
    · subst hL0
      refine (hnone _ cap rfl).mono ?_
      rintro _ _ ⟨rfl, rfl⟩
      refine ⟨ExtM.of (Ext.refl _), (), ([], ()), [], (fun _ => False), trivial, fun _ => ⟨List.Perm.refl _, List.Pairwise.nil⟩, rfl, fun _ hb => hb.elim, rfl, ⟨⟨[], ⟨by simp, .inr ⟨b, cap, cur, rfl, Nat.zero_le _, hheap, hcap, hmax, hcs, by simp⟩⟩, rfl⟩, trivial⟩⟩
    · rw [← hL0]
      clear hnone
      haveI : Inhabited (El t w Z) := ⟨p0⟩
      have hH : Go.Sort.HoldsK El.c t.size w b 0 L.toArray := by
        intro j hj
        rw [Go.Sort.size_flatK] at hj
        have hj' : j < L.length * t.size := by simpa using hj
        have h5 := flatK_at hc L.toArray hj
        rw [Nat.zero_add]
        refine ⟨?_, ?_⟩
        · have h6 : cur[j]? = some (Go.Sort.flatK El.c t.size L.toArray)[j]! := by
            rw [← h5]
            simp only
            rw [← htake, List.getElem?_take_of_lt hj', Array.getElem?_toList]
          simp only [World.cell?, hheap]
          exact h6
        · simp [World.frozen?, hheap]
      have hcmp : Go.Proofs.CmpLays P g caps.toArray El.c t.size (fun x y : El t w Z => φ (x.v, y.v, ())) b 0 L.toArray.size w := by
        intro m os dk hdk x y
        have hsame : SameZ Z w (Go.Proofs.sortWorldK El.c t.size w b 0 m dk os) := by
          intro i hi
          have : i ≠ b := fun e => hbZ (e ▸ hi)
          exact sw_other (hZ i hi) this
        have hsz : ∀ i, Z i → i < (Go.Proofs.sortWorldK El.c t.size w b 0 m dk os).heap.size := by
          intro i hi
          exact Nat.lt_of_lt_of_le (hZ i hi) sw_size
        have h7 := hfn _ Z [.agg x.c.toArray, .agg y.c.toArray] (x.v, y.v, ()) hsame hsz hsz ⟨_, _, rfl, ⟨x.c, rfl, Rep.mono (fun _ h => h) hsame x.h⟩, _, _, rfl, ⟨y.c, rfl, Rep.mono (fun _ h => h) hsame y.h⟩, rfl⟩ (hok _ _)
        have ea : (([.agg x.c.toArray, .agg y.c.toArray] : List Value) ++ caps).toArray = #[Value.agg x.c.toArray, .agg y.c.toArray] ++ caps.toArray := by simp
        unfold Gw.Ret at h7
        rw [ea] at h7
        refine Calls.mono h7 ?_
        rintro _ w'' ⟨u, rfl, hx, hu, _⟩
        obtain ⟨q, os', hw⟩ := drew_of hx
        refine ⟨?_, q, os', hw⟩
        rw [show u = .int .i64 (φ (x.v, y.v, ())) by simpa using hu]
      have hcall := Go.Proofs.AnyQ.slices_SortFunc LL t.size aE zE El.c hc (fun x => Rep.oneCell x.h) (fun x y : El t w Z => φ (x.v, y.v, ())) (swo_of El.v h1 h2 h3) g caps.toArray b 0 cap L.toArray w (enters_run hen) hcmp hH hbl (by simp; omega)
      refine Calls.mono hcall ?_
      rintro _ w' ⟨rfl, d', n, os, hperm, hsort, rfl⟩
      refine ⟨_, rfl, ?_⟩
      have hp := perm_all hperm
      have hs := sorted_all hperm.1 hsort
      have hds : d'.size = L.length := by rw [hperm.1]; simp
      refine sort_end (k := t.size) (F := Go.Sort.flatK El.c t.size d') (L := L) (L' := d'.toList) (cur := cur) (x := (L.map El.v, (ok, φ), ())) hfl hZ hbZ rfl hheap hcap hmax hcs rfl hp ?_ ?_ ?_ rfl rfl rfl ?_ ?_ ?_ ?_
      · exact hs.imp fun h => of_decide_eq_false h
      · rw [Go.Sort.size_flatK, hds]
      · intro j hj; exact flatK_at hc d' (by rw [hds]; exact hj)
      · exact sw_size
      · exact Nat.le_add_right _ _
      · intro i hi hne
        exact sw_other hi hne
      · exact sw_self hheap
def El.one {t : Ty} {w : World} {Z : Nat → Prop} (p : El t w Z) : Value := p.c.headD (.bool false)
theorem El.c_one {t : Ty} {w : World} {Z : Nat → Prop} (h1c : t.size = 1) (p : El t w Z) : p.c = [p.one] := by
  have := Rep.length p.h
  rw [h1c] at this
  obtain ⟨a, ha⟩ := List.length_eq_one_iff.1 this
  unfold El.one
  rw [ha]
  rfl
theorem El.one_rep {t : Ty} {w : World} {Z : Nat → Prop} (h1c : t.size = 1) (p : El t w Z) : Rep t w Z [p.one] p.v := by
  rw [← p.c_one h1c]; exact p.h
theorem one_at {t : Ty} {w : World} {Z : Nat → Prop} [Inhabited (El t w Z)] (h1c : t.size = 1) (d : Array (El t w Z)) {j : Nat} (hj : j < d.size) : (d.toList.flatMap El.c)[j]? = some (El.one d[j]!) := by
  have hx : d.toList[j]? = some d[j]! := by
    rw [Array.getElem?_toList, Array.getElem?_eq_getElem hj, getElem!_pos d _ hj]
  have := flat_get (enc := El.c) (k := 1) (fun p : El t w Z => by rw [p.c_one h1c]; rfl) d.toList j 0 hx (by omega)
  rw [Nat.mul_one, Nat.add_zero] at this
  rw [this, El.c_one h1c]
  rfl
theorem put_one {t : Ty} {w : World} {Z : Nat → Prop} [Inhabited (El t w Z)] (d : Array (El t w Z)) (cur : Array Value) : Go.Sort.putCells El.one 0 d cur = Go.Sort.putCells id 0 (d.map El.one) cur := by
  unfold Go.Sort.putCells
  apply Array.ext
  · simp
  · intro i h1 h2
    simp only [Array.getElem_mapIdx, Array.size_map]
    split
    · rename_i h
      have hi : i < d.size := by omega
      simp only [Nat.sub_zero, id]
      rw [getElem!_pos d i hi, getElem!_pos (d.map El.one) i (by simpa using hi), Array.getElem_map]
    · rfl
/-- Rows of elements of one cell. -/
theorem meets_sort1 {P : Program} {ρ : Ren} (LL : Go.Proofs.SlLaysF.n6 P ρ) {t : Ty} {e : TypeId} {sh : Bool} (h1c : t.size = 1)
    (hfl : sh = true ∨ ∀ w1 w2 Z1 Z2 c (y : t.den), Rep t w1 Z1 c y → Rep t w2 Z2 c y) : Meets P (ρ.f 6) (sortSpec false sh t e) := by
  rintro w Z vs ⟨l, ⟨ok, φ⟩, ⟨⟩⟩ hZ ⟨v, _, rfl, ⟨xs, hown, hea, hZv⟩, fv, _, rfl, ⟨g, caps, rfl, hen, hfn⟩, rfl⟩ _ ⟨hok, hlen, h1, h2, h3⟩
  simp only at hok hlen h1 h2 h3 hown hea hfn
  obtain ⟨L, rfl, rfl⟩ := each_els hea
  have hL : (L.map El.v).length = L.length := List.length_map ..
  rw [hL] at hown hlen
  obtain ⟨hxs, hv⟩ := hown
  have hnone : ∀ (p : Option Addr) (cap : Nat), L = [] → Gw.Ret P (ρ.f 6) [.slice p 0 cap, .func (.func g) #[] caps.toArray] w fun u w' => u = .tuple #[] ∧ w' = w := fun p cap _ =>
    Calls.mono (Go.Proofs.AnyF.slices_SortFunc_none { LL with } p cap (.func (.func g) #[] caps.toArray) w) fun _ _ ⟨he, hw⟩ => ⟨_, he, rfl, hw⟩
  rcases hv with ⟨rfl, hn⟩ | ⟨b, cap, cur, rfl, _, hheap, hcap, hmax, hcs, htake⟩
  · have hL0 : L = [] := List.eq_nil_of_length_eq_zero hn
    subst hL0
    refine (hnone none 0 rfl).mono ?_
    rintro _ _ ⟨rfl, rfl⟩
    refine ⟨ExtM.of (Ext.refl _), (), ([], ()), [], (fun _ => False), trivial, fun _ => ⟨List.Perm.refl _, List.Pairwise.nil⟩, rfl, fun _ hb => hb.elim, rfl, ⟨⟨[], World.ownsRow_nil _ _ _ _, rfl⟩, trivial⟩⟩
  · have hbZ : ¬ Z b := hZv b rfl
    have hc : ∀ p : El t w Z, p.c.length = t.size := fun p => Rep.length p.h
    have hbl : b < w.heap.size := (Array.getElem?_eq_some_iff.1 hheap).1
    rcases hL0 : L with _ | ⟨p0, L0⟩
    · subst hL0
      refine (hnone _ cap rfl).mono ?_
      rintro _ _ ⟨rfl, rfl⟩
      refine ⟨ExtM.of (Ext.refl _), (), ([], ()), [], (fun _ => False), trivial, fun _ => ⟨List.Perm.refl _, List.Pairwise.nil⟩, rfl, fun _ hb => hb.elim, rfl, ⟨⟨[], ⟨by simp, .inr ⟨b, cap, cur, rfl, Nat.zero_le _, hheap, hcap, hmax, hcs, by simp⟩⟩, rfl⟩, trivial⟩⟩
    · rw [← hL0]
      clear hnone
      haveI : Inhabited (El t w Z) := ⟨p0⟩
      have hH : Go.Sort.Holds El.one w b 0 L.toArray := by
        intro j hj
        have hj' : j < L.length * t.size := by rw [h1c, Nat.mul_one]; simpa using hj
        have h5 := one_at h1c L.toArray hj
        rw [Nat.zero_add]
        refine ⟨?_, ?_⟩
        · have h6 : cur[j]? = some (El.one L.toArray[j]!) := by
            rw [← h5]
            simp only
            rw [← htake, List.getElem?_take_of_lt hj', Array.getElem?_toList]
          simp only [World.cell?, hheap]
          exact h6
        · simp [World.frozen?, hheap]
      have hcmp : Go.Proofs.CmpLays1 P g caps.toArray El.one (fun x y : El t w Z => φ (x.v, y.v, ())) b 0 L.toArray.size w := by
        intro m os dk hdk x y
        have hsame : SameZ Z w (Go.Proofs.sortWorld El.one w b 0 m dk os) := by
          intro i hi
          have : i ≠ b := fun e => hbZ (e ▸ hi)
          exact sw_other (hZ i hi) this
        have hsz : ∀ i, Z i → i < (Go.Proofs.sortWorld El.one w b 0 m dk os).heap.size := by
          intro i hi
          exact Nat.lt_of_lt_of_le (hZ i hi) sw_size
        have h7 := hfn _ Z [x.one, y.one] (x.v, y.v, ()) hsame hsz hsz ⟨_, _, rfl, Rep.mono (fun _ h => h) hsame (x.one_rep h1c), _, _, rfl, Rep.mono (fun _ h => h) hsame (y.one_rep h1c), rfl⟩ (hok _ _)
        have ea : (([x.one, y.one] : List Value) ++ caps).toArray = #[x.one, y.one] ++ caps.toArray := by simp
        unfold Gw.Ret at h7
        rw [ea] at h7
        refine Calls.mono h7 ?_
        rintro _ w'' ⟨u, rfl, hx, hu, _⟩
        obtain ⟨q, os', hw⟩ := drew_of hx
        refine ⟨?_, q, os', hw⟩
        rw [show u = .int .i64 (φ (x.v, y.v, ())) by simpa using hu]
      have hcall := Go.Proofs.Any.slices_SortFunc LL El.one (fun x => Rep.oneCell (x.one_rep h1c) _ List.mem_cons_self) (fun x y : El t w Z => φ (x.v, y.v, ())) (swo_of El.v h1 h2 h3) g caps.toArray b 0 cap L.toArray w (enters_run hen) hcmp hH hbl (by simp; omega)
      refine Calls.mono hcall ?_
      rintro _ w' ⟨rfl, d', n, os, hperm, hsort, rfl⟩
      refine ⟨_, rfl, ?_⟩
      have hp := perm_all hperm
      have hs := sorted_all hperm.1 hsort
      have hds : d'.size = L.length := by rw [hperm.1]; simp
      refine sort_end (k := t.size) (F := d'.map El.one) (L := L) (L' := d'.toList) (cur := cur) (x := (L.map El.v, (ok, φ), ())) hfl hZ hbZ rfl hheap hcap hmax hcs rfl hp ?_ ?_ ?_ rfl rfl rfl ?_ ?_ ?_ ?_
      · exact hs.imp fun h => of_decide_eq_false h
      · rw [Array.size_map, hds, h1c, Nat.mul_one]
      · intro j hj
        have hj1 : j < d'.size := by rw [hds]; rw [h1c, Nat.mul_one] at hj; exact hj
        have h8 := one_at h1c d' hj1
        rw [h8, getElem!_pos d' j hj1, getElem!_pos (d'.map El.one) j (by simpa using hj1), Array.getElem_map]
      · exact sw_size
      · exact Nat.le_add_right _ _
      · intro i hi hne
        exact sw_other hi hne
      · rw [← put_one]; exact sw_self hheap
end Go.Vc
/- The sort functions of this program are laid on the kit's (printed by the kit's lay-plain tool). -/
namespace Go.Proofs
open Go.Shelf
def Try.sortArc_ren : Go.Shelf.Ren := ⟨fun | 6 => 35 | 15 => 44 | 14 => 51 | 28 => 62 | 29 => 63 | 20 => 66 | 21 => 67 | 22 => 68 | 23 => 69 | 24 => 70 | 25 => 71 | 26 => 72 | 27 => 73 | 46 => 79 | 47 => 75 | 48 => 76 | 49 => 80 | 50 => 81 | 57 => 83 | n => n, fun | 22 => 26 | 24 => 37 | 25 => 65 | 3 => 3 | 39 => 77 | 0 => 0 | 53 => 95 | 55 => 57 | 4 => 4 | 46 => 88 | 45 => 87 | 50 => 92 | 5 => 5 | 9 => 9 | 66 => 103 | 70 => 107 | 76 => 111 | 77 => 67 | n => n, fun | n => n⟩
theorem Try.sortArc : Go.Proofs.SlLaysF0.n6 Try.prog Try.sortArc_ren := {
  mixed := by kernel_rfl
  f6 := ⟨Try.f35.name, by decide, Try.func35.trans (congrArg some (by kernel_rfl))⟩
  f14 := ⟨Try.f51.name, by decide, Try.func51.trans (congrArg some (by kernel_rfl))⟩
  f15 := Try.func44.trans (congrArg some (by kernel_rfl))
  f20 := ⟨Try.f66.name, by decide, Try.func66.trans (congrArg some (by kernel_rfl))⟩
  f21 := ⟨Try.f67.name, by decide, Try.func67.trans (congrArg some (by kernel_rfl))⟩
  f22 := ⟨Try.f68.name, by decide, Try.func68.trans (congrArg some (by kernel_rfl))⟩
  f23 := ⟨Try.f69.name, by decide, Try.func69.trans (congrArg some (by kernel_rfl))⟩
  f24 := ⟨Try.f70.name, by decide, Try.func70.trans (congrArg some (by kernel_rfl))⟩
  f25 := ⟨Try.f71.name, by decide, Try.func71.trans (congrArg some (by kernel_rfl))⟩
  f26 := ⟨Try.f72.name, by decide, Try.func72.trans (congrArg some (by kernel_rfl))⟩
  f27 := ⟨Try.f73.name, by decide, Try.func73.trans (congrArg some (by kernel_rfl))⟩
  f28 := Try.func62.trans (congrArg some (by kernel_rfl))
  f29 := Try.func63.trans (congrArg some (by kernel_rfl))
  f46 := ⟨Try.f79.name, by decide, Try.func79.trans (congrArg some (by kernel_rfl))⟩
  f47 := Try.func75.trans (congrArg some (by kernel_rfl))
  f48 := Try.func76.trans (congrArg some (by kernel_rfl))
  f49 := ⟨Try.f80.name, by decide, Try.func80.trans (congrArg some (by kernel_rfl))⟩
  f50 := ⟨Try.f81.name, by decide, Try.func81.trans (congrArg some (by kernel_rfl))⟩
  f57 := ⟨Try.f83.name, by decide, Try.func83.trans (congrArg some (by kernel_rfl))⟩
  t0 := Try.underlying0
  a0 := Try.isAgg0
  z0 := Try.sizeOf0
  v0 := Try.zeroValue0
  t3 := Try.underlying3
  a3 := Try.isAgg3
  z3 := Try.sizeOf3
  v3 := Try.zeroValue3
  t4 := Try.underlying4
  a4 := Try.isAgg4
  z4 := Try.sizeOf4
  v4 := Try.zeroValue4
  t5 := Try.underlying5
  a5 := Try.isAgg5
  z5 := Try.sizeOf5
  v5 := Try.zeroValue5
  t9 := Try.underlying9
  a9 := Try.isAgg9
  z9 := Try.sizeOf9
  v9 := Try.zeroValue9
  t22 := Try.underlying26
  a22 := Try.isAgg26
  z22 := Try.sizeOf26
  v22 := Try.zeroValue26
  t25 := Try.underlying65
  a25 := Try.isAgg65
  z25 := Try.sizeOf65
  v25 := Try.zeroValue65
  t39 := Try.underlying77
  a39 := Try.isAgg77
  z39 := Try.sizeOf77
  v39 := Try.zeroValue77
  t45 := Try.underlying87
  a45 := Try.isAgg87
  z45 := Try.sizeOf87
  v45 := Try.zeroValue87
  t46 := Try.underlying88
  a46 := Try.isAgg88
  z46 := Try.sizeOf88
  v46 := Try.zeroValue88
  t50 := Try.underlying92
  a50 := Try.isAgg92
  z50 := Try.sizeOf92
  v50 := Try.zeroValue92
  t53 := Try.underlying95
  a53 := Try.isAgg95
  z53 := Try.sizeOf95
  v53 := Try.zeroValue95
  t55 := Try.underlying57
  a55 := Try.isAgg57
  z55 := Try.sizeOf57
  v55 := Try.zeroValue57
  t66 := Try.underlying103
  a66 := Try.isAgg103
  z66 := Try.sizeOf103
  v66 := Try.zeroValue103
  t70 := Try.underlying107
  a70 := Try.isAgg107
  z70 := Try.sizeOf107
  v70 := Try.zeroValue107
  t76 := Try.underlying111
  a76 := Try.isAgg111
  z76 := Try.sizeOf111
  v76 := Try.zeroValue111
  t77 := Try.underlying67
  a77 := Try.isAgg67
  z77 := Try.sizeOf67
  v77 := Try.zeroValue67 }
def Try.sortRows_ren : Go.Shelf.Ren := ⟨fun | 6 => 27 | 15 => 44 | 14 => 43 | 28 => 62 | 29 => 63 | 20 => 54 | 21 => 55 | 22 => 56 | 23 => 57 | 24 => 58 | 25 => 59 | 26 => 60 | 27 => 61 | 46 => 74 | 47 => 75 | 48 => 76 | 49 => 77 | 50 => 78 | 57 => 82 | n => n, fun | 22 => 27 | 24 => 23 | 25 => 44 | 3 => 3 | 39 => 77 | 0 => 0 | 53 => 95 | 55 => 57 | 4 => 4 | 46 => 88 | 45 => 87 | 50 => 92 | 5 => 5 | 9 => 9 | 66 => 103 | 70 => 107 | 76 => 111 | 77 => 67 | n => n, fun | n => n⟩
theorem Try.sortRows : Go.Proofs.SlLaysF.n6 Try.prog Try.sortRows_ren := {
  mixed := by kernel_rfl
  f6 := ⟨Try.f27.name, by decide, Try.func27.trans (congrArg some (by kernel_rfl))⟩
  f14 := ⟨Try.f43.name, by decide, Try.func43.trans (congrArg some (by kernel_rfl))⟩
  f15 := Try.func44.trans (congrArg some (by kernel_rfl))
  f20 := ⟨Try.f54.name, by decide, Try.func54.trans (congrArg some (by kernel_rfl))⟩
  f21 := ⟨Try.f55.name, by decide, Try.func55.trans (congrArg some (by kernel_rfl))⟩
  f22 := ⟨Try.f56.name, by decide, Try.func56.trans (congrArg some (by kernel_rfl))⟩
  f23 := ⟨Try.f57.name, by decide, Try.func57.trans (congrArg some (by kernel_rfl))⟩
  f24 := ⟨Try.f58.name, by decide, Try.func58.trans (congrArg some (by kernel_rfl))⟩
  f25 := ⟨Try.f59.name, by decide, Try.func59.trans (congrArg some (by kernel_rfl))⟩
  f26 := ⟨Try.f60.name, by decide, Try.func60.trans (congrArg some (by kernel_rfl))⟩
  f27 := ⟨Try.f61.name, by decide, Try.func61.trans (congrArg some (by kernel_rfl))⟩
  f28 := Try.func62.trans (congrArg some (by kernel_rfl))
  f29 := Try.func63.trans (congrArg some (by kernel_rfl))
  f46 := ⟨Try.f74.name, by decide, Try.func74.trans (congrArg some (by kernel_rfl))⟩
  f47 := Try.func75.trans (congrArg some (by kernel_rfl))
  f48 := Try.func76.trans (congrArg some (by kernel_rfl))
  f49 := ⟨Try.f77.name, by decide, Try.func77.trans (congrArg some (by kernel_rfl))⟩
  f50 := ⟨Try.f78.name, by decide, Try.func78.trans (congrArg some (by kernel_rfl))⟩
  f57 := ⟨Try.f82.name, by decide, Try.func82.trans (congrArg some (by kernel_rfl))⟩
  t0 := Try.underlying0
  a0 := Try.isAgg0
  z0 := Try.sizeOf0
  v0 := Try.zeroValue0
  t3 := Try.underlying3
  a3 := Try.isAgg3
  z3 := Try.sizeOf3
  v3 := Try.zeroValue3
  t4 := Try.underlying4
  a4 := Try.isAgg4
  z4 := Try.sizeOf4
  v4 := Try.zeroValue4
  t5 := Try.underlying5
  a5 := Try.isAgg5
  z5 := Try.sizeOf5
  v5 := Try.zeroValue5
  t9 := Try.underlying9
  a9 := Try.isAgg9
  z9 := Try.sizeOf9
  v9 := Try.zeroValue9
  t22 := Try.underlying27
  a22 := Try.isAgg27
  z22 := Try.sizeOf27
  v22 := Try.zeroValue27
  a24 := Try.isAgg23
  z24 := Try.sizeOf23
  t25 := Try.underlying44
  a25 := Try.isAgg44
  z25 := Try.sizeOf44
  v25 := Try.zeroValue44
  t39 := Try.underlying77
  a39 := Try.isAgg77
  z39 := Try.sizeOf77
  v39 := Try.zeroValue77
  t45 := Try.underlying87
  a45 := Try.isAgg87
  z45 := Try.sizeOf87
  v45 := Try.zeroValue87
  t46 := Try.underlying88
  a46 := Try.isAgg88
  z46 := Try.sizeOf88
  v46 := Try.zeroValue88
  t50 := Try.underlying92
  a50 := Try.isAgg92
  z50 := Try.sizeOf92
  v50 := Try.zeroValue92
  t53 := Try.underlying95
  a53 := Try.isAgg95
  z53 := Try.sizeOf95
  v53 := Try.zeroValue95
  t55 := Try.underlying57
  a55 := Try.isAgg57
  z55 := Try.sizeOf57
  v55 := Try.zeroValue57
  t66 := Try.underlying103
  a66 := Try.isAgg103
  z66 := Try.sizeOf103
  v66 := Try.zeroValue103
  t70 := Try.underlying107
  a70 := Try.isAgg107
  z70 := Try.sizeOf107
  v70 := Try.zeroValue107
  t76 := Try.underlying111
  a76 := Try.isAgg111
  z76 := Try.sizeOf111
  v76 := Try.zeroValue111
  t77 := Try.underlying67
  a77 := Try.isAgg67
  z77 := Try.sizeOf67
  v77 := Try.zeroValue67 }
end Go.Proofs
/- The two sorts meet what is said of them. -/
namespace Go.Proofs.Ytopgdjjiilkfgaa
open Go.Vc Go.Gw
theorem ok_slices_SortFunc_SSint_Sint : Meets Try.prog 27 s_slices_SortFunc_SSint_Sint :=
  meets_sort1 (ρ := Try.sortRows_ren) (t := .sl (.int .i64)) (e := 23) (sh := true) Try.sortRows rfl (.inl rfl)
theorem ok_slices_SortFunc_SArc_Arc : Meets Try.prog 35 s_slices_SortFunc_SArc_Arc :=
  meets_sortK (ρ := Try.sortArc_ren) (t := tA) (e := 37) (sh := false) Try.sortArc Try.isAgg37 Try.sizeOf37 (.inr fun _ _ _ _ _ _ h => h)
end Go.Proofs.Ytopgdjjiilkfgaa
/- Every function does what is said of it. -/
namespace Go.Proofs.Ytopgdjjiilkfgaa
open Go.Vc Go.Gw
theorem ok_law34_kindred : Meets Try.prog 5 s_law34_kindred := m_law34_kindred (spOk_nil) vc_law34_kindred_ok
theorem ok_r24_small : Meets Try.prog 18 s_r24_small := m_r24_small (spOk_nil) vc_r24_small_ok
theorem ok_r24_Near : Meets Try.prog 6 s_r24_Near := m_r24_Near (spOk_cons ok_r24_small (spOk_nil)) vc_r24_Near_ok
theorem ok_r24_Sound : Meets Try.prog 12 s_r24_Sound := m_r24_Sound (spOk_nil) vc_r24_Sound_ok
theorem ok_r24_Caps : Meets Try.prog 38 s_r24_Caps := m_r24_Caps (spOk_cons ok_r24_Sound (spOk_nil)) vc_r24_Caps_ok
theorem ok_r24_Initial : Meets Try.prog 19 s_r24_Initial := m_r24_Initial (spOk_cons ok_r24_Sound (spOk_cons ok_r24_Caps (spOk_nil))) vc_r24_Initial_ok
theorem ok_r24_States : Meets Try.prog 23 s_r24_States := m_r24_States (spOk_cons ok_r24_Sound (spOk_cons ok_r24_Caps (spOk_nil))) vc_r24_States_ok
theorem ok_r24_Position : Meets Try.prog 46 s_r24_Position := m_r24_Position (spOk_cons ok_r24_States (spOk_nil)) vc_r24_Position_ok
theorem ok_r24_Is : Meets Try.prog 39 s_r24_Is := m_r24_Is (spOk_cons ok_r24_Position (spOk_nil)) vc_r24_Is_ok
theorem ok_r24_Next : Meets Try.prog 20 s_r24_Next := m_r24_Next (spOk_cons ok_r24_Caps (spOk_cons ok_r24_Is (spOk_nil))) vc_r24_Next_ok
theorem ok_r24_In : Meets Try.prog 40 s_r24_In := m_r24_In (spOk_nil) vc_r24_In_ok
theorem ok_r24_Allowed : Meets Try.prog 21 s_r24_Allowed := m_r24_Allowed (spOk_cons ok_r24_In (spOk_nil)) vc_r24_Allowed_ok
theorem ok_r24_Choose : Meets Try.prog 7 s_r24_Choose := m_r24_Choose (spOk_cons ok_r24_Sound (spOk_cons ok_r24_Initial (spOk_cons ok_r24_Next (spOk_cons ok_r24_Allowed (spOk_nil))))) vc_r24_Choose_ok
theorem ok_r24_Step : Meets Try.prog 41 s_r24_Step := m_r24_Step (spOk_cons ok_r24_Next (spOk_cons ok_r24_Allowed (spOk_nil))) vc_r24_Step_ok
theorem ok_r24_Walk : Meets Try.prog 22 s_r24_Walk := m_r24_Walk (spOk_cons ok_r24_Sound (spOk_cons ok_r24_Initial (spOk_cons ok_r24_Step (spOk_nil)))) vc_r24_Walk_ok
theorem ok_r34_Merge : Meets Try.prog 8 s_r34_Merge := m_r34_Merge (spOk_cons ok_r24_Sound (spOk_cons ok_r24_Initial (spOk_cons ok_r24_Walk (spOk_cons ok_r24_States (spOk_nil))))) vc_r34_Merge_ok
theorem ok_make_Mod : Meets Try.prog 9 s_make_Mod := m_make_Mod (spOk_nil) vc_make_Mod_ok
theorem ok_automaton_Sound : Meets Try.prog 24 s_automaton_Sound := m_automaton_Sound (spOk_nil) vc_automaton_Sound_ok
theorem ok_automaton_Caps : Meets Try.prog 42 s_automaton_Caps := m_automaton_Caps (spOk_cons ok_automaton_Sound (spOk_nil)) vc_automaton_Caps_ok
theorem ok_automaton_Initial : Meets Try.prog 25 s_automaton_Initial := m_automaton_Initial (spOk_cons ok_automaton_Sound (spOk_cons ok_automaton_Caps (spOk_nil))) vc_automaton_Initial_ok
theorem ok_automaton_away : Meets Try.prog 47 s_automaton_away := m_automaton_away (spOk_nil) vc_automaton_away_ok
theorem ok_automaton_Position : Meets Try.prog 65 s_automaton_Position := m_automaton_Position (spOk_cons ok_automaton_Sound (spOk_cons ok_automaton_Caps (spOk_nil))) vc_automaton_Position_ok
theorem ok_automaton_Next : Meets Try.prog 48 s_automaton_Next := m_automaton_Next (spOk_cons ok_automaton_Caps (spOk_cons ok_automaton_Position (spOk_nil))) vc_automaton_Next_ok
theorem ok_slices_IndexFunc_SUnitState_UnitState : Meets Try.prog 49 s_slices_IndexFunc_SUnitState_UnitState := m_slices_IndexFunc_SUnitState_UnitState (spOk_nil) vc_slices_IndexFunc_SUnitState_UnitState_ok
theorem ok_automaton_Walk_1 : Meets Try.prog 50 s_automaton_Walk_1 := m_automaton_Walk_1 (spOk_nil) vc_automaton_Walk_1_ok
theorem ok_automaton_Walk : Meets Try.prog 34 s_automaton_Walk := m_automaton_Walk (spOk_cons ok_automaton_Sound (spOk_cons ok_automaton_Initial (spOk_cons ok_automaton_away (spOk_cons ok_automaton_Next (spOk_cons ok_slices_IndexFunc_SUnitState_UnitState (spOk_cons ok_automaton_Walk_1 (spOk_nil))))))) vc_automaton_Walk_ok
theorem ok_cmp_isNaN_int : Meets Try.prog 64 s_cmp_isNaN_int := m_cmp_isNaN_int (spOk_nil) vc_cmp_isNaN_int_ok
theorem ok_cmp_Compare_int : Meets Try.prog 45 s_cmp_Compare_int := m_cmp_Compare_int (spOk_cons ok_cmp_isNaN_int (spOk_nil)) vc_cmp_Compare_int_ok
theorem ok_cmp_Or_int : Meets Try.prog 52 s_cmp_Or_int := m_cmp_Or_int (spOk_nil) vc_cmp_Or_int_ok
theorem ok_symmetry_compareStates : Meets Try.prog 53 s_symmetry_compareStates := m_symmetry_compareStates (spOk_cons ok_cmp_Compare_int (spOk_cons ok_cmp_Or_int (spOk_nil))) vc_symmetry_compareStates_ok
theorem ok_symmetry_compareArcs : Meets Try.prog 36 s_symmetry_compareArcs := m_symmetry_compareArcs (spOk_cons ok_cmp_Compare_int (spOk_cons ok_cmp_Or_int (spOk_cons ok_symmetry_compareStates (spOk_nil)))) vc_symmetry_compareArcs_ok
theorem ok_symmetry_Merge : Meets Try.prog 16 s_symmetry_Merge := m_symmetry_Merge (spOk_cons ok_automaton_Sound (spOk_cons ok_automaton_Initial (spOk_cons ok_automaton_Walk (spOk_cons ok_slices_SortFunc_SArc_Arc (spOk_cons ok_symmetry_compareArcs (spOk_nil)))))) vc_symmetry_Merge_ok
theorem ok_symmetry_move : Meets Try.prog 26 s_symmetry_move := m_symmetry_move (spOk_nil) vc_symmetry_move_ok
theorem ok_slices_Compare_Sint_int : Meets Try.prog 29 s_slices_Compare_Sint_int := m_slices_Compare_Sint_int (spOk_cons ok_cmp_Compare_int (spOk_nil)) vc_slices_Compare_Sint_int_ok
theorem ok_symmetry_Unmerge_1 : Meets Try.prog 28 s_symmetry_Unmerge_1 := m_symmetry_Unmerge_1 (spOk_cons ok_slices_Compare_Sint_int (spOk_nil)) vc_symmetry_Unmerge_1_ok
theorem ok_slices_Equal_SArc_Arc : Meets Try.prog 30 s_slices_Equal_SArc_Arc := m_slices_Equal_SArc_Arc (spOk_nil) vc_slices_Equal_SArc_Arc_ok
theorem ok_symmetry_Unmerge : Meets Try.prog 10 s_symmetry_Unmerge := m_symmetry_Unmerge (spOk_cons ok_symmetry_Merge (spOk_cons ok_automaton_Sound (spOk_cons ok_automaton_Initial (spOk_cons ok_symmetry_move (spOk_cons ok_slices_SortFunc_SSint_Sint (spOk_cons ok_symmetry_Unmerge_1 (spOk_cons ok_slices_Equal_SArc_Arc (spOk_nil)))))))) vc_symmetry_Unmerge_ok
theorem ok_law34_unit : Meets Try.prog 31 s_law34_unit := m_law34_unit (spOk_nil) vc_law34_unit_ok
theorem ok_law34_awake : Meets Try.prog 11 s_law34_awake := m_law34_awake (spOk_cons ok_symmetry_Merge (spOk_cons ok_law34_unit (spOk_nil))) vc_law34_awake_ok
theorem ok_r24_Follows : Meets Try.prog 32 s_r24_Follows := m_r24_Follows (spOk_cons ok_r24_Next (spOk_nil)) vc_r24_Follows_ok
theorem ok_r34_before : Meets Try.prog 33 s_r34_before := m_r34_before (spOk_cons ok_r24_Position (spOk_nil)) vc_r34_before_ok
theorem ok_r34_Flow : Meets Try.prog 13 s_r34_Flow := m_r34_Flow (spOk_cons ok_r24_Initial (spOk_cons ok_r24_Allowed (spOk_cons ok_r24_States (spOk_cons ok_r24_Follows (spOk_cons ok_r34_before (spOk_nil)))))) vc_r34_Flow_ok
theorem ok_r34_Compare : Meets Try.prog 14 s_r34_Compare := m_r34_Compare (spOk_nil) vc_r34_Compare_ok
theorem ok_r34_SameArcs : Meets Try.prog 15 s_r34_SameArcs := m_r34_SameArcs (spOk_nil) vc_r34_SameArcs_ok
theorem ok_r24_StartCost : Meets Try.prog 37 s_r24_StartCost := m_r24_StartCost (spOk_cons ok_r24_Follows (spOk_nil)) vc_r24_StartCost_ok
theorem ok_r25_StartCosts : Meets Try.prog 17 s_r25_StartCosts := m_r25_StartCosts (spOk_cons ok_r24_Initial (spOk_cons ok_r24_Walk (spOk_cons ok_r24_StartCost (spOk_nil)))) vc_r25_StartCosts_ok
end Go.Proofs.Ytopgdjjiilkfgaa
/- What has to be shown: gridmarketlaw34.SymmetryUnmerges, gridmarketlaw34.SymmetryCosts. -/
namespace Go.Proofs.Ytopgdjjiilkfgaa
open Go.Vc Go.Gw
def an_law34_SymmetryUnmerges : An := { join := [(9, ⟨[2, 4, 5, 6, 8, 17], [0], [(1, false, [.val (.int .i64)])], [], []⟩), (16, ⟨[8], [], [(1, false, [.val (.int .i64)]), (2, false, [.val (.int .i64)]), (3, false, [.val (.sl tA)])], [(0, 25, [.val .str, .val (.int .i64), .val (.int .i64), .val (.int .i64), .val (.sl tS), .val (.int .i64), .val (.int .i64), .val (.int .i64), .val (.int .i64), .val (.int .i64), .val (.int .i64), .val (.int .i64), .val (.int .i64), .val (.int .i64), .val (.int .i64), .val (.int .i64), .val (.int .i64), .val (.int .i64), .val (.sl (.int .i64)), .val (.int .i64), .val (.int .i64), .val (.int .i64)])], []⟩)], loop := [(10, ⟨[1, 2, 4, 5, 6, 8], [0], [(17, false, [.own (.sl (.int .i64)) 23]), (18, false, [.val (.int .i64)])], [], []⟩), (28, ⟨[1, 2, 3, 8, 19], [0], [(21, false, [.val (.int .i64)])], [], []⟩)], plan := [(12, [], [9], false, (.p 0 (.p 2 (.p 3 (.p 4 (.p 5 (.or 1 (.e 6 (.e 7 (.e 8 (.e 9 (.p 10 .done))))) (.e 6 (.e 1 (.e 7 (.e 8 (.e 9 (.p 10 .done))))))))))))), (30, [3, 15, 19], [], true, (.p 0 (.p 1 (.p 2 (.q 3 (.p 4 (.p 5 (.p 6 (.p 7 (.p 8 (.p 9 (.p 10 (.p 11 (.p 12 (.p 13 (.p 14 (.q 15 (.p 16 (.p 17 (.p 18 (.q 19 (.e 20 (.p 21 (.p 22 (.p 23 .done)))))))))))))))))))))))))] }
def sp_law34_SymmetryUnmerges : Specs := [(5, s_law34_kindred), (6, s_r24_Near), (7, s_r24_Choose), (8, s_r34_Merge), (9, s_make_Mod), (10, s_symmetry_Unmerge), (11, s_law34_awake), (12, s_r24_Sound), (13, s_r34_Flow), (14, s_r34_Compare), (15, s_r34_SameArcs)]
def an_law34_SymmetryCosts : An := { join := [(29, ⟨[2, 5, 10, 12, 14, 15], [0], [(13, false, [.val (.int .i64)])], [], []⟩), (24, ⟨[2, 5, 10, 12, 14, 15], [0], [(13, false, [.val (.int .i64)])], [], []⟩)], loop := [(7, ⟨[1, 2], [0], [(5, false, [.own (.sl (.int .i64)) 23]), (6, false, [.val (.int .i64)])], [], []⟩), (23, ⟨[2, 5, 10, 12, 14], [0], [(13, false, [.val (.int .i64)]), (15, false, [.val (.int .i64)])], [], []⟩), (19, ⟨[2, 5, 10], [0], [(12, false, [.val (.int .i64)]), (13, false, [.val (.int .i64)]), (14, false, [.val (.int .i64)])], [], []⟩)], plan := [(9, [0, 3, 8], [], true, (.q 0 (.p 1 (.p 2 (.q 3 (.p 4 (.p 5 (.p 6 (.p 7 (.q 8 (.e 9 (.p 10 .done)))))))))))), (14, [0, 3], [], true, (.q 0 (.p 1 (.p 2 (.q 3 (.p 4 (.p 5 (.p 6 (.p 7 (.e 8 (.p 9 (.p 10 (.p 11 (.p 12 (.p 13 .done))))))))))))))), (21, [1, 5, 7, 11], [], true, (.p 0 (.q 1 (.p 2 (.p 3 (.p 4 (.q 5 (.q 7 (.p 8 (.p 9 (.p 10 (.q 11 (.e 6 (.e 12 (.p 13 (.p 14 (.p 15 .done))))))))))))))))), (25, [3, 8], [], true, (.p 0 (.p 1 (.p 2 (.q 3 (.p 4 (.p 5 (.p 6 (.p 7 (.q 8 (.p 9 (.p 10 .done))))))))))))] }
def sp_law34_SymmetryCosts : Specs := [(5, s_law34_kindred), (6, s_r24_Near), (7, s_r24_Choose), (10, s_symmetry_Unmerge), (11, s_law34_awake), (16, s_symmetry_Merge), (17, s_r25_StartCosts)]
def vc_law34_SymmetryUnmerges : dens s_law34_SymmetryUnmerges.args → Prop := fun (x : (ByteArray × Int × Int × Int × List (Int × Int) × Int × Int × Int × Int × Int × Int × Int × Int × Int × Int × Int × Int × Int × List Int × Int × Int × Int) × Int × Int × List (Int × (Int × Int) × (Int × Int) × Int) × List (List Int) × Int × Int × Bool × Unit) => (Go.Vc.sel (Decidable.decide ((20 : Int) < (↑(List.length x.fst.snd.snd.snd.snd.snd.snd.snd.snd.snd.snd.snd.snd.snd.snd.snd.snd.snd.snd.fst) : Int))) Bool.true (Decidable.decide ((20 : Int) < (↑(List.length x.snd.snd.snd.fst) : Int))) = Bool.false → True) ∧ ∀ (r : Bool × Unit), (Go.Vc.sel (Decidable.decide ((20 : Int) < (↑(List.length x.fst.snd.snd.snd.snd.snd.snd.snd.snd.snd.snd.snd.snd.snd.snd.snd.snd.snd.snd.fst) : Int))) Bool.true (Decidable.decide ((20 : Int) < (↑(List.length x.snd.snd.snd.fst) : Int))) = Bool.false → (True ∧ True) ∧ r.fst = Decidable.decide (List.length x.snd.snd.snd.snd.fst ≤ (8 : Nat) ∧ ∀ (l : List Int), l ∈ x.snd.snd.snd.snd.fst → l.length ≤ (26 : Nat))) → ((Go.Vc.sel (Go.Vc.sel (Decidable.decide ((20 : Int) < (↑(List.length x.fst.snd.snd.snd.snd.snd.snd.snd.snd.snd.snd.snd.snd.snd.snd.snd.snd.snd.snd.fst) : Int))) Bool.true (Decidable.decide ((20 : Int) < (↑(List.length x.snd.snd.snd.fst) : Int)))) Bool.true !r.fst) = Bool.true → Bool.true = Bool.true) ∧ ((Go.Vc.sel (Go.Vc.sel (Decidable.decide ((20 : Int) < (↑(List.length x.fst.snd.snd.snd.snd.snd.snd.snd.snd.snd.snd.snd.snd.snd.snd.snd.snd.snd.snd.fst) : Int))) Bool.true (Decidable.decide ((20 : Int) < (↑(List.length x.snd.snd.snd.fst) : Int)))) Bool.true !r.fst) = Bool.false → ∃ (J : Int × Int × List (Int × (Int × Int) × (Int × Int) × Int) × ByteArray × Int × Int × Int × List (Int × Int) × Int × Int × Int × Int × Int × Int × Int × Int × Int × Int × Int × Int × Int × List Int × Int × Int × Int × Unit → Prop), ((x.snd.snd.snd.snd.snd.snd.snd.fst = Bool.true → True ∧ ∀ (r : (ByteArray × Int × Int × Int × List (Int × Int) × Int × Int × Int × Int × Int × Int × Int × Int × Int × Int × Int × Int × Int × List Int × Int × Int × Int) × Unit), (True ∧ (Go.IntKind.i64.min ≤ r.fst.snd.fst ∧ r.fst.snd.fst ≤ Go.IntKind.i64.max) ∧ (Go.IntKind.i64.min ≤ r.fst.snd.snd.fst ∧ r.fst.snd.snd.fst ≤ Go.IntKind.i64.max) ∧ (Go.IntKind.i64.min ≤ r.fst.snd.snd.snd.fst ∧ r.fst.snd.snd.snd.fst ≤ Go.IntKind.i64.max) ∧ (List.length r.fst.snd.snd.snd.snd.fst ≤ (9223372036854775807 : Nat) ∧ ∀ (x : Int × Int), x ∈ r.fst.snd.snd.snd.snd.fst → (Go.IntKind.i64.min ≤ x.fst ∧ x.fst ≤ Go.IntKind.i64.max) ∧ Go.IntKind.i64.min ≤ x.snd ∧ x.snd ≤ Go.IntKind.i64.max) ∧ (Go.IntKind.i64.min ≤ r.fst.snd.snd.snd.snd.snd.fst ∧ r.fst.snd.snd.snd.snd.snd.fst ≤ Go.IntKind.i64.max) ∧ (Go.IntKind.i64.min ≤ r.fst.snd.snd.snd.snd.snd.snd.fst ∧ r.fst.snd.snd.snd.snd.snd.snd.fst ≤ Go.IntKind.i64.max) ∧ (Go.IntKind.i64.min ≤ r.fst.snd.snd.snd.snd.snd.snd.snd.fst ∧ r.fst.snd.snd.snd.snd.snd.snd.snd.fst ≤ Go.IntKind.i64.max) ∧ (Go.IntKind.i64.min ≤ r.fst.snd.snd.snd.snd.snd.snd.snd.snd.fst ∧ r.fst.snd.snd.snd.snd.snd.snd.snd.snd.fst ≤ Go.IntKind.i64.max) ∧ (Go.IntKind.i64.min ≤ r.fst.snd.snd.snd.snd.snd.snd.snd.snd.snd.fst ∧ r.fst.snd.snd.snd.snd.snd.snd.snd.snd.snd.fst ≤ Go.IntKind.i64.max) ∧ (Go.IntKind.i64.min ≤ r.fst.snd.snd.snd.snd.snd.snd.snd.snd.snd.snd.fst ∧ r.fst.snd.snd.snd.snd.snd.snd.snd.snd.snd.snd.fst ≤ Go.IntKind.i64.max) ∧ (Go.IntKind.i64.min ≤ r.fst.snd.snd.snd.snd.snd.snd.snd.snd.snd.snd.snd.fst ∧ r.fst.snd.snd.snd.snd.snd.snd.snd.snd.snd.snd.snd.fst ≤ Go.IntKind.i64.max) ∧ (Go.IntKind.i64.min ≤ r.fst.snd.snd.snd.snd.snd.snd.snd.snd.snd.snd.snd.snd.fst ∧ r.fst.snd.snd.snd.snd.snd.snd.snd.snd.snd.snd.snd.snd.fst ≤ Go.IntKind.i64.max) ∧ (Go.IntKind.i64.min ≤ r.fst.snd.snd.snd.snd.snd.snd.snd.snd.snd.snd.snd.snd.snd.fst ∧ r.fst.snd.snd.snd.snd.snd.snd.snd.snd.snd.snd.snd.snd.snd.fst ≤ Go.IntKind.i64.max) ∧ (Go.IntKind.i64.min ≤ r.fst.snd.snd.snd.snd.snd.snd.snd.snd.snd.snd.snd.snd.snd.snd.fst ∧ r.fst.snd.snd.snd.snd.snd.snd.snd.snd.snd.snd.snd.snd.snd.snd.fst ≤ Go.IntKind.i64.max) ∧ (Go.IntKind.i64.min ≤ r.fst.snd.snd.snd.snd.snd.snd.snd.snd.snd.snd.snd.snd.snd.snd.snd.fst ∧ r.fst.snd.snd.snd.snd.snd.snd.snd.snd.snd.snd.snd.snd.snd.snd.snd.fst ≤ Go.IntKind.i64.max) ∧ (Go.IntKind.i64.min ≤ r.fst.snd.snd.snd.snd.snd.snd.snd.snd.snd.snd.snd.snd.snd.snd.snd.snd.fst ∧ r.fst.snd.snd.snd.snd.snd.snd.snd.snd.snd.snd.snd.snd.snd.snd.snd.snd.fst ≤ Go.IntKind.i64.max) ∧ (Go.IntKind.i64.min ≤ r.fst.snd.snd.snd.snd.snd.snd.snd.snd.snd.snd.snd.snd.snd.snd.snd.snd.snd.fst ∧ r.fst.snd.snd.snd.snd.snd.snd.snd.snd.snd.snd.snd.snd.snd.snd.snd.snd.snd.fst ≤ Go.IntKind.i64.max) ∧ (List.length r.fst.snd.snd.snd.snd.snd.snd.snd.snd.snd.snd.snd.snd.snd.snd.snd.snd.snd.snd.fst ≤ (9223372036854775807 : Nat) ∧ ∀ (x : Int), x ∈ r.fst.snd.snd.snd.snd.snd.snd.snd.snd.snd.snd.snd.snd.snd.snd.snd.snd.snd.snd.fst → Go.IntKind.i64.min ≤ x ∧ x ≤ Go.IntKind.i64.max) ∧ (Go.IntKind.i64.min ≤ r.fst.snd.snd.snd.snd.snd.snd.snd.snd.snd.snd.snd.snd.snd.snd.snd.snd.snd.snd.snd.fst ∧ r.fst.snd.snd.snd.snd.snd.snd.snd.snd.snd.snd.snd.snd.snd.snd.snd.snd.snd.snd.snd.fst ≤ Go.IntKind.i64.max) ∧ (Go.IntKind.i64.min ≤ r.fst.snd.snd.snd.snd.snd.snd.snd.snd.snd.snd.snd.snd.snd.snd.snd.snd.snd.snd.snd.snd.fst ∧ r.fst.snd.snd.snd.snd.snd.snd.snd.snd.snd.snd.snd.snd.snd.snd.snd.snd.snd.snd.snd.snd.fst ≤ Go.IntKind.i64.max) ∧ Go.IntKind.i64.min ≤ r.fst.snd.snd.snd.snd.snd.snd.snd.snd.snd.snd.snd.snd.snd.snd.snd.snd.snd.snd.snd.snd.snd ∧ r.fst.snd.snd.snd.snd.snd.snd.snd.snd.snd.snd.snd.snd.snd.snd.snd.snd.snd.snd.snd.snd.snd ≤ Go.IntKind.i64.max) ∧ True → Go.Proofs.Ytopgdjjiilkfgaa.soundB (Go.Proofs.Ytopgdjjiilkfgaa.toU r.fst) = Bool.true ∧ (Go.Proofs.Ytopgdjjiilkfgaa.awOf r.fst).length ≤ (4 : Nat) → ∃ (J_1 : Int × Unit → Prop), ((Decidable.decide ((0 : Int) < (↑(List.length x.snd.snd.snd.snd.fst) : Int)) = Bool.true → ((0 : Int) ≤ (0 : Int) ∧ (0 : Int) < (↑(List.length x.snd.snd.snd.snd.fst) : Int)) ∧ J_1 ((↑(Go.Vc.gx [] x.snd.snd.snd.snd.fst (0 : Int)).length : Int), ())) ∧ (Decidable.decide ((0 : Int) < (↑(List.length x.snd.snd.snd.snd.fst) : Int)) = Bool.false → J_1 ((0 : Int), ()))) ∧ ∀ (p : Int × Unit), (Go.IntKind.i64.min ≤ p.fst ∧ p.fst ≤ Go.IntKind.i64.max) ∧ True → J_1 p → ∃ (I : List (List Int) × Int × Unit → Prop), ∃ (μ : List (List Int) × Int × Unit → Nat), I ([], (0 : Int), ()) ∧ ∀ (p_1 : List (List Int) × Int × Unit), (List.length p_1.fst ≤ (9223372036854775807 : Nat) ∧ ∀ (x : List Int), x ∈ p_1.fst → x.length ≤ (9223372036854775807 : Nat) ∧ ∀ (x_1 : Int), x_1 ∈ x → Go.IntKind.i64.min ≤ x_1 ∧ x_1 ≤ Go.IntKind.i64.max) ∧ (Go.IntKind.i64.min ≤ p_1.snd.fst ∧ p_1.snd.fst ≤ Go.IntKind.i64.max) ∧ True → I p_1 → (Decidable.decide (p_1.snd.fst < (↑(List.length x.snd.snd.snd.snd.fst) : Int)) = Bool.true → ((0 : Int) ≤ p_1.snd.fst ∧ p_1.snd.fst < (↑(List.length x.snd.snd.snd.snd.fst) : Int)) ∧ ((Go.Proofs.Ytopgdjjiilkfgaa.soundB (Go.Proofs.Ytopgdjjiilkfgaa.toU r.fst) = Bool.true ∧ (0 : Int) ≤ p.fst ∧ p.fst ≤ (1000 : Int)) ∧ ∀ (r_1 : List Int × Unit), (List.length r_1.fst ≤ (9223372036854775807 : Nat) ∧ ∀ (x : Int), x ∈ r_1.fst → Go.IntKind.i64.min ≤ x ∧ x ≤ Go.IntKind.i64.max) ∧ True → (↑r_1.fst.length : Int) ≤ p.fst ∧ (Go.Proofs.Ytopgdjjiilkfgaa.runTo (Go.Proofs.Ytopgdjjiilkfgaa.toU r.fst) (Go.Proofs.Ytopgdjjiilkfgaa.awOf r.fst) r_1.fst r_1.fst.length).isSome = Bool.true → ((List.length p_1.fst + [r_1.fst].length) * (24 : Nat) ≤ (140737488355328 : Nat) ∧ List.length p_1.fst + [r_1.fst].length ≤ (9223372036854775807 : Nat)) ∧ I (p_1.fst ++ [r_1.fst], Go.IntKind.i64.wrap (p_1.snd.fst + (1 : Int)), ()) ∧ μ (p_1.fst ++ [r_1.fst], Go.IntKind.i64.wrap (p_1.snd.fst + (1 : Int)), ()) < μ p_1) ∧ (Go.Proofs.Ytopgdjjiilkfgaa.soundB (Go.Proofs.Ytopgdjjiilkfgaa.toU r.fst) = Bool.true ∧ (0 : Int) ≤ p.fst ∧ p.fst ≤ (1000 : Int)) ∧ ∀ (r_1 : List Int × Unit), (List.length r_1.fst ≤ (9223372036854775807 : Nat) ∧ ∀ (x : Int), x ∈ r_1.fst → Go.IntKind.i64.min ≤ x ∧ x ≤ Go.IntKind.i64.max) ∧ True → (↑r_1.fst.length : Int) ≤ p.fst ∧ (Go.Proofs.Ytopgdjjiilkfgaa.runTo (Go.Proofs.Ytopgdjjiilkfgaa.toU r.fst) (Go.Proofs.Ytopgdjjiilkfgaa.awOf r.fst) r_1.fst r_1.fst.length).isSome = Bool.true → ((List.length p_1.fst + [r_1.fst].length) * (24 : Nat) ≤ (140737488355328 : Nat) ∧ List.length p_1.fst + [r_1.fst].length ≤ (9223372036854775807 : Nat)) ∧ I (p_1.fst ++ [r_1.fst], Go.IntKind.i64.wrap (p_1.snd.fst + (1 : Int)), ()) ∧ μ (p_1.fst ++ [r_1.fst], Go.IntKind.i64.wrap (p_1.snd.fst + (1 : Int)), ()) < μ p_1) ∧ (Decidable.decide (p_1.snd.fst < (↑(List.length x.snd.snd.snd.snd.fst) : Int)) = Bool.false → List.length p_1.fst ≤ (100 : Nat) ∧ ∀ (r_1 : List (Int × (Int × Int) × (Int × Int) × Int) × Int × Unit), (List.length r_1.fst ≤ (9223372036854775807 : Nat) ∧ ∀ (x : Int × (Int × Int) × (Int × Int) × Int), x ∈ r_1.fst → (Go.IntKind.i64.min ≤ x.fst ∧ x.fst ≤ Go.IntKind.i64.max) ∧ ((Go.IntKind.i64.min ≤ x.snd.fst.fst ∧ x.snd.fst.fst ≤ Go.IntKind.i64.max) ∧ Go.IntKind.i64.min ≤ x.snd.fst.snd ∧ x.snd.fst.snd ≤ Go.IntKind.i64.max) ∧ ((Go.IntKind.i64.min ≤ x.snd.snd.fst.fst ∧ x.snd.snd.fst.fst ≤ Go.IntKind.i64.max) ∧ Go.IntKind.i64.min ≤ x.snd.snd.fst.snd ∧ x.snd.snd.fst.snd ≤ Go.IntKind.i64.max) ∧ Go.IntKind.i64.min ≤ x.snd.snd.snd ∧ x.snd.snd.snd ≤ Go.IntKind.i64.max) ∧ (Go.IntKind.i64.min ≤ r_1.snd.fst ∧ r_1.snd.fst ≤ Go.IntKind.i64.max) ∧ True → Go.Proofs.Ytopgdjjiilkfgaa.mergeP (Go.Proofs.Ytopgdjjiilkfgaa.toU r.fst) (Go.Proofs.Ytopgdjjiilkfgaa.awOf r.fst) p_1.fst r_1.fst r_1.snd.fst → (Decidable.decide ((0 : Int) < (↑(List.length r_1.fst) : Int)) = Bool.true → (3 : Int) ≠ (0 : Int)) ∧ (Go.Vc.sel (Decidable.decide ((0 : Int) < (↑(List.length r_1.fst) : Int))) (Decidable.decide (Int.tmod x.snd.snd.snd.snd.snd.snd.fst (3 : Int) ≠ (0 : Int))) Bool.false = Bool.true → (0 : Int) < (↑(List.length r_1.fst) : Int) ∧ ∀ (r_2 : Int × Unit), (Go.IntKind.i64.min ≤ r_2.fst ∧ r_2.fst ≤ Go.IntKind.i64.max) ∧ True → (0 : Int) ≤ r_2.fst ∧ r_2.fst < (↑(List.length r_1.fst) : Int) → ((0 : Int) ≤ r_2.fst ∧ r_2.fst < (↑(List.length r_1.fst) : Int)) ∧ (2 : Int) ≠ (0 : Int) ∧ ((0 : Int) ≤ r_2.fst ∧ r_2.fst < (↑(List.length r_1.fst) : Int)) ∧ J (p.fst, (↑(List.length x.snd.snd.snd.snd.fst) : Int), List.set r_1.fst (Int.toNat r_2.fst) ((List.getD r_1.fst (Int.toNat r_2.fst) ((0 : Int), ((0 : Int), (0 : Int)), ((0 : Int), (0 : Int)), (0 : Int))).fst, (List.getD r_1.fst (Int.toNat r_2.fst) ((0 : Int), ((0 : Int), (0 : Int)), ((0 : Int), (0 : Int)), (0 : Int))).snd.fst, (List.getD r_1.fst (Int.toNat r_2.fst) ((0 : Int), ((0 : Int), (0 : Int)), ((0 : Int), (0 : Int)), (0 : Int))).snd.snd.fst, Go.IntKind.i64.wrap ((List.getD r_1.fst (Int.toNat r_2.fst) ((0 : Int), ((0 : Int), (0 : Int)), ((0 : Int), (0 : Int)), (0 : Int))).snd.snd.snd + Int.tmod x.snd.snd.snd.snd.snd.snd.fst (2 : Int))), r.fst.fst, r.fst.snd.fst, r.fst.snd.snd.fst, r.fst.snd.snd.snd.fst, r.fst.snd.snd.snd.snd.fst, r.fst.snd.snd.snd.snd.snd.fst, r.fst.snd.snd.snd.snd.snd.snd.fst, r.fst.snd.snd.snd.snd.snd.snd.snd.fst, r.fst.snd.snd.snd.snd.snd.snd.snd.snd.fst, r.fst.snd.snd.snd.snd.snd.snd.snd.snd.snd.fst, r.fst.snd.snd.snd.snd.snd.snd.snd.snd.snd.snd.fst, r.fst.snd.snd.snd.snd.snd.snd.snd.snd.snd.snd.snd.fst, r.fst.snd.snd.snd.snd.snd.snd.snd.snd.snd.snd.snd.snd.fst, r.fst.snd.snd.snd.snd.snd.snd.snd.snd.snd.snd.snd.snd.snd.fst, r.fst.snd.snd.snd.snd.snd.snd.snd.snd.snd.snd.snd.snd.snd.snd.fst, r.fst.snd.snd.snd.snd.snd.snd.snd.snd.snd.snd.snd.snd.snd.snd.snd.fst, r.fst.snd.snd.snd.snd.snd.snd.snd.snd.snd.snd.snd.snd.snd.snd.snd.snd.fst, r.fst.snd.snd.snd.snd.snd.snd.snd.snd.snd.snd.snd.snd.snd.snd.snd.snd.snd.fst, r.fst.snd.snd.snd.snd.snd.snd.snd.snd.snd.snd.snd.snd.snd.snd.snd.snd.snd.snd.fst, r.fst.snd.snd.snd.snd.snd.snd.snd.snd.snd.snd.snd.snd.snd.snd.snd.snd.snd.snd.snd.fst, r.fst.snd.snd.snd.snd.snd.snd.snd.snd.snd.snd.snd.snd.snd.snd.snd.snd.snd.snd.snd.snd.fst, r.fst.snd.snd.snd.snd.snd.snd.snd.snd.snd.snd.snd.snd.snd.snd.snd.snd.snd.snd.snd.snd.snd, ())) ∧ (Go.Vc.sel (Decidable.decide ((0 : Int) < (↑(List.length r_1.fst) : Int))) (Decidable.decide (Int.tmod x.snd.snd.snd.snd.snd.snd.fst (3 : Int) ≠ (0 : Int))) Bool.false = Bool.false → J (p.fst, (↑(List.length x.snd.snd.snd.snd.fst) : Int), r_1.fst, r.fst.fst, r.fst.snd.fst, r.fst.snd.snd.fst, r.fst.snd.snd.snd.fst, r.fst.snd.snd.snd.snd.fst, r.fst.snd.snd.snd.snd.snd.fst, r.fst.snd.snd.snd.snd.snd.snd.fst, r.fst.snd.snd.snd.snd.snd.snd.snd.fst, r.fst.snd.snd.snd.snd.snd.snd.snd.snd.fst, r.fst.snd.snd.snd.snd.snd.snd.snd.snd.snd.fst, r.fst.snd.snd.snd.snd.snd.snd.snd.snd.snd.snd.fst, r.fst.snd.snd.snd.snd.snd.snd.snd.snd.snd.snd.snd.fst, r.fst.snd.snd.snd.snd.snd.snd.snd.snd.snd.snd.snd.snd.fst, r.fst.snd.snd.snd.snd.snd.snd.snd.snd.snd.snd.snd.snd.snd.fst, r.fst.snd.snd.snd.snd.snd.snd.snd.snd.snd.snd.snd.snd.snd.snd.fst, r.fst.snd.snd.snd.snd.snd.snd.snd.snd.snd.snd.snd.snd.snd.snd.snd.fst, r.fst.snd.snd.snd.snd.snd.snd.snd.snd.snd.snd.snd.snd.snd.snd.snd.snd.fst, r.fst.snd.snd.snd.snd.snd.snd.snd.snd.snd.snd.snd.snd.snd.snd.snd.snd.snd.fst, r.fst.snd.snd.snd.snd.snd.snd.snd.snd.snd.snd.snd.snd.snd.snd.snd.snd.snd.snd.fst, r.fst.snd.snd.snd.snd.snd.snd.snd.snd.snd.snd.snd.snd.snd.snd.snd.snd.snd.snd.snd.fst, r.fst.snd.snd.snd.snd.snd.snd.snd.snd.snd.snd.snd.snd.snd.snd.snd.snd.snd.snd.snd.snd.fst, r.fst.snd.snd.snd.snd.snd.snd.snd.snd.snd.snd.snd.snd.snd.snd.snd.snd.snd.snd.snd.snd.snd, ())))) ∧ (x.snd.snd.snd.snd.snd.snd.snd.fst = Bool.false → J (x.snd.fst, x.snd.snd.fst, x.snd.snd.snd.fst, x.fst.fst, x.fst.snd.fst, x.fst.snd.snd.fst, x.fst.snd.snd.snd.fst, x.fst.snd.snd.snd.snd.fst, x.fst.snd.snd.snd.snd.snd.fst, x.fst.snd.snd.snd.snd.snd.snd.fst, x.fst.snd.snd.snd.snd.snd.snd.snd.fst, x.fst.snd.snd.snd.snd.snd.snd.snd.snd.fst, x.fst.snd.snd.snd.snd.snd.snd.snd.snd.snd.fst, x.fst.snd.snd.snd.snd.snd.snd.snd.snd.snd.snd.fst, x.fst.snd.snd.snd.snd.snd.snd.snd.snd.snd.snd.snd.fst, x.fst.snd.snd.snd.snd.snd.snd.snd.snd.snd.snd.snd.snd.fst, x.fst.snd.snd.snd.snd.snd.snd.snd.snd.snd.snd.snd.snd.snd.fst, x.fst.snd.snd.snd.snd.snd.snd.snd.snd.snd.snd.snd.snd.snd.snd.fst, x.fst.snd.snd.snd.snd.snd.snd.snd.snd.snd.snd.snd.snd.snd.snd.snd.fst, x.fst.snd.snd.snd.snd.snd.snd.snd.snd.snd.snd.snd.snd.snd.snd.snd.snd.fst, x.fst.snd.snd.snd.snd.snd.snd.snd.snd.snd.snd.snd.snd.snd.snd.snd.snd.snd.fst, x.fst.snd.snd.snd.snd.snd.snd.snd.snd.snd.snd.snd.snd.snd.snd.snd.snd.snd.snd.fst, x.fst.snd.snd.snd.snd.snd.snd.snd.snd.snd.snd.snd.snd.snd.snd.snd.snd.snd.snd.snd.fst, x.fst.snd.snd.snd.snd.snd.snd.snd.snd.snd.snd.snd.snd.snd.snd.snd.snd.snd.snd.snd.snd.fst, x.fst.snd.snd.snd.snd.snd.snd.snd.snd.snd.snd.snd.snd.snd.snd.snd.snd.snd.snd.snd.snd.snd, ()))) ∧ ∀ (p : Int × Int × List (Int × (Int × Int) × (Int × Int) × Int) × ByteArray × Int × Int × Int × List (Int × Int) × Int × Int × Int × Int × Int × Int × Int × Int × Int × Int × Int × Int × Int × List Int × Int × Int × Int × Unit), (Go.IntKind.i64.min ≤ p.fst ∧ p.fst ≤ Go.IntKind.i64.max) ∧ (Go.IntKind.i64.min ≤ p.snd.fst ∧ p.snd.fst ≤ Go.IntKind.i64.max) ∧ (List.length p.snd.snd.fst ≤ (9223372036854775807 : Nat) ∧ ∀ (x : Int × (Int × Int) × (Int × Int) × Int), x ∈ p.snd.snd.fst → (Go.IntKind.i64.min ≤ x.fst ∧ x.fst ≤ Go.IntKind.i64.max) ∧ ((Go.IntKind.i64.min ≤ x.snd.fst.fst ∧ x.snd.fst.fst ≤ Go.IntKind.i64.max) ∧ Go.IntKind.i64.min ≤ x.snd.fst.snd ∧ x.snd.fst.snd ≤ Go.IntKind.i64.max) ∧ ((Go.IntKind.i64.min ≤ x.snd.snd.fst.fst ∧ x.snd.snd.fst.fst ≤ Go.IntKind.i64.max) ∧ Go.IntKind.i64.min ≤ x.snd.snd.fst.snd ∧ x.snd.snd.fst.snd ≤ Go.IntKind.i64.max) ∧ Go.IntKind.i64.min ≤ x.snd.snd.snd ∧ x.snd.snd.snd ≤ Go.IntKind.i64.max) ∧ True ∧ (Go.IntKind.i64.min ≤ p.snd.snd.snd.snd.fst ∧ p.snd.snd.snd.snd.fst ≤ Go.IntKind.i64.max) ∧ (Go.IntKind.i64.min ≤ p.snd.snd.snd.snd.snd.fst ∧ p.snd.snd.snd.snd.snd.fst ≤ Go.IntKind.i64.max) ∧ (Go.IntKind.i64.min ≤ p.snd.snd.snd.snd.snd.snd.fst ∧ p.snd.snd.snd.snd.snd.snd.fst ≤ Go.IntKind.i64.max) ∧ (List.length p.snd.snd.snd.snd.snd.snd.snd.fst ≤ (9223372036854775807 : Nat) ∧ ∀ (x : Int × Int), x ∈ p.snd.snd.snd.snd.snd.snd.snd.fst → (Go.IntKind.i64.min ≤ x.fst ∧ x.fst ≤ Go.IntKind.i64.max) ∧ Go.IntKind.i64.min ≤ x.snd ∧ x.snd ≤ Go.IntKind.i64.max) ∧ (Go.IntKind.i64.min ≤ p.snd.snd.snd.snd.snd.snd.snd.snd.fst ∧ p.snd.snd.snd.snd.snd.snd.snd.snd.fst ≤ Go.IntKind.i64.max) ∧ (Go.IntKind.i64.min ≤ p.snd.snd.snd.snd.snd.snd.snd.snd.snd.fst ∧ p.snd.snd.snd.snd.snd.snd.snd.snd.snd.fst ≤ Go.IntKind.i64.max) ∧ (Go.IntKind.i64.min ≤ p.snd.snd.snd.snd.snd.snd.snd.snd.snd.snd.fst ∧ p.snd.snd.snd.snd.snd.snd.snd.snd.snd.snd.fst ≤ Go.IntKind.i64.max) ∧ (Go.IntKind.i64.min ≤ p.snd.snd.snd.snd.snd.snd.snd.snd.snd.snd.snd.fst ∧ p.snd.snd.snd.snd.snd.snd.snd.snd.snd.snd.snd.fst ≤ Go.IntKind.i64.max) ∧ (Go.IntKind.i64.min ≤ p.snd.snd.snd.snd.snd.snd.snd.snd.snd.snd.snd.snd.fst ∧ p.snd.snd.snd.snd.snd.snd.snd.snd.snd.snd.snd.snd.fst ≤ Go.IntKind.i64.max) ∧ (Go.IntKind.i64.min ≤ p.snd.snd.snd.snd.snd.snd.snd.snd.snd.snd.snd.snd.snd.fst ∧ p.snd.snd.snd.snd.snd.snd.snd.snd.snd.snd.snd.snd.snd.fst ≤ Go.IntKind.i64.max) ∧ (Go.IntKind.i64.min ≤ p.snd.snd.snd.snd.snd.snd.snd.snd.snd.snd.snd.snd.snd.snd.fst ∧ p.snd.snd.snd.snd.snd.snd.snd.snd.snd.snd.snd.snd.snd.snd.fst ≤ Go.IntKind.i64.max) ∧ (Go.IntKind.i64.min ≤ p.snd.snd.snd.snd.snd.snd.snd.snd.snd.snd.snd.snd.snd.snd.snd.fst ∧ p.snd.snd.snd.snd.snd.snd.snd.snd.snd.snd.snd.snd.snd.snd.snd.fst ≤ Go.IntKind.i64.max) ∧ (Go.IntKind.i64.min ≤ p.snd.snd.snd.snd.snd.snd.snd.snd.snd.snd.snd.snd.snd.snd.snd.snd.fst ∧ p.snd.snd.snd.snd.snd.snd.snd.snd.snd.snd.snd.snd.snd.snd.snd.snd.fst ≤ Go.IntKind.i64.max) ∧ (Go.IntKind.i64.min ≤ p.snd.snd.snd.snd.snd.snd.snd.snd.snd.snd.snd.snd.snd.snd.snd.snd.snd.fst ∧ p.snd.snd.snd.snd.snd.snd.snd.snd.snd.snd.snd.snd.snd.snd.snd.snd.snd.fst ≤ Go.IntKind.i64.max) ∧ (Go.IntKind.i64.min ≤ p.snd.snd.snd.snd.snd.snd.snd.snd.snd.snd.snd.snd.snd.snd.snd.snd.snd.snd.fst ∧ p.snd.snd.snd.snd.snd.snd.snd.snd.snd.snd.snd.snd.snd.snd.snd.snd.snd.snd.fst ≤ Go.IntKind.i64.max) ∧ (Go.IntKind.i64.min ≤ p.snd.snd.snd.snd.snd.snd.snd.snd.snd.snd.snd.snd.snd.snd.snd.snd.snd.snd.snd.fst ∧ p.snd.snd.snd.snd.snd.snd.snd.snd.snd.snd.snd.snd.snd.snd.snd.snd.snd.snd.snd.fst ≤ Go.IntKind.i64.max) ∧ (Go.IntKind.i64.min ≤ p.snd.snd.snd.snd.snd.snd.snd.snd.snd.snd.snd.snd.snd.snd.snd.snd.snd.snd.snd.snd.fst ∧ p.snd.snd.snd.snd.snd.snd.snd.snd.snd.snd.snd.snd.snd.snd.snd.snd.snd.snd.snd.snd.fst ≤ Go.IntKind.i64.max) ∧ (List.length p.snd.snd.snd.snd.snd.snd.snd.snd.snd.snd.snd.snd.snd.snd.snd.snd.snd.snd.snd.snd.snd.fst ≤ (9223372036854775807 : Nat) ∧ ∀ (x : Int), x ∈ p.snd.snd.snd.snd.snd.snd.snd.snd.snd.snd.snd.snd.snd.snd.snd.snd.snd.snd.snd.snd.snd.fst → Go.IntKind.i64.min ≤ x ∧ x ≤ Go.IntKind.i64.max) ∧ (Go.IntKind.i64.min ≤ p.snd.snd.snd.snd.snd.snd.snd.snd.snd.snd.snd.snd.snd.snd.snd.snd.snd.snd.snd.snd.snd.snd.fst ∧ p.snd.snd.snd.snd.snd.snd.snd.snd.snd.snd.snd.snd.snd.snd.snd.snd.snd.snd.snd.snd.snd.snd.fst ≤ Go.IntKind.i64.max) ∧ (Go.IntKind.i64.min ≤ p.snd.snd.snd.snd.snd.snd.snd.snd.snd.snd.snd.snd.snd.snd.snd.snd.snd.snd.snd.snd.snd.snd.snd.fst ∧ p.snd.snd.snd.snd.snd.snd.snd.snd.snd.snd.snd.snd.snd.snd.snd.snd.snd.snd.snd.snd.snd.snd.snd.fst ≤ Go.IntKind.i64.max) ∧ (Go.IntKind.i64.min ≤ p.snd.snd.snd.snd.snd.snd.snd.snd.snd.snd.snd.snd.snd.snd.snd.snd.snd.snd.snd.snd.snd.snd.snd.snd.fst ∧ p.snd.snd.snd.snd.snd.snd.snd.snd.snd.snd.snd.snd.snd.snd.snd.snd.snd.snd.snd.snd.snd.snd.snd.snd.fst ≤ Go.IntKind.i64.max) ∧ True → J p → True ∧ ∀ (r : List (List Int) × Int × Unit), (List.length r.fst ≤ (9223372036854775807 : Nat) ∧ ∀ (x : List Int), x ∈ r.fst → x.length ≤ (9223372036854775807 : Nat) ∧ ∀ (x_1 : Int), x_1 ∈ x → Go.IntKind.i64.min ≤ x_1 ∧ x_1 ≤ Go.IntKind.i64.max) ∧ (Go.IntKind.i64.min ≤ r.snd.fst ∧ r.snd.fst ≤ Go.IntKind.i64.max) ∧ True → Go.Proofs.Ytopgdjjiilkfgaa.unmergeP (Go.Proofs.Ytopgdjjiilkfgaa.toU (p.snd.snd.snd.fst, p.snd.snd.snd.snd.fst, p.snd.snd.snd.snd.snd.fst, p.snd.snd.snd.snd.snd.snd.fst, p.snd.snd.snd.snd.snd.snd.snd.fst, p.snd.snd.snd.snd.snd.snd.snd.snd.fst, p.snd.snd.snd.snd.snd.snd.snd.snd.snd.fst, p.snd.snd.snd.snd.snd.snd.snd.snd.snd.snd.fst, p.snd.snd.snd.snd.snd.snd.snd.snd.snd.snd.snd.fst, p.snd.snd.snd.snd.snd.snd.snd.snd.snd.snd.snd.snd.fst, p.snd.snd.snd.snd.snd.snd.snd.snd.snd.snd.snd.snd.snd.fst, p.snd.snd.snd.snd.snd.snd.snd.snd.snd.snd.snd.snd.snd.snd.fst, p.snd.snd.snd.snd.snd.snd.snd.snd.snd.snd.snd.snd.snd.snd.snd.fst, p.snd.snd.snd.snd.snd.snd.snd.snd.snd.snd.snd.snd.snd.snd.snd.snd.fst, p.snd.snd.snd.snd.snd.snd.snd.snd.snd.snd.snd.snd.snd.snd.snd.snd.snd.fst, p.snd.snd.snd.snd.snd.snd.snd.snd.snd.snd.snd.snd.snd.snd.snd.snd.snd.snd.fst, p.snd.snd.snd.snd.snd.snd.snd.snd.snd.snd.snd.snd.snd.snd.snd.snd.snd.snd.snd.fst, p.snd.snd.snd.snd.snd.snd.snd.snd.snd.snd.snd.snd.snd.snd.snd.snd.snd.snd.snd.snd.fst, p.snd.snd.snd.snd.snd.snd.snd.snd.snd.snd.snd.snd.snd.snd.snd.snd.snd.snd.snd.snd.snd.fst, p.snd.snd.snd.snd.snd.snd.snd.snd.snd.snd.snd.snd.snd.snd.snd.snd.snd.snd.snd.snd.snd.snd.fst, p.snd.snd.snd.snd.snd.snd.snd.snd.snd.snd.snd.snd.snd.snd.snd.snd.snd.snd.snd.snd.snd.snd.snd.fst, p.snd.snd.snd.snd.snd.snd.snd.snd.snd.snd.snd.snd.snd.snd.snd.snd.snd.snd.snd.snd.snd.snd.snd.snd.fst)) (Go.Proofs.Ytopgdjjiilkfgaa.awOf (p.snd.snd.snd.fst, p.snd.snd.snd.snd.fst, p.snd.snd.snd.snd.snd.fst, p.snd.snd.snd.snd.snd.snd.fst, p.snd.snd.snd.snd.snd.snd.snd.fst, p.snd.snd.snd.snd.snd.snd.snd.snd.fst, p.snd.snd.snd.snd.snd.snd.snd.snd.snd.fst, p.snd.snd.snd.snd.snd.snd.snd.snd.snd.snd.fst, p.snd.snd.snd.snd.snd.snd.snd.snd.snd.snd.snd.fst, p.snd.snd.snd.snd.snd.snd.snd.snd.snd.snd.snd.snd.fst, p.snd.snd.snd.snd.snd.snd.snd.snd.snd.snd.snd.snd.snd.fst, p.snd.snd.snd.snd.snd.snd.snd.snd.snd.snd.snd.snd.snd.snd.fst, p.snd.snd.snd.snd.snd.snd.snd.snd.snd.snd.snd.snd.snd.snd.snd.fst, p.snd.snd.snd.snd.snd.snd.snd.snd.snd.snd.snd.snd.snd.snd.snd.snd.fst, p.snd.snd.snd.snd.snd.snd.snd.snd.snd.snd.snd.snd.snd.snd.snd.snd.snd.fst, p.snd.snd.snd.snd.snd.snd.snd.snd.snd.snd.snd.snd.snd.snd.snd.snd.snd.snd.fst, p.snd.snd.snd.snd.snd.snd.snd.snd.snd.snd.snd.snd.snd.snd.snd.snd.snd.snd.snd.fst, p.snd.snd.snd.snd.snd.snd.snd.snd.snd.snd.snd.snd.snd.snd.snd.snd.snd.snd.snd.snd.fst, p.snd.snd.snd.snd.snd.snd.snd.snd.snd.snd.snd.snd.snd.snd.snd.snd.snd.snd.snd.snd.snd.fst, p.snd.snd.snd.snd.snd.snd.snd.snd.snd.snd.snd.snd.snd.snd.snd.snd.snd.snd.snd.snd.snd.snd.fst, p.snd.snd.snd.snd.snd.snd.snd.snd.snd.snd.snd.snd.snd.snd.snd.snd.snd.snd.snd.snd.snd.snd.snd.fst, p.snd.snd.snd.snd.snd.snd.snd.snd.snd.snd.snd.snd.snd.snd.snd.snd.snd.snd.snd.snd.snd.snd.snd.snd.fst)) p.fst p.snd.fst p.snd.snd.fst r.fst r.snd.fst → True ∧ ∀ (r_1 : Bool × Unit), True ∧ True → r_1.fst = Bool.true → ((!r_1.fst) = Bool.true → Bool.false = Bool.true) ∧ ((!r_1.fst) = Bool.false → True ∧ ∀ (r_2 : Bool × Unit), True ∧ True → r_2.fst = Go.Proofs.Ytopgdjjiilkfgaa.soundB (Go.Proofs.Ytopgdjjiilkfgaa.toU (p.snd.snd.snd.fst, p.snd.snd.snd.snd.fst, p.snd.snd.snd.snd.snd.fst, p.snd.snd.snd.snd.snd.snd.fst, p.snd.snd.snd.snd.snd.snd.snd.fst, p.snd.snd.snd.snd.snd.snd.snd.snd.fst, p.snd.snd.snd.snd.snd.snd.snd.snd.snd.fst, p.snd.snd.snd.snd.snd.snd.snd.snd.snd.snd.fst, p.snd.snd.snd.snd.snd.snd.snd.snd.snd.snd.snd.fst, p.snd.snd.snd.snd.snd.snd.snd.snd.snd.snd.snd.snd.fst, p.snd.snd.snd.snd.snd.snd.snd.snd.snd.snd.snd.snd.snd.fst, p.snd.snd.snd.snd.snd.snd.snd.snd.snd.snd.snd.snd.snd.snd.fst, p.snd.snd.snd.snd.snd.snd.snd.snd.snd.snd.snd.snd.snd.snd.snd.fst, p.snd.snd.snd.snd.snd.snd.snd.snd.snd.snd.snd.snd.snd.snd.snd.snd.fst, p.snd.snd.snd.snd.snd.snd.snd.snd.snd.snd.snd.snd.snd.snd.snd.snd.snd.fst, p.snd.snd.snd.snd.snd.snd.snd.snd.snd.snd.snd.snd.snd.snd.snd.snd.snd.snd.fst, p.snd.snd.snd.snd.snd.snd.snd.snd.snd.snd.snd.snd.snd.snd.snd.snd.snd.snd.snd.fst, p.snd.snd.snd.snd.snd.snd.snd.snd.snd.snd.snd.snd.snd.snd.snd.snd.snd.snd.snd.snd.fst, p.snd.snd.snd.snd.snd.snd.snd.snd.snd.snd.snd.snd.snd.snd.snd.snd.snd.snd.snd.snd.snd.fst, p.snd.snd.snd.snd.snd.snd.snd.snd.snd.snd.snd.snd.snd.snd.snd.snd.snd.snd.snd.snd.snd.snd.fst, p.snd.snd.snd.snd.snd.snd.snd.snd.snd.snd.snd.snd.snd.snd.snd.snd.snd.snd.snd.snd.snd.snd.snd.fst, p.snd.snd.snd.snd.snd.snd.snd.snd.snd.snd.snd.snd.snd.snd.snd.snd.snd.snd.snd.snd.snd.snd.snd.snd.fst)) → ((!r_2.fst) = Bool.true → Go.Vc.sel (Decidable.decide (r.snd.fst = (1 : Int))) (Decidable.decide ((↑(List.length r.fst) : Int) = (0 : Int))) Bool.false = Bool.true) ∧ ((!r_2.fst) = Bool.false → (Go.Vc.sel (Go.Vc.sel (Go.Vc.sel (Decidable.decide (p.fst < (1 : Int))) Bool.true (Decidable.decide ((24 : Int) < p.fst))) Bool.true (Decidable.decide (p.snd.fst < (0 : Int)))) Bool.true (Decidable.decide ((16 : Int) < p.snd.fst)) = Bool.true → Go.Vc.sel (Decidable.decide (r.snd.fst = (3 : Int))) (Decidable.decide ((↑(List.length r.fst) : Int) = (0 : Int))) Bool.false = Bool.true) ∧ (Go.Vc.sel (Go.Vc.sel (Go.Vc.sel (Decidable.decide (p.fst < (1 : Int))) Bool.true (Decidable.decide ((24 : Int) < p.fst))) Bool.true (Decidable.decide (p.snd.fst < (0 : Int)))) Bool.true (Decidable.decide ((16 : Int) < p.snd.fst)) = Bool.false → (Go.Proofs.Ytopgdjjiilkfgaa.soundB (Go.Proofs.Ytopgdjjiilkfgaa.toU (p.snd.snd.snd.fst, p.snd.snd.snd.snd.fst, p.snd.snd.snd.snd.snd.fst, p.snd.snd.snd.snd.snd.snd.fst, p.snd.snd.snd.snd.snd.snd.snd.fst, p.snd.snd.snd.snd.snd.snd.snd.snd.fst, p.snd.snd.snd.snd.snd.snd.snd.snd.snd.fst, p.snd.snd.snd.snd.snd.snd.snd.snd.snd.snd.fst, p.snd.snd.snd.snd.snd.snd.snd.snd.snd.snd.snd.fst, p.snd.snd.snd.snd.snd.snd.snd.snd.snd.snd.snd.snd.fst, p.snd.snd.snd.snd.snd.snd.snd.snd.snd.snd.snd.snd.snd.fst, p.snd.snd.snd.snd.snd.snd.snd.snd.snd.snd.snd.snd.snd.snd.fst, p.snd.snd.snd.snd.snd.snd.snd.snd.snd.snd.snd.snd.snd.snd.snd.fst, p.snd.snd.snd.snd.snd.snd.snd.snd.snd.snd.snd.snd.snd.snd.snd.snd.fst, p.snd.snd.snd.snd.snd.snd.snd.snd.snd.snd.snd.snd.snd.snd.snd.snd.snd.fst, p.snd.snd.snd.snd.snd.snd.snd.snd.snd.snd.snd.snd.snd.snd.snd.snd.snd.snd.fst, p.snd.snd.snd.snd.snd.snd.snd.snd.snd.snd.snd.snd.snd.snd.snd.snd.snd.snd.snd.fst, p.snd.snd.snd.snd.snd.snd.snd.snd.snd.snd.snd.snd.snd.snd.snd.snd.snd.snd.snd.snd.fst, p.snd.snd.snd.snd.snd.snd.snd.snd.snd.snd.snd.snd.snd.snd.snd.snd.snd.snd.snd.snd.snd.fst, p.snd.snd.snd.snd.snd.snd.snd.snd.snd.snd.snd.snd.snd.snd.snd.snd.snd.snd.snd.snd.snd.snd.fst, p.snd.snd.snd.snd.snd.snd.snd.snd.snd.snd.snd.snd.snd.snd.snd.snd.snd.snd.snd.snd.snd.snd.snd.fst, p.snd.snd.snd.snd.snd.snd.snd.snd.snd.snd.snd.snd.snd.snd.snd.snd.snd.snd.snd.snd.snd.snd.snd.snd.fst)) = Bool.true ∧ (1 : Int) ≤ p.fst ∧ p.fst ≤ (24 : Int) ∧ (0 : Int) ≤ p.snd.fst ∧ p.snd.fst ≤ (16 : Int) ∧ List.length p.snd.snd.fst ≤ (1000 : Nat)) ∧ ∀ (r_3 : Bool × Unit), True ∧ True → (r_3.fst = Bool.true ↔ Go.Proofs.Ytopgdjjiilkfgaa.flowP (Go.Proofs.Ytopgdjjiilkfgaa.toU (p.snd.snd.snd.fst, p.snd.snd.snd.snd.fst, p.snd.snd.snd.snd.snd.fst, p.snd.snd.snd.snd.snd.snd.fst, p.snd.snd.snd.snd.snd.snd.snd.fst, p.snd.snd.snd.snd.snd.snd.snd.snd.fst, p.snd.snd.snd.snd.snd.snd.snd.snd.snd.fst, p.snd.snd.snd.snd.snd.snd.snd.snd.snd.snd.fst, p.snd.snd.snd.snd.snd.snd.snd.snd.snd.snd.snd.fst, p.snd.snd.snd.snd.snd.snd.snd.snd.snd.snd.snd.snd.fst, p.snd.snd.snd.snd.snd.snd.snd.snd.snd.snd.snd.snd.snd.fst, p.snd.snd.snd.snd.snd.snd.snd.snd.snd.snd.snd.snd.snd.snd.fst, p.snd.snd.snd.snd.snd.snd.snd.snd.snd.snd.snd.snd.snd.snd.snd.fst, p.snd.snd.snd.snd.snd.snd.snd.snd.snd.snd.snd.snd.snd.snd.snd.snd.fst, p.snd.snd.snd.snd.snd.snd.snd.snd.snd.snd.snd.snd.snd.snd.snd.snd.snd.fst, p.snd.snd.snd.snd.snd.snd.snd.snd.snd.snd.snd.snd.snd.snd.snd.snd.snd.snd.fst, p.snd.snd.snd.snd.snd.snd.snd.snd.snd.snd.snd.snd.snd.snd.snd.snd.snd.snd.snd.fst, p.snd.snd.snd.snd.snd.snd.snd.snd.snd.snd.snd.snd.snd.snd.snd.snd.snd.snd.snd.snd.fst, p.snd.snd.snd.snd.snd.snd.snd.snd.snd.snd.snd.snd.snd.snd.snd.snd.snd.snd.snd.snd.snd.fst, p.snd.snd.snd.snd.snd.snd.snd.snd.snd.snd.snd.snd.snd.snd.snd.snd.snd.snd.snd.snd.snd.snd.fst, p.snd.snd.snd.snd.snd.snd.snd.snd.snd.snd.snd.snd.snd.snd.snd.snd.snd.snd.snd.snd.snd.snd.snd.fst, p.snd.snd.snd.snd.snd.snd.snd.snd.snd.snd.snd.snd.snd.snd.snd.snd.snd.snd.snd.snd.snd.snd.snd.snd.fst)) (Go.Proofs.Ytopgdjjiilkfgaa.awOf (p.snd.snd.snd.fst, p.snd.snd.snd.snd.fst, p.snd.snd.snd.snd.snd.fst, p.snd.snd.snd.snd.snd.snd.fst, p.snd.snd.snd.snd.snd.snd.snd.fst, p.snd.snd.snd.snd.snd.snd.snd.snd.fst, p.snd.snd.snd.snd.snd.snd.snd.snd.snd.fst, p.snd.snd.snd.snd.snd.snd.snd.snd.snd.snd.fst, p.snd.snd.snd.snd.snd.snd.snd.snd.snd.snd.snd.fst, p.snd.snd.snd.snd.snd.snd.snd.snd.snd.snd.snd.snd.fst, p.snd.snd.snd.snd.snd.snd.snd.snd.snd.snd.snd.snd.snd.fst, p.snd.snd.snd.snd.snd.snd.snd.snd.snd.snd.snd.snd.snd.snd.fst, p.snd.snd.snd.snd.snd.snd.snd.snd.snd.snd.snd.snd.snd.snd.snd.fst, p.snd.snd.snd.snd.snd.snd.snd.snd.snd.snd.snd.snd.snd.snd.snd.snd.fst, p.snd.snd.snd.snd.snd.snd.snd.snd.snd.snd.snd.snd.snd.snd.snd.snd.snd.fst, p.snd.snd.snd.snd.snd.snd.snd.snd.snd.snd.snd.snd.snd.snd.snd.snd.snd.snd.fst, p.snd.snd.snd.snd.snd.snd.snd.snd.snd.snd.snd.snd.snd.snd.snd.snd.snd.snd.snd.fst, p.snd.snd.snd.snd.snd.snd.snd.snd.snd.snd.snd.snd.snd.snd.snd.snd.snd.snd.snd.snd.fst, p.snd.snd.snd.snd.snd.snd.snd.snd.snd.snd.snd.snd.snd.snd.snd.snd.snd.snd.snd.snd.snd.fst, p.snd.snd.snd.snd.snd.snd.snd.snd.snd.snd.snd.snd.snd.snd.snd.snd.snd.snd.snd.snd.snd.snd.fst, p.snd.snd.snd.snd.snd.snd.snd.snd.snd.snd.snd.snd.snd.snd.snd.snd.snd.snd.snd.snd.snd.snd.snd.fst, p.snd.snd.snd.snd.snd.snd.snd.snd.snd.snd.snd.snd.snd.snd.snd.snd.snd.snd.snd.snd.snd.snd.snd.snd.fst)) p.fst p.snd.fst p.snd.snd.fst) → ((!r_3.fst) = Bool.true → Go.Vc.sel (Decidable.decide (r.snd.fst = (17 : Int))) (Decidable.decide ((↑(List.length r.fst) : Int) = (0 : Int))) Bool.false = Bool.true) ∧ ((!r_3.fst) = Bool.false → (Go.Vc.sel (Decidable.decide (r.snd.fst ≠ (0 : Int))) Bool.true (Decidable.decide ((↑(List.length r.fst) : Int) ≠ p.snd.fst)) = Bool.true → Bool.false = Bool.true) ∧ (Go.Vc.sel (Decidable.decide (r.snd.fst ≠ (0 : Int))) Bool.true (Decidable.decide ((↑(List.length r.fst) : Int) ≠ p.snd.fst)) = Bool.false → ∃ (I : Int × Unit → Prop), ∃ (μ : Int × Unit → Nat), I ((0 : Int), ()) ∧ ∀ (p_1 : Int × Unit), (Go.IntKind.i64.min ≤ p_1.fst ∧ p_1.fst ≤ Go.IntKind.i64.max) ∧ True → I p_1 → (Decidable.decide (p_1.fst < p.snd.fst) = Bool.true → ((0 : Int) ≤ p_1.fst ∧ p_1.fst < (↑(List.length r.fst) : Int)) ∧ (Decidable.decide ((0 : Int) < p_1.fst) = Bool.true ∧ Decidable.decide ((↑(Go.Vc.gx [] r.fst p_1.fst).length : Int) ≠ p.fst) = Bool.false → (0 : Int) ≤ Go.IntKind.i64.wrap (p_1.fst - (1 : Int)) ∧ Go.IntKind.i64.wrap (p_1.fst - (1 : Int)) < (↑(List.length r.fst) : Int)) ∧ (Decidable.decide ((0 : Int) < p_1.fst) = Bool.true ∧ Decidable.decide ((↑(Go.Vc.gx [] r.fst p_1.fst).length : Int) ≠ p.fst) = Bool.false → (0 : Int) ≤ p_1.fst ∧ p_1.fst < (↑(List.length r.fst) : Int)) ∧ (Decidable.decide ((0 : Int) < p_1.fst) = Bool.true ∧ Decidable.decide ((↑(Go.Vc.gx [] r.fst p_1.fst).length : Int) ≠ p.fst) = Bool.false → (Go.Vc.gx [] r.fst (Go.IntKind.i64.wrap (p_1.fst - (1 : Int)))).length = (Go.Vc.gx [] r.fst p_1.fst).length) ∧ ∀ (r_4 : Int × Unit), (Decidable.decide ((0 : Int) < p_1.fst) = Bool.true ∧ Decidable.decide ((↑(Go.Vc.gx [] r.fst p_1.fst).length : Int) ≠ p.fst) = Bool.false → ((Go.IntKind.i64.min ≤ r_4.fst ∧ r_4.fst ≤ Go.IntKind.i64.max) ∧ True) ∧ r_4.fst = Go.Proofs.Ytopgdjjiilkfgaa.cmpL (Go.Vc.gx [] r.fst (Go.IntKind.i64.wrap (p_1.fst - (1 : Int)))) (Go.Vc.gx [] r.fst p_1.fst)) → (Go.Vc.sel (Decidable.decide ((↑(Go.Vc.gx [] r.fst p_1.fst).length : Int) ≠ p.fst)) Bool.true (Go.Vc.sel (Decidable.decide ((0 : Int) < p_1.fst)) (Decidable.decide (r_4.fst < (0 : Int))) Bool.false) = Bool.true → Bool.false = Bool.true) ∧ (Go.Vc.sel (Decidable.decide ((↑(Go.Vc.gx [] r.fst p_1.fst).length : Int) ≠ p.fst)) Bool.true (Go.Vc.sel (Decidable.decide ((0 : Int) < p_1.fst)) (Decidable.decide (r_4.fst < (0 : Int))) Bool.false) = Bool.false → I (Go.IntKind.i64.wrap (p_1.fst + (1 : Int)), ()) ∧ μ (Go.IntKind.i64.wrap (p_1.fst + (1 : Int)), ()) < μ p_1)) ∧ (Decidable.decide (p_1.fst < p.snd.fst) = Bool.false → List.length r.fst ≤ (100 : Nat) ∧ ∀ (r_4 : List (Int × (Int × Int) × (Int × Int) × Int) × Int × Unit), (List.length r_4.fst ≤ (9223372036854775807 : Nat) ∧ ∀ (x : Int × (Int × Int) × (Int × Int) × Int), x ∈ r_4.fst → (Go.IntKind.i64.min ≤ x.fst ∧ x.fst ≤ Go.IntKind.i64.max) ∧ ((Go.IntKind.i64.min ≤ x.snd.fst.fst ∧ x.snd.fst.fst ≤ Go.IntKind.i64.max) ∧ Go.IntKind.i64.min ≤ x.snd.fst.snd ∧ x.snd.fst.snd ≤ Go.IntKind.i64.max) ∧ ((Go.IntKind.i64.min ≤ x.snd.snd.fst.fst ∧ x.snd.snd.fst.fst ≤ Go.IntKind.i64.max) ∧ Go.IntKind.i64.min ≤ x.snd.snd.fst.snd ∧ x.snd.snd.fst.snd ≤ Go.IntKind.i64.max) ∧ Go.IntKind.i64.min ≤ x.snd.snd.snd ∧ x.snd.snd.snd ≤ Go.IntKind.i64.max) ∧ (Go.IntKind.i64.min ≤ r_4.snd.fst ∧ r_4.snd.fst ≤ Go.IntKind.i64.max) ∧ True → Go.Proofs.Ytopgdjjiilkfgaa.mergeP (Go.Proofs.Ytopgdjjiilkfgaa.toU (p.snd.snd.snd.fst, p.snd.snd.snd.snd.fst, p.snd.snd.snd.snd.snd.fst, p.snd.snd.snd.snd.snd.snd.fst, p.snd.snd.snd.snd.snd.snd.snd.fst, p.snd.snd.snd.snd.snd.snd.snd.snd.fst, p.snd.snd.snd.snd.snd.snd.snd.snd.snd.fst, p.snd.snd.snd.snd.snd.snd.snd.snd.snd.snd.fst, p.snd.snd.snd.snd.snd.snd.snd.snd.snd.snd.snd.fst, p.snd.snd.snd.snd.snd.snd.snd.snd.snd.snd.snd.snd.fst, p.snd.snd.snd.snd.snd.snd.snd.snd.snd.snd.snd.snd.snd.fst, p.snd.snd.snd.snd.snd.snd.snd.snd.snd.snd.snd.snd.snd.snd.fst, p.snd.snd.snd.snd.snd.snd.snd.snd.snd.snd.snd.snd.snd.snd.snd.fst, p.snd.snd.snd.snd.snd.snd.snd.snd.snd.snd.snd.snd.snd.snd.snd.snd.fst, p.snd.snd.snd.snd.snd.snd.snd.snd.snd.snd.snd.snd.snd.snd.snd.snd.snd.fst, p.snd.snd.snd.snd.snd.snd.snd.snd.snd.snd.snd.snd.snd.snd.snd.snd.snd.snd.fst, p.snd.snd.snd.snd.snd.snd.snd.snd.snd.snd.snd.snd.snd.snd.snd.snd.snd.snd.snd.fst, p.snd.snd.snd.snd.snd.snd.snd.snd.snd.snd.snd.snd.snd.snd.snd.snd.snd.snd.snd.snd.fst, p.snd.snd.snd.snd.snd.snd.snd.snd.snd.snd.snd.snd.snd.snd.snd.snd.snd.snd.snd.snd.snd.fst, p.snd.snd.snd.snd.snd.snd.snd.snd.snd.snd.snd.snd.snd.snd.snd.snd.snd.snd.snd.snd.snd.snd.fst, p.snd.snd.snd.snd.snd.snd.snd.snd.snd.snd.snd.snd.snd.snd.snd.snd.snd.snd.snd.snd.snd.snd.snd.fst, p.snd.snd.snd.snd.snd.snd.snd.snd.snd.snd.snd.snd.snd.snd.snd.snd.snd.snd.snd.snd.snd.snd.snd.snd.fst)) (Go.Proofs.Ytopgdjjiilkfgaa.awOf (p.snd.snd.snd.fst, p.snd.snd.snd.snd.fst, p.snd.snd.snd.snd.snd.fst, p.snd.snd.snd.snd.snd.snd.fst, p.snd.snd.snd.snd.snd.snd.snd.fst, p.snd.snd.snd.snd.snd.snd.snd.snd.fst, p.snd.snd.snd.snd.snd.snd.snd.snd.snd.fst, p.snd.snd.snd.snd.snd.snd.snd.snd.snd.snd.fst, p.snd.snd.snd.snd.snd.snd.snd.snd.snd.snd.snd.fst, p.snd.snd.snd.snd.snd.snd.snd.snd.snd.snd.snd.snd.fst, p.snd.snd.snd.snd.snd.snd.snd.snd.snd.snd.snd.snd.snd.fst, p.snd.snd.snd.snd.snd.snd.snd.snd.snd.snd.snd.snd.snd.snd.fst, p.snd.snd.snd.snd.snd.snd.snd.snd.snd.snd.snd.snd.snd.snd.snd.fst, p.snd.snd.snd.snd.snd.snd.snd.snd.snd.snd.snd.snd.snd.snd.snd.snd.fst, p.snd.snd.snd.snd.snd.snd.snd.snd.snd.snd.snd.snd.snd.snd.snd.snd.snd.fst, p.snd.snd.snd.snd.snd.snd.snd.snd.snd.snd.snd.snd.snd.snd.snd.snd.snd.snd.fst, p.snd.snd.snd.snd.snd.snd.snd.snd.snd.snd.snd.snd.snd.snd.snd.snd.snd.snd.snd.fst, p.snd.snd.snd.snd.snd.snd.snd.snd.snd.snd.snd.snd.snd.snd.snd.snd.snd.snd.snd.snd.fst, p.snd.snd.snd.snd.snd.snd.snd.snd.snd.snd.snd.snd.snd.snd.snd.snd.snd.snd.snd.snd.snd.fst, p.snd.snd.snd.snd.snd.snd.snd.snd.snd.snd.snd.snd.snd.snd.snd.snd.snd.snd.snd.snd.snd.snd.fst, p.snd.snd.snd.snd.snd.snd.snd.snd.snd.snd.snd.snd.snd.snd.snd.snd.snd.snd.snd.snd.snd.snd.snd.fst, p.snd.snd.snd.snd.snd.snd.snd.snd.snd.snd.snd.snd.snd.snd.snd.snd.snd.snd.snd.snd.snd.snd.snd.snd.fst)) r.fst r_4.fst r_4.snd.fst → (Go.Vc.sel (Decidable.decide (p.snd.fst = (0 : Int))) (Decidable.decide ((↑(List.length p.snd.snd.fst) : Int) = (0 : Int))) Bool.false = Bool.false ∧ Decidable.decide (r_4.snd.fst = (0 : Int)) = Bool.true → True) ∧ ∀ (r : Bool × Unit), (Go.Vc.sel (Decidable.decide (p.snd.fst = (0 : Int))) (Decidable.decide ((↑(List.length p.snd.snd.fst) : Int) = (0 : Int))) Bool.false = Bool.false ∧ Decidable.decide (r_4.snd.fst = (0 : Int)) = Bool.true → (True ∧ True) ∧ r.fst = Decidable.decide (r_4.fst = p.snd.snd.fst)) → Go.Vc.sel (Decidable.decide (r_4.snd.fst = (0 : Int))) (Go.Vc.sel (Go.Vc.sel (Decidable.decide (p.snd.fst = (0 : Int))) (Decidable.decide ((↑(List.length p.snd.snd.fst) : Int) = (0 : Int))) Bool.false) Bool.true r.fst) Bool.false = Bool.true)))))))
theorem vc_law34_SymmetryUnmerges_eq (x : dens s_law34_SymmetryUnmerges.args) : semF ⟨Try.prog, tys⟩ sp_law34_SymmetryUnmerges an_law34_SymmetryUnmerges s_law34_SymmetryUnmerges Try.f3.results.toList (Try.f3.body.getD .skip) x = vc_law34_SymmetryUnmerges x := by kernel_rfl
theorem m_law34_SymmetryUnmerges (hsp : SpOk Try.prog sp_law34_SymmetryUnmerges) (h : ∀ x, awf s_law34_SymmetryUnmerges.args x → s_law34_SymmetryUnmerges.pre x → vc_law34_SymmetryUnmerges x) : Meets Try.prog 3 s_law34_SymmetryUnmerges := meets_vc (cx := ⟨Try.prog, tys⟩) (sp := sp_law34_SymmetryUnmerges) (an := an_law34_SymmetryUnmerges) (s := s_law34_SymmetryUnmerges) (fn := Try.f3) (c := Try.f3.body.getD .skip) Try.func3 (by kernel_rfl) (Nat.le_of_ble_eq_true (by kernel_rfl)) (by kernel_rfl) tys_ok hsp vc_law34_SymmetryUnmerges_eq h
def vc_law34_SymmetryCosts : dens s_law34_SymmetryCosts.args → Prop := fun (x : (ByteArray × Int × Int × Int × List (Int × Int) × Int × Int × Int × Int × Int × Int × Int × Int × Int × Int × Int × Int × Int × List Int × Int × Int × Int) × List (List Int) × Unit) => (Decidable.decide ((20 : Int) < (↑(List.length x.fst.snd.snd.snd.snd.snd.snd.snd.snd.snd.snd.snd.snd.snd.snd.snd.snd.snd.snd.fst) : Int)) = Bool.false → True) ∧ ∀ (r : Bool × Unit), (Decidable.decide ((20 : Int) < (↑(List.length x.fst.snd.snd.snd.snd.snd.snd.snd.snd.snd.snd.snd.snd.snd.snd.snd.snd.snd.snd.fst) : Int)) = Bool.false → (True ∧ True) ∧ r.fst = Decidable.decide (List.length x.snd.fst ≤ (8 : Nat) ∧ ∀ (l : List Int), l ∈ x.snd.fst → l.length ≤ (26 : Nat))) → (Go.Vc.sel (Go.Vc.sel (Decidable.decide ((20 : Int) < (↑(List.length x.fst.snd.snd.snd.snd.snd.snd.snd.snd.snd.snd.snd.snd.snd.snd.snd.snd.snd.snd.fst) : Int))) Bool.true !r.fst) Bool.true (Decidable.decide ((↑(List.length x.snd.fst) : Int) = (0 : Int))) = Bool.false → (0 : Int) ≤ (0 : Int) ∧ (0 : Int) < (↑(List.length x.snd.fst) : Int)) ∧ (Go.Vc.sel (Go.Vc.sel (Go.Vc.sel (Decidable.decide ((20 : Int) < (↑(List.length x.fst.snd.snd.snd.snd.snd.snd.snd.snd.snd.snd.snd.snd.snd.snd.snd.snd.snd.snd.fst) : Int))) Bool.true !r.fst) Bool.true (Decidable.decide ((↑(List.length x.snd.fst) : Int) = (0 : Int)))) Bool.true (Decidable.decide ((↑(Go.Vc.gx [] x.snd.fst (0 : Int)).length : Int) = (0 : Int))) = Bool.false → (0 : Int) ≤ (0 : Int) ∧ (0 : Int) < (↑(List.length x.snd.fst) : Int)) ∧ (Go.Vc.sel (Go.Vc.sel (Go.Vc.sel (Go.Vc.sel (Decidable.decide ((20 : Int) < (↑(List.length x.fst.snd.snd.snd.snd.snd.snd.snd.snd.snd.snd.snd.snd.snd.snd.snd.snd.snd.snd.fst) : Int))) Bool.true !r.fst) Bool.true (Decidable.decide ((↑(List.length x.snd.fst) : Int) = (0 : Int)))) Bool.true (Decidable.decide ((↑(Go.Vc.gx [] x.snd.fst (0 : Int)).length : Int) = (0 : Int)))) Bool.true (Decidable.decide ((24 : Int) < (↑(Go.Vc.gx [] x.snd.fst (0 : Int)).length : Int))) = Bool.true → Bool.true = Bool.true) ∧ (Go.Vc.sel (Go.Vc.sel (Go.Vc.sel (Go.Vc.sel (Decidable.decide ((20 : Int) < (↑(List.length x.fst.snd.snd.snd.snd.snd.snd.snd.snd.snd.snd.snd.snd.snd.snd.snd.snd.snd.snd.fst) : Int))) Bool.true !r.fst) Bool.true (Decidable.decide ((↑(List.length x.snd.fst) : Int) = (0 : Int)))) Bool.true (Decidable.decide ((↑(Go.Vc.gx [] x.snd.fst (0 : Int)).length : Int) = (0 : Int)))) Bool.true (Decidable.decide ((24 : Int) < (↑(Go.Vc.gx [] x.snd.fst (0 : Int)).length : Int))) = Bool.false → True ∧ ∀ (r : (ByteArray × Int × Int × Int × List (Int × Int) × Int × Int × Int × Int × Int × Int × Int × Int × Int × Int × Int × Int × Int × List Int × Int × Int × Int) × Unit), (True ∧ (Go.IntKind.i64.min ≤ r.fst.snd.fst ∧ r.fst.snd.fst ≤ Go.IntKind.i64.max) ∧ (Go.IntKind.i64.min ≤ r.fst.snd.snd.fst ∧ r.fst.snd.snd.fst ≤ Go.IntKind.i64.max) ∧ (Go.IntKind.i64.min ≤ r.fst.snd.snd.snd.fst ∧ r.fst.snd.snd.snd.fst ≤ Go.IntKind.i64.max) ∧ (List.length r.fst.snd.snd.snd.snd.fst ≤ (9223372036854775807 : Nat) ∧ ∀ (x : Int × Int), x ∈ r.fst.snd.snd.snd.snd.fst → (Go.IntKind.i64.min ≤ x.fst ∧ x.fst ≤ Go.IntKind.i64.max) ∧ Go.IntKind.i64.min ≤ x.snd ∧ x.snd ≤ Go.IntKind.i64.max) ∧ (Go.IntKind.i64.min ≤ r.fst.snd.snd.snd.snd.snd.fst ∧ r.fst.snd.snd.snd.snd.snd.fst ≤ Go.IntKind.i64.max) ∧ (Go.IntKind.i64.min ≤ r.fst.snd.snd.snd.snd.snd.snd.fst ∧ r.fst.snd.snd.snd.snd.snd.snd.fst ≤ Go.IntKind.i64.max) ∧ (Go.IntKind.i64.min ≤ r.fst.snd.snd.snd.snd.snd.snd.snd.fst ∧ r.fst.snd.snd.snd.snd.snd.snd.snd.fst ≤ Go.IntKind.i64.max) ∧ (Go.IntKind.i64.min ≤ r.fst.snd.snd.snd.snd.snd.snd.snd.snd.fst ∧ r.fst.snd.snd.snd.snd.snd.snd.snd.snd.fst ≤ Go.IntKind.i64.max) ∧ (Go.IntKind.i64.min ≤ r.fst.snd.snd.snd.snd.snd.snd.snd.snd.snd.fst ∧ r.fst.snd.snd.snd.snd.snd.snd.snd.snd.snd.fst ≤ Go.IntKind.i64.max) ∧ (Go.IntKind.i64.min ≤ r.fst.snd.snd.snd.snd.snd.snd.snd.snd.snd.snd.fst ∧ r.fst.snd.snd.snd.snd.snd.snd.snd.snd.snd.snd.fst ≤ Go.IntKind.i64.max) ∧ (Go.IntKind.i64.min ≤ r.fst.snd.snd.snd.snd.snd.snd.snd.snd.snd.snd.snd.fst ∧ r.fst.snd.snd.snd.snd.snd.snd.snd.snd.snd.snd.snd.fst ≤ Go.IntKind.i64.max) ∧ (Go.IntKind.i64.min ≤ r.fst.snd.snd.snd.snd.snd.snd.snd.snd.snd.snd.snd.snd.fst ∧ r.fst.snd.snd.snd.snd.snd.snd.snd.snd.snd.snd.snd.snd.fst ≤ Go.IntKind.i64.max) ∧ (Go.IntKind.i64.min ≤ r.fst.snd.snd.snd.snd.snd.snd.snd.snd.snd.snd.snd.snd.snd.fst ∧ r.fst.snd.snd.snd.snd.snd.snd.snd.snd.snd.snd.snd.snd.snd.fst ≤ Go.IntKind.i64.max) ∧ (Go.IntKind.i64.min ≤ r.fst.snd.snd.snd.snd.snd.snd.snd.snd.snd.snd.snd.snd.snd.snd.fst ∧ r.fst.snd.snd.snd.snd.snd.snd.snd.snd.snd.snd.snd.snd.snd.snd.fst ≤ Go.IntKind.i64.max) ∧ (Go.IntKind.i64.min ≤ r.fst.snd.snd.snd.snd.snd.snd.snd.snd.snd.snd.snd.snd.snd.snd.snd.fst ∧ r.fst.snd.snd.snd.snd.snd.snd.snd.snd.snd.snd.snd.snd.snd.snd.snd.fst ≤ Go.IntKind.i64.max) ∧ (Go.IntKind.i64.min ≤ r.fst.snd.snd.snd.snd.snd.snd.snd.snd.snd.snd.snd.snd.snd.snd.snd.snd.fst ∧ r.fst.snd.snd.snd.snd.snd.snd.snd.snd.snd.snd.snd.snd.snd.snd.snd.snd.fst ≤ Go.IntKind.i64.max) ∧ (Go.IntKind.i64.min ≤ r.fst.snd.snd.snd.snd.snd.snd.snd.snd.snd.snd.snd.snd.snd.snd.snd.snd.snd.fst ∧ r.fst.snd.snd.snd.snd.snd.snd.snd.snd.snd.snd.snd.snd.snd.snd.snd.snd.snd.fst ≤ Go.IntKind.i64.max) ∧ (List.length r.fst.snd.snd.snd.snd.snd.snd.snd.snd.snd.snd.snd.snd.snd.snd.snd.snd.snd.snd.fst ≤ (9223372036854775807 : Nat) ∧ ∀ (x : Int), x ∈ r.fst.snd.snd.snd.snd.snd.snd.snd.snd.snd.snd.snd.snd.snd.snd.snd.snd.snd.snd.fst → Go.IntKind.i64.min ≤ x ∧ x ≤ Go.IntKind.i64.max) ∧ (Go.IntKind.i64.min ≤ r.fst.snd.snd.snd.snd.snd.snd.snd.snd.snd.snd.snd.snd.snd.snd.snd.snd.snd.snd.snd.fst ∧ r.fst.snd.snd.snd.snd.snd.snd.snd.snd.snd.snd.snd.snd.snd.snd.snd.snd.snd.snd.snd.fst ≤ Go.IntKind.i64.max) ∧ (Go.IntKind.i64.min ≤ r.fst.snd.snd.snd.snd.snd.snd.snd.snd.snd.snd.snd.snd.snd.snd.snd.snd.snd.snd.snd.snd.fst ∧ r.fst.snd.snd.snd.snd.snd.snd.snd.snd.snd.snd.snd.snd.snd.snd.snd.snd.snd.snd.snd.snd.fst ≤ Go.IntKind.i64.max) ∧ Go.IntKind.i64.min ≤ r.fst.snd.snd.snd.snd.snd.snd.snd.snd.snd.snd.snd.snd.snd.snd.snd.snd.snd.snd.snd.snd.snd ∧ r.fst.snd.snd.snd.snd.snd.snd.snd.snd.snd.snd.snd.snd.snd.snd.snd.snd.snd.snd.snd.snd.snd ≤ Go.IntKind.i64.max) ∧ True → Go.Proofs.Ytopgdjjiilkfgaa.soundB (Go.Proofs.Ytopgdjjiilkfgaa.toU r.fst) = Bool.true ∧ (Go.Proofs.Ytopgdjjiilkfgaa.awOf r.fst).length ≤ (4 : Nat) → (1000 : Int) ≠ (0 : Int) ∧ (1000 : Int) ≠ (0 : Int) ∧ ∃ (I : List (List Int) × Int × Unit → Prop), ∃ (μ : List (List Int) × Int × Unit → Nat), I ([], (0 : Int), ()) ∧ ∀ (p : List (List Int) × Int × Unit), (List.length p.fst ≤ (9223372036854775807 : Nat) ∧ ∀ (x : List Int), x ∈ p.fst → x.length ≤ (9223372036854775807 : Nat) ∧ ∀ (x_1 : Int), x_1 ∈ x → Go.IntKind.i64.min ≤ x_1 ∧ x_1 ≤ Go.IntKind.i64.max) ∧ (Go.IntKind.i64.min ≤ p.snd.fst ∧ p.snd.fst ≤ Go.IntKind.i64.max) ∧ True → I p → (Decidable.decide (p.snd.fst < (↑(List.length x.snd.fst) : Int)) = Bool.true → ((0 : Int) ≤ (0 : Int) ∧ (0 : Int) < (↑(List.length x.snd.fst) : Int)) ∧ ((0 : Int) ≤ p.snd.fst ∧ p.snd.fst < (↑(List.length x.snd.fst) : Int)) ∧ (Go.Proofs.Ytopgdjjiilkfgaa.soundB (Go.Proofs.Ytopgdjjiilkfgaa.toU (r.fst.fst, r.fst.snd.fst, r.fst.snd.snd.fst, r.fst.snd.snd.snd.fst, r.fst.snd.snd.snd.snd.fst, r.fst.snd.snd.snd.snd.snd.fst, r.fst.snd.snd.snd.snd.snd.snd.fst, r.fst.snd.snd.snd.snd.snd.snd.snd.fst, r.fst.snd.snd.snd.snd.snd.snd.snd.snd.fst, r.fst.snd.snd.snd.snd.snd.snd.snd.snd.snd.fst, r.fst.snd.snd.snd.snd.snd.snd.snd.snd.snd.snd.fst, r.fst.snd.snd.snd.snd.snd.snd.snd.snd.snd.snd.snd.fst, r.fst.snd.snd.snd.snd.snd.snd.snd.snd.snd.snd.snd.snd.fst, Int.tmod r.fst.snd.snd.snd.snd.snd.snd.snd.snd.snd.snd.snd.snd.snd.fst (1000 : Int), Int.tmod r.fst.snd.snd.snd.snd.snd.snd.snd.snd.snd.snd.snd.snd.snd.snd.fst (1000 : Int), r.fst.snd.snd.snd.snd.snd.snd.snd.snd.snd.snd.snd.snd.snd.snd.snd)) = Bool.true ∧ (0 : Int) ≤ (↑(Go.Vc.gx [] x.snd.fst (0 : Int)).length : Int) ∧ (↑(Go.Vc.gx [] x.snd.fst (0 : Int)).length : Int) ≤ (1000 : Int)) ∧ ∀ (r_1 : List Int × Unit), (List.length r_1.fst ≤ (9223372036854775807 : Nat) ∧ ∀ (x : Int), x ∈ r_1.fst → Go.IntKind.i64.min ≤ x ∧ x ≤ Go.IntKind.i64.max) ∧ True → (↑r_1.fst.length : Int) ≤ (↑(Go.Vc.gx [] x.snd.fst (0 : Int)).length : Int) ∧ (Go.Proofs.Ytopgdjjiilkfgaa.runTo (Go.Proofs.Ytopgdjjiilkfgaa.toU (r.fst.fst, r.fst.snd.fst, r.fst.snd.snd.fst, r.fst.snd.snd.snd.fst, r.fst.snd.snd.snd.snd.fst, r.fst.snd.snd.snd.snd.snd.fst, r.fst.snd.snd.snd.snd.snd.snd.fst, r.fst.snd.snd.snd.snd.snd.snd.snd.fst, r.fst.snd.snd.snd.snd.snd.snd.snd.snd.fst, r.fst.snd.snd.snd.snd.snd.snd.snd.snd.snd.fst, r.fst.snd.snd.snd.snd.snd.snd.snd.snd.snd.snd.fst, r.fst.snd.snd.snd.snd.snd.snd.snd.snd.snd.snd.snd.fst, r.fst.snd.snd.snd.snd.snd.snd.snd.snd.snd.snd.snd.snd.fst, Int.tmod r.fst.snd.snd.snd.snd.snd.snd.snd.snd.snd.snd.snd.snd.snd.fst (1000 : Int), Int.tmod r.fst.snd.snd.snd.snd.snd.snd.snd.snd.snd.snd.snd.snd.snd.snd.fst (1000 : Int), r.fst.snd.snd.snd.snd.snd.snd.snd.snd.snd.snd.snd.snd.snd.snd.snd)) (Go.Proofs.Ytopgdjjiilkfgaa.awOf (r.fst.fst, r.fst.snd.fst, r.fst.snd.snd.fst, r.fst.snd.snd.snd.fst, r.fst.snd.snd.snd.snd.fst, r.fst.snd.snd.snd.snd.snd.fst, r.fst.snd.snd.snd.snd.snd.snd.fst, r.fst.snd.snd.snd.snd.snd.snd.snd.fst, r.fst.snd.snd.snd.snd.snd.snd.snd.snd.fst, r.fst.snd.snd.snd.snd.snd.snd.snd.snd.snd.fst, r.fst.snd.snd.snd.snd.snd.snd.snd.snd.snd.snd.fst, r.fst.snd.snd.snd.snd.snd.snd.snd.snd.snd.snd.snd.fst, r.fst.snd.snd.snd.snd.snd.snd.snd.snd.snd.snd.snd.snd.fst, Int.tmod r.fst.snd.snd.snd.snd.snd.snd.snd.snd.snd.snd.snd.snd.snd.fst (1000 : Int), Int.tmod r.fst.snd.snd.snd.snd.snd.snd.snd.snd.snd.snd.snd.snd.snd.snd.fst (1000 : Int), r.fst.snd.snd.snd.snd.snd.snd.snd.snd.snd.snd.snd.snd.snd.snd.snd)) r_1.fst r_1.fst.length).isSome = Bool.true → ((0 : Int) ≤ (0 : Int) ∧ (0 : Int) < (↑(List.length x.snd.fst) : Int)) ∧ (Decidable.decide ((↑(List.length r_1.fst) : Int) ≠ (↑(Go.Vc.gx [] x.snd.fst (0 : Int)).length : Int)) = Bool.true → True ∧ ∀ (r : Bool × Unit), True ∧ True → r.fst = Bool.true → r.fst = Bool.true) ∧ (Decidable.decide ((↑(List.length r_1.fst) : Int) ≠ (↑(Go.Vc.gx [] x.snd.fst (0 : Int)).length : Int)) = Bool.false → ((List.length p.fst + [r_1.fst].length) * (24 : Nat) ≤ (140737488355328 : Nat) ∧ List.length p.fst + [r_1.fst].length ≤ (9223372036854775807 : Nat)) ∧ I (p.fst ++ [r_1.fst], Go.IntKind.i64.wrap (p.snd.fst + (1 : Int)), ()) ∧ μ (p.fst ++ [r_1.fst], Go.IntKind.i64.wrap (p.snd.fst + (1 : Int)), ()) < μ p)) ∧ (Decidable.decide (p.snd.fst < (↑(List.length x.snd.fst) : Int)) = Bool.false → List.length p.fst ≤ (100 : Nat) ∧ ∀ (r_1 : List (Int × (Int × Int) × (Int × Int) × Int) × Int × Unit), (List.length r_1.fst ≤ (9223372036854775807 : Nat) ∧ ∀ (x : Int × (Int × Int) × (Int × Int) × Int), x ∈ r_1.fst → (Go.IntKind.i64.min ≤ x.fst ∧ x.fst ≤ Go.IntKind.i64.max) ∧ ((Go.IntKind.i64.min ≤ x.snd.fst.fst ∧ x.snd.fst.fst ≤ Go.IntKind.i64.max) ∧ Go.IntKind.i64.min ≤ x.snd.fst.snd ∧ x.snd.fst.snd ≤ Go.IntKind.i64.max) ∧ ((Go.IntKind.i64.min ≤ x.snd.snd.fst.fst ∧ x.snd.snd.fst.fst ≤ Go.IntKind.i64.max) ∧ Go.IntKind.i64.min ≤ x.snd.snd.fst.snd ∧ x.snd.snd.fst.snd ≤ Go.IntKind.i64.max) ∧ Go.IntKind.i64.min ≤ x.snd.snd.snd ∧ x.snd.snd.snd ≤ Go.IntKind.i64.max) ∧ (Go.IntKind.i64.min ≤ r_1.snd.fst ∧ r_1.snd.fst ≤ Go.IntKind.i64.max) ∧ True → Go.Proofs.Ytopgdjjiilkfgaa.mergeP (Go.Proofs.Ytopgdjjiilkfgaa.toU (r.fst.fst, r.fst.snd.fst, r.fst.snd.snd.fst, r.fst.snd.snd.snd.fst, r.fst.snd.snd.snd.snd.fst, r.fst.snd.snd.snd.snd.snd.fst, r.fst.snd.snd.snd.snd.snd.snd.fst, r.fst.snd.snd.snd.snd.snd.snd.snd.fst, r.fst.snd.snd.snd.snd.snd.snd.snd.snd.fst, r.fst.snd.snd.snd.snd.snd.snd.snd.snd.snd.fst, r.fst.snd.snd.snd.snd.snd.snd.snd.snd.snd.snd.fst, r.fst.snd.snd.snd.snd.snd.snd.snd.snd.snd.snd.snd.fst, r.fst.snd.snd.snd.snd.snd.snd.snd.snd.snd.snd.snd.snd.fst, Int.tmod r.fst.snd.snd.snd.snd.snd.snd.snd.snd.snd.snd.snd.snd.snd.fst (1000 : Int), Int.tmod r.fst.snd.snd.snd.snd.snd.snd.snd.snd.snd.snd.snd.snd.snd.snd.fst (1000 : Int), r.fst.snd.snd.snd.snd.snd.snd.snd.snd.snd.snd.snd.snd.snd.snd.snd)) (Go.Proofs.Ytopgdjjiilkfgaa.awOf (r.fst.fst, r.fst.snd.fst, r.fst.snd.snd.fst, r.fst.snd.snd.snd.fst, r.fst.snd.snd.snd.snd.fst, r.fst.snd.snd.snd.snd.snd.fst, r.fst.snd.snd.snd.snd.snd.snd.fst, r.fst.snd.snd.snd.snd.snd.snd.snd.fst, r.fst.snd.snd.snd.snd.snd.snd.snd.snd.fst, r.fst.snd.snd.snd.snd.snd.snd.snd.snd.snd.fst, r.fst.snd.snd.snd.snd.snd.snd.snd.snd.snd.snd.fst, r.fst.snd.snd.snd.snd.snd.snd.snd.snd.snd.snd.snd.fst, r.fst.snd.snd.snd.snd.snd.snd.snd.snd.snd.snd.snd.snd.fst, Int.tmod r.fst.snd.snd.snd.snd.snd.snd.snd.snd.snd.snd.snd.snd.snd.fst (1000 : Int), Int.tmod r.fst.snd.snd.snd.snd.snd.snd.snd.snd.snd.snd.snd.snd.snd.snd.fst (1000 : Int), r.fst.snd.snd.snd.snd.snd.snd.snd.snd.snd.snd.snd.snd.snd.snd.snd)) p.fst r_1.fst r_1.snd.fst → ((0 : Int) ≤ (0 : Int) ∧ (0 : Int) < (↑(List.length x.snd.fst) : Int)) ∧ True ∧ ∀ (r_2 : List (List Int) × Int × Unit), (List.length r_2.fst ≤ (9223372036854775807 : Nat) ∧ ∀ (x : List Int), x ∈ r_2.fst → x.length ≤ (9223372036854775807 : Nat) ∧ ∀ (x_1 : Int), x_1 ∈ x → Go.IntKind.i64.min ≤ x_1 ∧ x_1 ≤ Go.IntKind.i64.max) ∧ (Go.IntKind.i64.min ≤ r_2.snd.fst ∧ r_2.snd.fst ≤ Go.IntKind.i64.max) ∧ True → Go.Proofs.Ytopgdjjiilkfgaa.unmergeP (Go.Proofs.Ytopgdjjiilkfgaa.toU (r.fst.fst, r.fst.snd.fst, r.fst.snd.snd.fst, r.fst.snd.snd.snd.fst, r.fst.snd.snd.snd.snd.fst, r.fst.snd.snd.snd.snd.snd.fst, r.fst.snd.snd.snd.snd.snd.snd.fst, r.fst.snd.snd.snd.snd.snd.snd.snd.fst, r.fst.snd.snd.snd.snd.snd.snd.snd.snd.fst, r.fst.snd.snd.snd.snd.snd.snd.snd.snd.snd.fst, r.fst.snd.snd.snd.snd.snd.snd.snd.snd.snd.snd.fst, r.fst.snd.snd.snd.snd.snd.snd.snd.snd.snd.snd.snd.fst, r.fst.snd.snd.snd.snd.snd.snd.snd.snd.snd.snd.snd.snd.fst, Int.tmod r.fst.snd.snd.snd.snd.snd.snd.snd.snd.snd.snd.snd.snd.snd.fst (1000 : Int), Int.tmod r.fst.snd.snd.snd.snd.snd.snd.snd.snd.snd.snd.snd.snd.snd.snd.fst (1000 : Int), r.fst.snd.snd.snd.snd.snd.snd.snd.snd.snd.snd.snd.snd.snd.snd.snd)) (Go.Proofs.Ytopgdjjiilkfgaa.awOf (r.fst.fst, r.fst.snd.fst, r.fst.snd.snd.fst, r.fst.snd.snd.snd.fst, r.fst.snd.snd.snd.snd.fst, r.fst.snd.snd.snd.snd.snd.fst, r.fst.snd.snd.snd.snd.snd.snd.fst, r.fst.snd.snd.snd.snd.snd.snd.snd.fst, r.fst.snd.snd.snd.snd.snd.snd.snd.snd.fst, r.fst.snd.snd.snd.snd.snd.snd.snd.snd.snd.fst, r.fst.snd.snd.snd.snd.snd.snd.snd.snd.snd.snd.fst, r.fst.snd.snd.snd.snd.snd.snd.snd.snd.snd.snd.snd.fst, r.fst.snd.snd.snd.snd.snd.snd.snd.snd.snd.snd.snd.snd.fst, Int.tmod r.fst.snd.snd.snd.snd.snd.snd.snd.snd.snd.snd.snd.snd.snd.fst (1000 : Int), Int.tmod r.fst.snd.snd.snd.snd.snd.snd.snd.snd.snd.snd.snd.snd.snd.snd.fst (1000 : Int), r.fst.snd.snd.snd.snd.snd.snd.snd.snd.snd.snd.snd.snd.snd.snd.snd)) (↑(Go.Vc.gx [] x.snd.fst (0 : Int)).length : Int) (↑(List.length x.snd.fst) : Int) r_1.fst r_2.fst r_2.snd.fst → True ∧ ∀ (r_3 : Bool × Unit), True ∧ True → r_3.fst = Bool.true → (Go.Vc.sel (Go.Vc.sel (Go.Vc.sel (!r_3.fst) Bool.true (Decidable.decide (r_1.snd.fst ≠ (0 : Int)))) Bool.true (Decidable.decide (r_2.snd.fst ≠ (0 : Int)))) Bool.true (Decidable.decide ((↑(List.length r_2.fst) : Int) ≠ (↑(List.length p.fst) : Int))) = Bool.true → Bool.false = Bool.true) ∧ (Go.Vc.sel (Go.Vc.sel (Go.Vc.sel (!r_3.fst) Bool.true (Decidable.decide (r_1.snd.fst ≠ (0 : Int)))) Bool.true (Decidable.decide (r_2.snd.fst ≠ (0 : Int)))) Bool.true (Decidable.decide ((↑(List.length r_2.fst) : Int) ≠ (↑(List.length p.fst) : Int))) = Bool.false → ∃ (I : Int × Int × Int × Unit → Prop), ∃ (μ : Int × Int × Int × Unit → Nat), I ((0 : Int), (0 : Int), (0 : Int), ()) ∧ ∀ (p_1 : Int × Int × Int × Unit), (Go.IntKind.i64.min ≤ p_1.fst ∧ p_1.fst ≤ Go.IntKind.i64.max) ∧ (Go.IntKind.i64.min ≤ p_1.snd.fst ∧ p_1.snd.fst ≤ Go.IntKind.i64.max) ∧ (Go.IntKind.i64.min ≤ p_1.snd.snd.fst ∧ p_1.snd.snd.fst ≤ Go.IntKind.i64.max) ∧ True → I p_1 → (Decidable.decide (p_1.snd.snd.fst < (↑(List.length p.fst) : Int)) = Bool.true → ((0 : Int) ≤ p_1.snd.snd.fst ∧ p_1.snd.snd.fst < (↑(List.length p.fst) : Int)) ∧ ((0 : Int) ≤ p_1.snd.snd.fst ∧ p_1.snd.snd.fst < (↑(List.length r_2.fst) : Int)) ∧ (Go.Proofs.Ytopgdjjiilkfgaa.soundB (Go.Proofs.Ytopgdjjiilkfgaa.toU (r.fst.fst, r.fst.snd.fst, r.fst.snd.snd.fst, r.fst.snd.snd.snd.fst, r.fst.snd.snd.snd.snd.fst, r.fst.snd.snd.snd.snd.snd.fst, r.fst.snd.snd.snd.snd.snd.snd.fst, r.fst.snd.snd.snd.snd.snd.snd.snd.fst, r.fst.snd.snd.snd.snd.snd.snd.snd.snd.fst, r.fst.snd.snd.snd.snd.snd.snd.snd.snd.snd.fst, r.fst.snd.snd.snd.snd.snd.snd.snd.snd.snd.snd.fst, r.fst.snd.snd.snd.snd.snd.snd.snd.snd.snd.snd.snd.fst, r.fst.snd.snd.snd.snd.snd.snd.snd.snd.snd.snd.snd.snd.fst, Int.tmod r.fst.snd.snd.snd.snd.snd.snd.snd.snd.snd.snd.snd.snd.snd.fst (1000 : Int), Int.tmod r.fst.snd.snd.snd.snd.snd.snd.snd.snd.snd.snd.snd.snd.snd.snd.fst (1000 : Int), r.fst.snd.snd.snd.snd.snd.snd.snd.snd.snd.snd.snd.snd.snd.snd.snd)) = Bool.true ∧ (Go.Vc.gx [] p.fst p_1.snd.snd.fst).length ≤ (24 : Nat) ∧ (-1000 : Int) ≤ (Go.Proofs.Ytopgdjjiilkfgaa.toU (r.fst.fst, r.fst.snd.fst, r.fst.snd.snd.fst, r.fst.snd.snd.snd.fst, r.fst.snd.snd.snd.snd.fst, r.fst.snd.snd.snd.snd.snd.fst, r.fst.snd.snd.snd.snd.snd.snd.fst, r.fst.snd.snd.snd.snd.snd.snd.snd.fst, r.fst.snd.snd.snd.snd.snd.snd.snd.snd.fst, r.fst.snd.snd.snd.snd.snd.snd.snd.snd.snd.fst, r.fst.snd.snd.snd.snd.snd.snd.snd.snd.snd.snd.fst, r.fst.snd.snd.snd.snd.snd.snd.snd.snd.snd.snd.snd.fst, r.fst.snd.snd.snd.snd.snd.snd.snd.snd.snd.snd.snd.snd.fst, Int.tmod r.fst.snd.snd.snd.snd.snd.snd.snd.snd.snd.snd.snd.snd.snd.fst (1000 : Int), Int.tmod r.fst.snd.snd.snd.snd.snd.snd.snd.snd.snd.snd.snd.snd.snd.snd.fst (1000 : Int), r.fst.snd.snd.snd.snd.snd.snd.snd.snd.snd.snd.snd.snd.snd.snd.snd)).hc ∧ (Go.Proofs.Ytopgdjjiilkfgaa.toU (r.fst.fst, r.fst.snd.fst, r.fst.snd.snd.fst, r.fst.snd.snd.snd.fst, r.fst.snd.snd.snd.snd.fst, r.fst.snd.snd.snd.snd.snd.fst, r.fst.snd.snd.snd.snd.snd.snd.fst, r.fst.snd.snd.snd.snd.snd.snd.snd.fst, r.fst.snd.snd.snd.snd.snd.snd.snd.snd.fst, r.fst.snd.snd.snd.snd.snd.snd.snd.snd.snd.fst, r.fst.snd.snd.snd.snd.snd.snd.snd.snd.snd.snd.fst, r.fst.snd.snd.snd.snd.snd.snd.snd.snd.snd.snd.snd.fst, r.fst.snd.snd.snd.snd.snd.snd.snd.snd.snd.snd.snd.snd.fst, Int.tmod r.fst.snd.snd.snd.snd.snd.snd.snd.snd.snd.snd.snd.snd.snd.fst (1000 : Int), Int.tmod r.fst.snd.snd.snd.snd.snd.snd.snd.snd.snd.snd.snd.snd.snd.snd.fst (1000 : Int), r.fst.snd.snd.snd.snd.snd.snd.snd.snd.snd.snd.snd.snd.snd.snd.snd)).hc ≤ (1000 : Int) ∧ (-1000 : Int) ≤ (Go.Proofs.Ytopgdjjiilkfgaa.toU (r.fst.fst, r.fst.snd.fst, r.fst.snd.snd.fst, r.fst.snd.snd.snd.fst, r.fst.snd.snd.snd.snd.fst, r.fst.snd.snd.snd.snd.snd.fst, r.fst.snd.snd.snd.snd.snd.snd.fst, r.fst.snd.snd.snd.snd.snd.snd.snd.fst, r.fst.snd.snd.snd.snd.snd.snd.snd.snd.fst, r.fst.snd.snd.snd.snd.snd.snd.snd.snd.snd.fst, r.fst.snd.snd.snd.snd.snd.snd.snd.snd.snd.snd.fst, r.fst.snd.snd.snd.snd.snd.snd.snd.snd.snd.snd.snd.fst, r.fst.snd.snd.snd.snd.snd.snd.snd.snd.snd.snd.snd.snd.fst, Int.tmod r.fst.snd.snd.snd.snd.snd.snd.snd.snd.snd.snd.snd.snd.snd.fst (1000 : Int), Int.tmod r.fst.snd.snd.snd.snd.snd.snd.snd.snd.snd.snd.snd.snd.snd.snd.fst (1000 : Int), r.fst.snd.snd.snd.snd.snd.snd.snd.snd.snd.snd.snd.snd.snd.snd.snd)).cc ∧ (Go.Proofs.Ytopgdjjiilkfgaa.toU (r.fst.fst, r.fst.snd.fst, r.fst.snd.snd.fst, r.fst.snd.snd.snd.fst, r.fst.snd.snd.snd.snd.fst, r.fst.snd.snd.snd.snd.snd.fst, r.fst.snd.snd.snd.snd.snd.snd.fst, r.fst.snd.snd.snd.snd.snd.snd.snd.fst, r.fst.snd.snd.snd.snd.snd.snd.snd.snd.fst, r.fst.snd.snd.snd.snd.snd.snd.snd.snd.snd.fst, r.fst.snd.snd.snd.snd.snd.snd.snd.snd.snd.snd.fst, r.fst.snd.snd.snd.snd.snd.snd.snd.snd.snd.snd.snd.fst, r.fst.snd.snd.snd.snd.snd.snd.snd.snd.snd.snd.snd.snd.fst, Int.tmod r.fst.snd.snd.snd.snd.snd.snd.snd.snd.snd.snd.snd.snd.snd.fst (1000 : Int), Int.tmod r.fst.snd.snd.snd.snd.snd.snd.snd.snd.snd.snd.snd.snd.snd.snd.fst (1000 : Int), r.fst.snd.snd.snd.snd.snd.snd.snd.snd.snd.snd.snd.snd.snd.snd.snd)).cc ≤ (1000 : Int) ∧ (Go.Proofs.Ytopgdjjiilkfgaa.runTo (Go.Proofs.Ytopgdjjiilkfgaa.toU (r.fst.fst, r.fst.snd.fst, r.fst.snd.snd.fst, r.fst.snd.snd.snd.fst, r.fst.snd.snd.snd.snd.fst, r.fst.snd.snd.snd.snd.snd.fst, r.fst.snd.snd.snd.snd.snd.snd.fst, r.fst.snd.snd.snd.snd.snd.snd.snd.fst, r.fst.snd.snd.snd.snd.snd.snd.snd.snd.fst, r.fst.snd.snd.snd.snd.snd.snd.snd.snd.snd.fst, r.fst.snd.snd.snd.snd.snd.snd.snd.snd.snd.snd.fst, r.fst.snd.snd.snd.snd.snd.snd.snd.snd.snd.snd.snd.fst, r.fst.snd.snd.snd.snd.snd.snd.snd.snd.snd.snd.snd.snd.fst, Int.tmod r.fst.snd.snd.snd.snd.snd.snd.snd.snd.snd.snd.snd.snd.snd.fst (1000 : Int), Int.tmod r.fst.snd.snd.snd.snd.snd.snd.snd.snd.snd.snd.snd.snd.snd.snd.fst (1000 : Int), r.fst.snd.snd.snd.snd.snd.snd.snd.snd.snd.snd.snd.snd.snd.snd.snd)) (Go.Proofs.Ytopgdjjiilkfgaa.awOf (r.fst.fst, r.fst.snd.fst, r.fst.snd.snd.fst, r.fst.snd.snd.snd.fst, r.fst.snd.snd.snd.snd.fst, r.fst.snd.snd.snd.snd.snd.fst, r.fst.snd.snd.snd.snd.snd.snd.fst, r.fst.snd.snd.snd.snd.snd.snd.snd.fst, r.fst.snd.snd.snd.snd.snd.snd.snd.snd.fst, r.fst.snd.snd.snd.snd.snd.snd.snd.snd.snd.fst, r.fst.snd.snd.snd.snd.snd.snd.snd.snd.snd.snd.fst, r.fst.snd.snd.snd.snd.snd.snd.snd.snd.snd.snd.snd.fst, r.fst.snd.snd.snd.snd.snd.snd.snd.snd.snd.snd.snd.snd.fst, Int.tmod r.fst.snd.snd.snd.snd.snd.snd.snd.snd.snd.snd.snd.snd.snd.fst (1000 : Int), Int.tmod r.fst.snd.snd.snd.snd.snd.snd.snd.snd.snd.snd.snd.snd.snd.snd.fst (1000 : Int), r.fst.snd.snd.snd.snd.snd.snd.snd.snd.snd.snd.snd.snd.snd.snd.snd)) (Go.Vc.gx [] p.fst p_1.snd.snd.fst) (Go.Vc.gx [] p.fst p_1.snd.snd.fst).length).isSome = Bool.true) ∧ ∀ (r_4 : Int × Unit), (Go.IntKind.i64.min ≤ r_4.fst ∧ r_4.fst ≤ Go.IntKind.i64.max) ∧ True → (∀ (p_2 : List Go.Proofs.Ytopgdjjiilkfgaa.St × Go.Proofs.Ytopgdjjiilkfgaa.St), Go.Proofs.Ytopgdjjiilkfgaa.runTo (Go.Proofs.Ytopgdjjiilkfgaa.toU (r.fst.fst, r.fst.snd.fst, r.fst.snd.snd.fst, r.fst.snd.snd.snd.fst, r.fst.snd.snd.snd.snd.fst, r.fst.snd.snd.snd.snd.snd.fst, r.fst.snd.snd.snd.snd.snd.snd.fst, r.fst.snd.snd.snd.snd.snd.snd.snd.fst, r.fst.snd.snd.snd.snd.snd.snd.snd.snd.fst, r.fst.snd.snd.snd.snd.snd.snd.snd.snd.snd.fst, r.fst.snd.snd.snd.snd.snd.snd.snd.snd.snd.snd.fst, r.fst.snd.snd.snd.snd.snd.snd.snd.snd.snd.snd.snd.fst, r.fst.snd.snd.snd.snd.snd.snd.snd.snd.snd.snd.snd.snd.fst, Int.tmod r.fst.snd.snd.snd.snd.snd.snd.snd.snd.snd.snd.snd.snd.snd.fst (1000 : Int), Int.tmod r.fst.snd.snd.snd.snd.snd.snd.snd.snd.snd.snd.snd.snd.snd.snd.fst (1000 : Int), r.fst.snd.snd.snd.snd.snd.snd.snd.snd.snd.snd.snd.snd.snd.snd.snd)) (Go.Proofs.Ytopgdjjiilkfgaa.awOf (r.fst.fst, r.fst.snd.fst, r.fst.snd.snd.fst, r.fst.snd.snd.snd.fst, r.fst.snd.snd.snd.snd.fst, r.fst.snd.snd.snd.snd.snd.fst, r.fst.snd.snd.snd.snd.snd.snd.fst, r.fst.snd.snd.snd.snd.snd.snd.snd.fst, r.fst.snd.snd.snd.snd.snd.snd.snd.snd.fst, r.fst.snd.snd.snd.snd.snd.snd.snd.snd.snd.fst, r.fst.snd.snd.snd.snd.snd.snd.snd.snd.snd.snd.fst, r.fst.snd.snd.snd.snd.snd.snd.snd.snd.snd.snd.snd.fst, r.fst.snd.snd.snd.snd.snd.snd.snd.snd.snd.snd.snd.snd.fst, Int.tmod r.fst.snd.snd.snd.snd.snd.snd.snd.snd.snd.snd.snd.snd.snd.fst (1000 : Int), Int.tmod r.fst.snd.snd.snd.snd.snd.snd.snd.snd.snd.snd.snd.snd.snd.snd.fst (1000 : Int), r.fst.snd.snd.snd.snd.snd.snd.snd.snd.snd.snd.snd.snd.snd.snd.snd)) (Go.Vc.gx [] p.fst p_1.snd.snd.fst) (Go.Vc.gx [] p.fst p_1.snd.snd.fst).length = Option.some p_2 → r_4.fst = Go.Proofs.Ytopgdjjiilkfgaa.costsF (Go.Proofs.Ytopgdjjiilkfgaa.toU (r.fst.fst, r.fst.snd.fst, r.fst.snd.snd.fst, r.fst.snd.snd.snd.fst, r.fst.snd.snd.snd.snd.fst, r.fst.snd.snd.snd.snd.snd.fst, r.fst.snd.snd.snd.snd.snd.snd.fst, r.fst.snd.snd.snd.snd.snd.snd.snd.fst, r.fst.snd.snd.snd.snd.snd.snd.snd.snd.fst, r.fst.snd.snd.snd.snd.snd.snd.snd.snd.snd.fst, r.fst.snd.snd.snd.snd.snd.snd.snd.snd.snd.snd.fst, r.fst.snd.snd.snd.snd.snd.snd.snd.snd.snd.snd.snd.fst, r.fst.snd.snd.snd.snd.snd.snd.snd.snd.snd.snd.snd.snd.fst, Int.tmod r.fst.snd.snd.snd.snd.snd.snd.snd.snd.snd.snd.snd.snd.snd.fst (1000 : Int), Int.tmod r.fst.snd.snd.snd.snd.snd.snd.snd.snd.snd.snd.snd.snd.snd.snd.fst (1000 : Int), r.fst.snd.snd.snd.snd.snd.snd.snd.snd.snd.snd.snd.snd.snd.snd.snd)) (Go.Proofs.Ytopgdjjiilkfgaa.initF (Go.Proofs.Ytopgdjjiilkfgaa.toU (r.fst.fst, r.fst.snd.fst, r.fst.snd.snd.fst, r.fst.snd.snd.snd.fst, r.fst.snd.snd.snd.snd.fst, r.fst.snd.snd.snd.snd.snd.fst, r.fst.snd.snd.snd.snd.snd.snd.fst, r.fst.snd.snd.snd.snd.snd.snd.snd.fst, r.fst.snd.snd.snd.snd.snd.snd.snd.snd.fst, r.fst.snd.snd.snd.snd.snd.snd.snd.snd.snd.fst, r.fst.snd.snd.snd.snd.snd.snd.snd.snd.snd.snd.fst, r.fst.snd.snd.snd.snd.snd.snd.snd.snd.snd.snd.snd.fst, r.fst.snd.snd.snd.snd.snd.snd.snd.snd.snd.snd.snd.snd.fst, Int.tmod r.fst.snd.snd.snd.snd.snd.snd.snd.snd.snd.snd.snd.snd.snd.fst (1000 : Int), Int.tmod r.fst.snd.snd.snd.snd.snd.snd.snd.snd.snd.snd.snd.snd.snd.snd.fst (1000 : Int), r.fst.snd.snd.snd.snd.snd.snd.snd.snd.snd.snd.snd.snd.snd.snd.snd))) p_2.fst) → (Go.Proofs.Ytopgdjjiilkfgaa.soundB (Go.Proofs.Ytopgdjjiilkfgaa.toU (r.fst.fst, r.fst.snd.fst, r.fst.snd.snd.fst, r.fst.snd.snd.snd.fst, r.fst.snd.snd.snd.snd.fst, r.fst.snd.snd.snd.snd.snd.fst, r.fst.snd.snd.snd.snd.snd.snd.fst, r.fst.snd.snd.snd.snd.snd.snd.snd.fst, r.fst.snd.snd.snd.snd.snd.snd.snd.snd.fst, r.fst.snd.snd.snd.snd.snd.snd.snd.snd.snd.fst, r.fst.snd.snd.snd.snd.snd.snd.snd.snd.snd.snd.fst, r.fst.snd.snd.snd.snd.snd.snd.snd.snd.snd.snd.snd.fst, r.fst.snd.snd.snd.snd.snd.snd.snd.snd.snd.snd.snd.snd.fst, Int.tmod r.fst.snd.snd.snd.snd.snd.snd.snd.snd.snd.snd.snd.snd.snd.fst (1000 : Int), Int.tmod r.fst.snd.snd.snd.snd.snd.snd.snd.snd.snd.snd.snd.snd.snd.snd.fst (1000 : Int), r.fst.snd.snd.snd.snd.snd.snd.snd.snd.snd.snd.snd.snd.snd.snd.snd)) = Bool.true ∧ (Go.Vc.gx [] r_2.fst p_1.snd.snd.fst).length ≤ (24 : Nat) ∧ (-1000 : Int) ≤ (Go.Proofs.Ytopgdjjiilkfgaa.toU (r.fst.fst, r.fst.snd.fst, r.fst.snd.snd.fst, r.fst.snd.snd.snd.fst, r.fst.snd.snd.snd.snd.fst, r.fst.snd.snd.snd.snd.snd.fst, r.fst.snd.snd.snd.snd.snd.snd.fst, r.fst.snd.snd.snd.snd.snd.snd.snd.fst, r.fst.snd.snd.snd.snd.snd.snd.snd.snd.fst, r.fst.snd.snd.snd.snd.snd.snd.snd.snd.snd.fst, r.fst.snd.snd.snd.snd.snd.snd.snd.snd.snd.snd.fst, r.fst.snd.snd.snd.snd.snd.snd.snd.snd.snd.snd.snd.fst, r.fst.snd.snd.snd.snd.snd.snd.snd.snd.snd.snd.snd.snd.fst, Int.tmod r.fst.snd.snd.snd.snd.snd.snd.snd.snd.snd.snd.snd.snd.snd.fst (1000 : Int), Int.tmod r.fst.snd.snd.snd.snd.snd.snd.snd.snd.snd.snd.snd.snd.snd.snd.fst (1000 : Int), r.fst.snd.snd.snd.snd.snd.snd.snd.snd.snd.snd.snd.snd.snd.snd.snd)).hc ∧ (Go.Proofs.Ytopgdjjiilkfgaa.toU (r.fst.fst, r.fst.snd.fst, r.fst.snd.snd.fst, r.fst.snd.snd.snd.fst, r.fst.snd.snd.snd.snd.fst, r.fst.snd.snd.snd.snd.snd.fst, r.fst.snd.snd.snd.snd.snd.snd.fst, r.fst.snd.snd.snd.snd.snd.snd.snd.fst, r.fst.snd.snd.snd.snd.snd.snd.snd.snd.fst, r.fst.snd.snd.snd.snd.snd.snd.snd.snd.snd.fst, r.fst.snd.snd.snd.snd.snd.snd.snd.snd.snd.snd.fst, r.fst.snd.snd.snd.snd.snd.snd.snd.snd.snd.snd.snd.fst, r.fst.snd.snd.snd.snd.snd.snd.snd.snd.snd.snd.snd.snd.fst, Int.tmod r.fst.snd.snd.snd.snd.snd.snd.snd.snd.snd.snd.snd.snd.snd.fst (1000 : Int), Int.tmod r.fst.snd.snd.snd.snd.snd.snd.snd.snd.snd.snd.snd.snd.snd.snd.fst (1000 : Int), r.fst.snd.snd.snd.snd.snd.snd.snd.snd.snd.snd.snd.snd.snd.snd.snd)).hc ≤ (1000 : Int) ∧ (-1000 : Int) ≤ (Go.Proofs.Ytopgdjjiilkfgaa.toU (r.fst.fst, r.fst.snd.fst, r.fst.snd.snd.fst, r.fst.snd.snd.snd.fst, r.fst.snd.snd.snd.snd.fst, r.fst.snd.snd.snd.snd.snd.fst, r.fst.snd.snd.snd.snd.snd.snd.fst, r.fst.snd.snd.snd.snd.snd.snd.snd.fst, r.fst.snd.snd.snd.snd.snd.snd.snd.snd.fst, r.fst.snd.snd.snd.snd.snd.snd.snd.snd.snd.fst, r.fst.snd.snd.snd.snd.snd.snd.snd.snd.snd.snd.fst, r.fst.snd.snd.snd.snd.snd.snd.snd.snd.snd.snd.snd.fst, r.fst.snd.snd.snd.snd.snd.snd.snd.snd.snd.snd.snd.snd.fst, Int.tmod r.fst.snd.snd.snd.snd.snd.snd.snd.snd.snd.snd.snd.snd.snd.fst (1000 : Int), Int.tmod r.fst.snd.snd.snd.snd.snd.snd.snd.snd.snd.snd.snd.snd.snd.snd.fst (1000 : Int), r.fst.snd.snd.snd.snd.snd.snd.snd.snd.snd.snd.snd.snd.snd.snd.snd)).cc ∧ (Go.Proofs.Ytopgdjjiilkfgaa.toU (r.fst.fst, r.fst.snd.fst, r.fst.snd.snd.fst, r.fst.snd.snd.snd.fst, r.fst.snd.snd.snd.snd.fst, r.fst.snd.snd.snd.snd.snd.fst, r.fst.snd.snd.snd.snd.snd.snd.fst, r.fst.snd.snd.snd.snd.snd.snd.snd.fst, r.fst.snd.snd.snd.snd.snd.snd.snd.snd.fst, r.fst.snd.snd.snd.snd.snd.snd.snd.snd.snd.fst, r.fst.snd.snd.snd.snd.snd.snd.snd.snd.snd.snd.fst, r.fst.snd.snd.snd.snd.snd.snd.snd.snd.snd.snd.snd.fst, r.fst.snd.snd.snd.snd.snd.snd.snd.snd.snd.snd.snd.snd.fst, Int.tmod r.fst.snd.snd.snd.snd.snd.snd.snd.snd.snd.snd.snd.snd.snd.fst (1000 : Int), Int.tmod r.fst.snd.snd.snd.snd.snd.snd.snd.snd.snd.snd.snd.snd.snd.snd.fst (1000 : Int), r.fst.snd.snd.snd.snd.snd.snd.snd.snd.snd.snd.snd.snd.snd.snd.snd)).cc ≤ (1000 : Int) ∧ (Go.Proofs.Ytopgdjjiilkfgaa.runTo (Go.Proofs.Ytopgdjjiilkfgaa.toU (r.fst.fst, r.fst.snd.fst, r.fst.snd.snd.fst, r.fst.snd.snd.snd.fst, r.fst.snd.snd.snd.snd.fst, r.fst.snd.snd.snd.snd.snd.fst, r.fst.snd.snd.snd.snd.snd.snd.fst, r.fst.snd.snd.snd.snd.snd.snd.snd.fst, r.fst.snd.snd.snd.snd.snd.snd.snd.snd.fst, r.fst.snd.snd.snd.snd.snd.snd.snd.snd.snd.fst, r.fst.snd.snd.snd.snd.snd.snd.snd.snd.snd.snd.fst, r.fst.snd.snd.snd.snd.snd.snd.snd.snd.snd.snd.snd.fst, r.fst.snd.snd.snd.snd.snd.snd.snd.snd.snd.snd.snd.snd.fst, Int.tmod r.fst.snd.snd.snd.snd.snd.snd.snd.snd.snd.snd.snd.snd.snd.fst (1000 : Int), Int.tmod r.fst.snd.snd.snd.snd.snd.snd.snd.snd.snd.snd.snd.snd.snd.snd.fst (1000 : Int), r.fst.snd.snd.snd.snd.snd.snd.snd.snd.snd.snd.snd.snd.snd.snd.snd)) (Go.Proofs.Ytopgdjjiilkfgaa.awOf (r.fst.fst, r.fst.snd.fst, r.fst.snd.snd.fst, r.fst.snd.snd.snd.fst, r.fst.snd.snd.snd.snd.fst, r.fst.snd.snd.snd.snd.snd.fst, r.fst.snd.snd.snd.snd.snd.snd.fst, r.fst.snd.snd.snd.snd.snd.snd.snd.fst, r.fst.snd.snd.snd.snd.snd.snd.snd.snd.fst, r.fst.snd.snd.snd.snd.snd.snd.snd.snd.snd.fst, r.fst.snd.snd.snd.snd.snd.snd.snd.snd.snd.snd.fst, r.fst.snd.snd.snd.snd.snd.snd.snd.snd.snd.snd.snd.fst, r.fst.snd.snd.snd.snd.snd.snd.snd.snd.snd.snd.snd.snd.fst, Int.tmod r.fst.snd.snd.snd.snd.snd.snd.snd.snd.snd.snd.snd.snd.snd.fst (1000 : Int), Int.tmod r.fst.snd.snd.snd.snd.snd.snd.snd.snd.snd.snd.snd.snd.snd.snd.fst (1000 : Int), r.fst.snd.snd.snd.snd.snd.snd.snd.snd.snd.snd.snd.snd.snd.snd.snd)) (Go.Vc.gx [] r_2.fst p_1.snd.snd.fst) (Go.Vc.gx [] r_2.fst p_1.snd.snd.fst).length).isSome = Bool.true) ∧ ∀ (r_5 : Int × Unit), (Go.IntKind.i64.min ≤ r_5.fst ∧ r_5.fst ≤ Go.IntKind.i64.max) ∧ True → (∀ (p : List Go.Proofs.Ytopgdjjiilkfgaa.St × Go.Proofs.Ytopgdjjiilkfgaa.St), Go.Proofs.Ytopgdjjiilkfgaa.runTo (Go.Proofs.Ytopgdjjiilkfgaa.toU (r.fst.fst, r.fst.snd.fst, r.fst.snd.snd.fst, r.fst.snd.snd.snd.fst, r.fst.snd.snd.snd.snd.fst, r.fst.snd.snd.snd.snd.snd.fst, r.fst.snd.snd.snd.snd.snd.snd.fst, r.fst.snd.snd.snd.snd.snd.snd.snd.fst, r.fst.snd.snd.snd.snd.snd.snd.snd.snd.fst, r.fst.snd.snd.snd.snd.snd.snd.snd.snd.snd.fst, r.fst.snd.snd.snd.snd.snd.snd.snd.snd.snd.snd.fst, r.fst.snd.snd.snd.snd.snd.snd.snd.snd.snd.snd.snd.fst, r.fst.snd.snd.snd.snd.snd.snd.snd.snd.snd.snd.snd.snd.fst, Int.tmod r.fst.snd.snd.snd.snd.snd.snd.snd.snd.snd.snd.snd.snd.snd.fst (1000 : Int), Int.tmod r.fst.snd.snd.snd.snd.snd.snd.snd.snd.snd.snd.snd.snd.snd.snd.fst (1000 : Int), r.fst.snd.snd.snd.snd.snd.snd.snd.snd.snd.snd.snd.snd.snd.snd.snd)) (Go.Proofs.Ytopgdjjiilkfgaa.awOf (r.fst.fst, r.fst.snd.fst, r.fst.snd.snd.fst, r.fst.snd.snd.snd.fst, r.fst.snd.snd.snd.snd.fst, r.fst.snd.snd.snd.snd.snd.fst, r.fst.snd.snd.snd.snd.snd.snd.fst, r.fst.snd.snd.snd.snd.snd.snd.snd.fst, r.fst.snd.snd.snd.snd.snd.snd.snd.snd.fst, r.fst.snd.snd.snd.snd.snd.snd.snd.snd.snd.fst, r.fst.snd.snd.snd.snd.snd.snd.snd.snd.snd.snd.fst, r.fst.snd.snd.snd.snd.snd.snd.snd.snd.snd.snd.snd.fst, r.fst.snd.snd.snd.snd.snd.snd.snd.snd.snd.snd.snd.snd.fst, Int.tmod r.fst.snd.snd.snd.snd.snd.snd.snd.snd.snd.snd.snd.snd.snd.fst (1000 : Int), Int.tmod r.fst.snd.snd.snd.snd.snd.snd.snd.snd.snd.snd.snd.snd.snd.snd.fst (1000 : Int), r.fst.snd.snd.snd.snd.snd.snd.snd.snd.snd.snd.snd.snd.snd.snd.snd)) (Go.Vc.gx [] r_2.fst p_1.snd.snd.fst) (Go.Vc.gx [] r_2.fst p_1.snd.snd.fst).length = Option.some p → r_5.fst = Go.Proofs.Ytopgdjjiilkfgaa.costsF (Go.Proofs.Ytopgdjjiilkfgaa.toU (r.fst.fst, r.fst.snd.fst, r.fst.snd.snd.fst, r.fst.snd.snd.snd.fst, r.fst.snd.snd.snd.snd.fst, r.fst.snd.snd.snd.snd.snd.fst, r.fst.snd.snd.snd.snd.snd.snd.fst, r.fst.snd.snd.snd.snd.snd.snd.snd.fst, r.fst.snd.snd.snd.snd.snd.snd.snd.snd.fst, r.fst.snd.snd.snd.snd.snd.snd.snd.snd.snd.fst, r.fst.snd.snd.snd.snd.snd.snd.snd.snd.snd.snd.fst, r.fst.snd.snd.snd.snd.snd.snd.snd.snd.snd.snd.snd.fst, r.fst.snd.snd.snd.snd.snd.snd.snd.snd.snd.snd.snd.snd.fst, Int.tmod r.fst.snd.snd.snd.snd.snd.snd.snd.snd.snd.snd.snd.snd.snd.fst (1000 : Int), Int.tmod r.fst.snd.snd.snd.snd.snd.snd.snd.snd.snd.snd.snd.snd.snd.snd.fst (1000 : Int), r.fst.snd.snd.snd.snd.snd.snd.snd.snd.snd.snd.snd.snd.snd.snd.snd)) (Go.Proofs.Ytopgdjjiilkfgaa.initF (Go.Proofs.Ytopgdjjiilkfgaa.toU (r.fst.fst, r.fst.snd.fst, r.fst.snd.snd.fst, r.fst.snd.snd.snd.fst, r.fst.snd.snd.snd.snd.fst, r.fst.snd.snd.snd.snd.snd.fst, r.fst.snd.snd.snd.snd.snd.snd.fst, r.fst.snd.snd.snd.snd.snd.snd.snd.fst, r.fst.snd.snd.snd.snd.snd.snd.snd.snd.fst, r.fst.snd.snd.snd.snd.snd.snd.snd.snd.snd.fst, r.fst.snd.snd.snd.snd.snd.snd.snd.snd.snd.snd.fst, r.fst.snd.snd.snd.snd.snd.snd.snd.snd.snd.snd.snd.fst, r.fst.snd.snd.snd.snd.snd.snd.snd.snd.snd.snd.snd.snd.fst, Int.tmod r.fst.snd.snd.snd.snd.snd.snd.snd.snd.snd.snd.snd.snd.snd.fst (1000 : Int), Int.tmod r.fst.snd.snd.snd.snd.snd.snd.snd.snd.snd.snd.snd.snd.snd.snd.fst (1000 : Int), r.fst.snd.snd.snd.snd.snd.snd.snd.snd.snd.snd.snd.snd.snd.snd.snd))) p.fst) → ∃ (I_1 : Int × Int × Unit → Prop), ∃ (μ_1 : Int × Int × Unit → Nat), I_1 (p_1.snd.fst, (0 : Int), ()) ∧ ∀ (p_2 : Int × Int × Unit), (Go.IntKind.i64.min ≤ p_2.fst ∧ p_2.fst ≤ Go.IntKind.i64.max) ∧ (Go.IntKind.i64.min ≤ p_2.snd.fst ∧ p_2.snd.fst ≤ Go.IntKind.i64.max) ∧ True → I_1 p_2 → ((0 : Int) ≤ p_1.snd.snd.fst ∧ p_1.snd.snd.fst < (↑(List.length p.fst) : Int)) ∧ (Decidable.decide (p_2.snd.fst < (↑(Go.Vc.gx [] p.fst p_1.snd.snd.fst).length : Int)) = Bool.true → ∃ (J : Int × Unit → Prop), (((0 : Int) ≤ p_1.snd.snd.fst ∧ p_1.snd.snd.fst < (↑(List.length r_2.fst) : Int)) ∧ ((0 : Int) ≤ p_1.snd.snd.fst ∧ p_1.snd.snd.fst < (↑(List.length p.fst) : Int)) ∧ (Decidable.decide ((↑(Go.Vc.gx [] r_2.fst p_1.snd.snd.fst).length : Int) ≠ (↑(Go.Vc.gx [] p.fst p_1.snd.snd.fst).length : Int)) = Bool.true → Bool.false = Bool.true) ∧ (Decidable.decide ((↑(Go.Vc.gx [] r_2.fst p_1.snd.snd.fst).length : Int) ≠ (↑(Go.Vc.gx [] p.fst p_1.snd.snd.fst).length : Int)) = Bool.false → ∃ (J_1 : Int × Unit → Prop), (((0 : Int) ≤ p_1.snd.snd.fst ∧ p_1.snd.snd.fst < (↑(List.length p.fst) : Int)) ∧ ((0 : Int) ≤ p_2.snd.fst ∧ p_2.snd.fst < (↑(Go.Vc.gx [] p.fst p_1.snd.snd.fst).length : Int)) ∧ (Decidable.decide (Go.Vc.gx (0 : Int) (Go.Vc.gx [] p.fst p_1.snd.snd.fst) p_2.snd.fst = (2 : Int)) = Bool.true → J_1 (Go.IntKind.i64.wrap (p_2.fst + (1 : Int)), ())) ∧ (Decidable.decide (Go.Vc.gx (0 : Int) (Go.Vc.gx [] p.fst p_1.snd.snd.fst) p_2.snd.fst = (2 : Int)) = Bool.false → J_1 (p_2.fst, ()))) ∧ ∀ (p : Int × Unit), (Go.IntKind.i64.min ≤ p.fst ∧ p.fst ≤ Go.IntKind.i64.max) ∧ True → J_1 p → ((0 : Int) ≤ p_1.snd.snd.fst ∧ p_1.snd.snd.fst < (↑(List.length r_2.fst) : Int)) ∧ ((0 : Int) ≤ p_2.snd.fst ∧ p_2.snd.fst < (↑(Go.Vc.gx [] r_2.fst p_1.snd.snd.fst).length : Int)) ∧ (Decidable.decide (Go.Vc.gx (0 : Int) (Go.Vc.gx [] r_2.fst p_1.snd.snd.fst) p_2.snd.fst = (2 : Int)) = Bool.true → J (Go.IntKind.i64.wrap (p.fst - (1 : Int)), ())) ∧ (Decidable.decide (Go.Vc.gx (0 : Int) (Go.Vc.gx [] r_2.fst p_1.snd.snd.fst) p_2.snd.fst = (2 : Int)) = Bool.false → J p))) ∧ ∀ (p : Int × Unit), (Go.IntKind.i64.min ≤ p.fst ∧ p.fst ≤ Go.IntKind.i64.max) ∧ True → J p → I_1 (p.fst, Go.IntKind.i64.wrap (p_2.snd.fst + (1 : Int)), ()) ∧ μ_1 (p.fst, Go.IntKind.i64.wrap (p_2.snd.fst + (1 : Int)), ()) < μ_1 p_2) ∧ (Decidable.decide (p_2.snd.fst < (↑(Go.Vc.gx [] p.fst p_1.snd.snd.fst).length : Int)) = Bool.false → I (Go.IntKind.i64.wrap (p_1.fst + Go.IntKind.i64.wrap (r_4.fst - r_5.fst)), p_2.fst, Go.IntKind.i64.wrap (p_1.snd.snd.fst + (1 : Int)), ()) ∧ μ (Go.IntKind.i64.wrap (p_1.fst + Go.IntKind.i64.wrap (r_4.fst - r_5.fst)), p_2.fst, Go.IntKind.i64.wrap (p_1.snd.snd.fst + (1 : Int)), ()) < μ p_1)) ∧ (Decidable.decide (p_1.snd.snd.fst < (↑(List.length p.fst) : Int)) = Bool.false → Go.Vc.sel (Decidable.decide (p_1.fst = (0 : Int))) (Decidable.decide (p_1.snd.fst = (0 : Int))) Bool.false = Bool.true))))
theorem vc_law34_SymmetryCosts_eq (x : dens s_law34_SymmetryCosts.args) : semF ⟨Try.prog, tys⟩ sp_law34_SymmetryCosts an_law34_SymmetryCosts s_law34_SymmetryCosts Try.f4.results.toList (Try.f4.body.getD .skip) x = vc_law34_SymmetryCosts x := by kernel_rfl
theorem m_law34_SymmetryCosts (hsp : SpOk Try.prog sp_law34_SymmetryCosts) (h : ∀ x, awf s_law34_SymmetryCosts.args x → s_law34_SymmetryCosts.pre x → vc_law34_SymmetryCosts x) : Meets Try.prog 4 s_law34_SymmetryCosts := meets_vc (cx := ⟨Try.prog, tys⟩) (sp := sp_law34_SymmetryCosts) (an := an_law34_SymmetryCosts) (s := s_law34_SymmetryCosts) (fn := Try.f4) (c := Try.f4.body.getD .skip) Try.func4 (by kernel_rfl) (Nat.le_of_ble_eq_true (by kernel_rfl)) (by kernel_rfl) tys_ok hsp vc_law34_SymmetryCosts_eq h
end Go.Proofs.Ytopgdjjiilkfgaa
/- Equal merges: the same transitions. -/
namespace Go.Proofs.Ytopgdjjiilkfgaa
open Go.Vc Go.Gw
theorem merge_count {trs : List Key} {l : List Arc} (h : isMerge trs l) (k : Key) (c : Nat) (hc : 1 ≤ c) : trs.count k = c ↔ (k.1, k.2.1, k.2.2, (c : Int)) ∈ l := by
  rw [h.2]
  change _ ↔ ((c : Int) = (trs.count k : Int) ∧ (1 : Int) ≤ (c : Int))
  omega
theorem merge_perm {trs trs' : List Key} {l : List Arc} (h : isMerge trs l) (h' : isMerge trs' l) : trs.Perm trs' := by
  rw [List.perm_iff_count]
  intro k
  rcases Nat.eq_zero_or_pos (trs.count k) with h0 | h0
  · rcases Nat.eq_zero_or_pos (trs'.count k) with h1 | h1
    · rw [h0, h1]
    · have := (merge_count h k _ h1).2 ((merge_count h' k _ h1).1 rfl)
      exact this
  · exact ((merge_count h' k _ h0).2 ((merge_count h k _ h0).1 rfl)).symm
end Go.Proofs.Ytopgdjjiilkfgaa
/- The order of the reference and the order of keys. -/
namespace Go.Proofs.Ytopgdjjiilkfgaa
open Go.Vc Go.Gw
theorem pos_lt {u : U} {s t : St} (hs : s ∈ statesF u) (ht : t ∈ statesF u) (h : posF u s.1 s.2 < posF u t.1 t.2) : stLt s t := by
  obtain ⟨i, hi⟩ := List.mem_iff_getElem?.1 hs
  obtain ⟨j, hj⟩ := List.mem_iff_getElem?.1 ht
  rw [pos_at hi, pos_at hj] at h
  obtain ⟨hi1, hi2⟩ := List.getElem?_eq_some_iff.1 hi
  obtain ⟨hj1, hj2⟩ := List.getElem?_eq_some_iff.1 hj
  have := List.pairwise_iff_getElem.1 (states_sorted u) i j hi1 hj1 (by omega)
  rw [hi2, hj2] at this
  exact this
theorem foll_mem {u : U} {s t : St} (h : follF u s.1 s.2 t = true) : t ∈ nextF u s.1 s.2 := by
  unfold follF at h
  obtain ⟨x, hx, he⟩ := List.any_eq_true.1 h
  have he := of_decide_eq_true he
  have : x = t := Prod.ext he.1 he.2
  rw [← this]; exact hx
theorem foll_src {u : U} {s t : St} (h : follF u s.1 s.2 t = true) : s ∈ statesF u := by
  rw [mem_states]
  have h := foll_mem h
  unfold nextF at h
  split at h
  · cases h
  · omega
theorem before_key {u : U} {a b : Arc} (ha : follF u a.2.1.1 a.2.1.2 a.2.2.1 = true) (hb : follF u b.2.1.1 b.2.1.2 b.2.2.1 = true) (h : beforeB u a b = true) : keyLt (akey a) (akey b) := by
  unfold beforeB at h
  unfold keyLt akey
  simp only
  split at h
  · exact .inl (of_decide_eq_true h)
  · rename_i h1
    have h1 := Decidable.not_not.mp h1
    split at h
    · exact .inr ⟨h1, .inl (pos_lt (foll_src ha) (foll_src hb) (of_decide_eq_true h))⟩
    · rename_i h2
      have h2 := Decidable.not_not.mp h2
      exact .inr ⟨h1, .inr ⟨h2, pos_lt (next_states (foll_mem ha)) (next_states (foll_mem hb)) (of_decide_eq_true h)⟩⟩
end Go.Proofs.Ytopgdjjiilkfgaa
/- Arcs that follow each other in order are sorted. -/
namespace Go.Proofs.Ytopgdjjiilkfgaa
open Go.Vc Go.Gw
theorem chain_sorted {R : Arc → Arc → Prop} (tr : ∀ a b c, R a b → R b c → R a c) : ∀ {l : List Arc}, (∀ i a b, l[i]? = some a → l[i + 1]? = some b → R a b) → l.Pairwise R
  | [], _ => List.Pairwise.nil
  | [a], _ => List.pairwise_singleton ..
  | a :: b :: l, h => by
    have hab : R a b := h 0 a b rfl rfl
    have ih : (b :: l).Pairwise R := chain_sorted (R := R) tr fun i x y hx hy => h (i + 1) x y hx hy
    rw [List.pairwise_cons]
    refine ⟨fun x hx => ?_, ih⟩
    rcases List.mem_cons.1 hx with rfl | hx
    · exact hab
    · exact tr a b x hab ((List.pairwise_cons.1 ih).1 x hx)
theorem flow_sorted {u : U} {aw : List Int} {hours count : Int} {l : List Arc} (h : flowP u aw hours count l) : l.Pairwise fun a b => keyLt (akey a) (akey b) := by
  refine chain_sorted (R := fun a b => keyLt (akey a) (akey b)) (fun _ _ _ h1 h2 => keyLt_trans h1 h2) fun i a b ha hb => ?_
  have h1 := h.1 a (List.mem_of_getElem? ha)
  have h2 := h.1 b (List.mem_of_getElem? hb)
  exact before_key h1.2.2.2.2.1 h2.2.2.2.2.1 (h.2.1 i a b ha hb)
end Go.Proofs.Ytopgdjjiilkfgaa
/- Sums over a merge are counts of transitions. -/
namespace Go.Proofs.Ytopgdjjiilkfgaa
open Go.Vc Go.Gw
theorem sum_one (q : Key → Bool) (t : Key) : ∀ {ks : List Key}, ks.Nodup → (ks.map fun k => if q k = true ∧ k = t then (1 : Int) else 0).sum = if q t = true ∧ t ∈ ks then 1 else 0
  | [], _ => by simp
  | k :: ks, h => by
    rw [List.nodup_cons] at h
    have ih := sum_one q t h.2
    rw [List.map_cons, List.sum_cons, ih]
    by_cases hk : k = t
    · subst hk
      by_cases hq : q k = true
      · rw [if_pos ⟨hq, rfl⟩, if_neg (fun hh => h.1 hh.2), if_pos ⟨hq, List.mem_cons_self⟩]; rfl
      · rw [if_neg (fun hh => hq hh.1), if_neg (fun hh => hq hh.1), if_neg (fun hh => hq hh.1)]; rfl
    · rw [if_neg (fun hh => hk hh.2)]
      have : (q t = true ∧ t ∈ k :: ks) ↔ (q t = true ∧ t ∈ ks) := by
        rw [List.mem_cons]
        exact ⟨fun hh => ⟨hh.1, hh.2.resolve_left (fun e => hk e.symm)⟩, fun hh => ⟨hh.1, .inr hh.2⟩⟩
      simp only [this, Int.zero_add]
theorem sum_add {α : Type} (f g : α → Int) : ∀ l : List α, (l.map fun x => f x + g x).sum = (l.map f).sum + (l.map g).sum
  | [] => rfl
  | x :: l => by simp only [List.map_cons, List.sum_cons, sum_add f g l]; omega
theorem sum_count (q : Key → Bool) {ks : List Key} (hn : ks.Nodup) : ∀ {trs : List Key}, (∀ t ∈ trs, t ∈ ks) → (ks.map fun k => if q k = true then (trs.count k : Int) else 0).sum = (trs.countP q : Int)
  | [], _ => by
    have : ∀ l : List Key, (l.map fun k => if q k = true then (([] : List Key).count k : Int) else 0).sum = 0 := by
      intro l
      induction l with
      | nil => rfl
      | cons k l ih => rw [List.map_cons, List.sum_cons, ih]; simp
    rw [this]; rfl
  | t :: trs, h => by
    have ih := sum_count q hn (fun x hx => h x (List.mem_cons_of_mem _ hx))
    have h1 := sum_one q t hn
    have e : (fun k => if q k = true then ((t :: trs).count k : Int) else 0) = fun k => (if q k = true then (trs.count k : Int) else 0) + (if q k = true ∧ k = t then (1 : Int) else 0) := by
      funext k
      rw [List.count_cons]
      by_cases hq : q k = true
      · by_cases hk : k = t
        · subst hk; simp [hq]
        · have : ¬ (t == k) = true := fun hh => hk (eq_of_beq hh).symm
          rw [if_neg this, if_pos hq, if_pos hq, if_neg (fun hh => hk hh.2)]; simp
      · rw [if_neg hq, if_neg hq, if_neg (fun hh => hq hh.1)]; rfl
    rw [e, sum_add, ih, h1, List.countP_cons]
    have ht := h t List.mem_cons_self
    by_cases hq : q t = true
    · rw [if_pos ⟨hq, ht⟩, if_pos hq]; omega
    · rw [if_neg (fun hh => hq hh.1), if_neg hq]; omega
theorem merge_sum {trs : List Key} {l : List Arc} (h : isMerge trs l) (q : Key → Bool) : (l.map fun a => if q (akey a) = true then acnt a else 0).sum = (trs.countP q : Int) := by
  have hn : (l.map akey).Nodup := by
    rw [List.nodup_iff_pairwise_ne, List.pairwise_map]
    exact h.1.imp fun hk e => by rw [e] at hk; exact keyLt_irr _ hk
  have hall : ∀ t ∈ trs, t ∈ l.map akey := fun t ht => by
    have := (merge_count h t (trs.count t) (List.count_pos_iff.2 ht)).1 rfl
    exact List.mem_map.2 ⟨_, this, rfl⟩
  rw [← sum_count q hn hall, List.map_map]
  congr 1
  apply List.map_congr_left
  intro a ha
  simp only [Function.comp_apply]
  rw [((h.2 a).1 ha).1]
end Go.Proofs.Ytopgdjjiilkfgaa
/- Transitions of one hour in a walk. -/
namespace Go.Proofs.Ytopgdjjiilkfgaa
open Go.Vc Go.Gw
theorem countP_trF (p : St → St → Bool) : ∀ (w : List St) (s0 : St) (h d : Nat), (trF s0 h w).countP (fun k => decide (k.1 = ((h + d : Nat) : Int)) && p k.2.1 k.2.2) = if d < w.length ∧ p (prevAt s0 w d) (w.getD d (0, 0)) = true then 1 else 0
  | [], s0, h, d => by simp [trF]
  | a :: w, s0, h, d => by
    simp only [trF, List.countP_cons]
    cases d with
    | zero =>
      have h0 : (trF a (h + 1) w).countP (fun k => decide (k.1 = ((h + 0 : Nat) : Int)) && p k.2.1 k.2.2) = 0 := by
        rw [List.countP_eq_zero]
        intro k hk
        have := trF_hour hk
        rw [Bool.and_eq_true, decide_eq_true_eq]
        omega
      rw [h0, Nat.zero_add]
      simp [prevAt]
    | succ d =>
      have ih := countP_trF p w a (h + 1) d
      rw [show h + 1 + d = h + (d + 1) by omega] at ih
      rw [ih]
      have hne : ¬ (((h : Nat) : Int) = ((h + (d + 1) : Nat) : Int)) := by omega
      have e : prevAt s0 (a :: w) (d + 1) = prevAt a w d := by
        unfold prevAt
        cases d with
        | zero => simp
        | succ d => simp
      rw [e]
      simp only [decide_eq_false hne, Bool.false_and, List.length_cons, List.getD_cons_succ]
      simp
end Go.Proofs.Ytopgdjjiilkfgaa
/- One hour of unmerging, on the units as a list: each unit has a state before and, once moved, a state after. -/
namespace Go.Proofs.Ytopgdjjiilkfgaa
open Go.Vc Go.Gw
abbrev Zu := St × Option St
def bi (b : Bool) : Int := if b = true then 1 else 0
/-- The units that take an arc from s to t, at most 'left'. -/
def asg (s t : St) : Int → List Zu → Int × List Zu
  | left, [] => (left, [])
  | left, z :: r => if 0 < left ∧ z.2 = none ∧ z.1 = s then ((asg s t (left - 1) r).1, (z.1, some t) :: (asg s t (left - 1) r).2) else ((asg s t left r).1, z :: (asg s t left r).2)
theorem asg_fst (s t : St) : ∀ (r : List Zu) (left : Int), (asg s t left r).2.map (·.1) = r.map (·.1)
  | [], _ => rfl
  | z :: r, left => by
    simp only [asg]
    split
    · simp only [List.map_cons, asg_fst s t r]
    · simp only [List.map_cons, asg_fst s t r]
theorem asg_spec (s t : St) : ∀ (r : List Zu) (left : Int), 0 ≤ left → left ≤ (r.countP (fun z => decide (z = (s, none))) : Int) →
    (asg s t left r).1 = 0 ∧ ∀ p : Zu → Bool, ((asg s t left r).2.countP p : Int) = (r.countP p : Int) + left * (bi (p (s, some t)) - bi (p (s, none)))
  | [], left, h0, h1 => by
    have : left = 0 := by simp at h1; omega
    subst this
    simp [asg]
  | z :: r, left, h0, h1 => by
    have hz : decide (z = (s, none)) = true ↔ z.2 = none ∧ z.1 = s := by
      rw [decide_eq_true_eq]
      constructor
      · rintro rfl; exact ⟨rfl, rfl⟩
      · rintro ⟨h, h'⟩; exact Prod.ext h' h
    simp only [asg]
    rw [List.countP_cons] at h1
    by_cases hc : 0 < left ∧ z.2 = none ∧ z.1 = s
    · rw [if_pos hc]
      rw [if_pos (hz.2 hc.2)] at h1
      obtain ⟨i1, i2⟩ := asg_spec s t r (left - 1) (by omega) (by omega)
      refine ⟨i1, fun p => ?_⟩
      have ez : z = (s, none) := Prod.ext hc.2.2 hc.2.1
      simp only [List.countP_cons]
      have h2 := i2 p
      have hm : left * (bi (p (s, some t)) - bi (p (s, none))) = (left - 1) * (bi (p (s, some t)) - bi (p (s, none))) + (bi (p (s, some t)) - bi (p (s, none))) := by
        rw [Int.sub_mul, Int.one_mul]; omega
      rw [hm, ez]
      simp only [bi] at h2 ⊢
      push_cast
      rw [h2]
      split <;> split <;> simp <;> omega
    · rw [if_neg hc]
      have h3 : left ≤ (r.countP (fun z => decide (z = (s, none))) : Int) := by
        by_cases hz' : decide (z = (s, none)) = true
        · have : ¬ 0 < left := fun hl => hc ⟨hl, hz.1 hz'⟩
          omega
        · rw [if_neg hz'] at h1; omega
      obtain ⟨i1, i2⟩ := asg_spec s t r left h0 h3
      refine ⟨i1, fun p => ?_⟩
      simp only [List.countP_cons]
      have h2 := i2 p
      push_cast
      rw [h2]
      omega
/-- The arcs of an hour. -/
def asgAll (h : Int) : List Arc → List Zu → Bool × List Zu
  | [], Z => (true, Z)
  | a :: r, Z => if a.1 ≠ h then asgAll h r Z else if (asg a.2.1 a.2.2.1 (acnt a) Z).1 ≠ 0 then (false, (asg a.2.1 a.2.2.1 (acnt a) Z).2) else asgAll h r (asg a.2.1 a.2.2.1 (acnt a) Z).2
def outS' (l : List Arc) (h : Int) (s : St) : Int := (l.map fun a => if a.1 = h ∧ a.2.1 = s then acnt a else 0).sum
def pS (h : Int) (p : Zu → Bool) (l : List Arc) : Int := (l.map fun a => if a.1 = h then acnt a * (bi (p (a.2.1, some a.2.2.1)) - bi (p (a.2.1, none))) else 0).sum
theorem outS'_nn {h : Int} {s : St} : ∀ {l : List Arc}, (∀ a ∈ l, 1 ≤ acnt a) → 0 ≤ outS' l h s
  | [], _ => by simp [outS']
  | a :: l, hl => by
    have ih := outS'_nn (h := h) (s := s) (fun b hb => hl b (List.mem_cons_of_mem _ hb))
    have := hl a List.mem_cons_self
    unfold outS' at ih ⊢
    rw [List.map_cons, List.sum_cons]
    split <;> omega
theorem asgAll_spec (h : Int) : ∀ (l : List Arc) (Z : List Zu), (∀ a ∈ l, 1 ≤ acnt a) → (∀ s, (Z.countP (fun z => decide (z = (s, none))) : Int) = outS' l h s) →
    (asgAll h l Z).1 = true ∧ (asgAll h l Z).2.map (·.1) = Z.map (·.1) ∧ ∀ p : Zu → Bool, ((asgAll h l Z).2.countP p : Int) = (Z.countP p : Int) + pS h p l
  | [], Z, _, _ => by simp [asgAll, pS]
  | a :: l, Z, hl, hZ => by
    have hl' : ∀ b ∈ l, 1 ≤ acnt b := fun b hb => hl b (List.mem_cons_of_mem _ hb)
    have ha := hl a List.mem_cons_self
    have hcons : ∀ s, outS' (a :: l) h s = (if a.1 = h ∧ a.2.1 = s then acnt a else 0) + outS' l h s := fun s => by
      unfold outS'; rw [List.map_cons, List.sum_cons]
    have hpc : ∀ p, pS h p (a :: l) = (if a.1 = h then acnt a * (bi (p (a.2.1, some a.2.2.1)) - bi (p (a.2.1, none))) else 0) + pS h p l := fun p => by
      unfold pS; rw [List.map_cons, List.sum_cons]
    simp only [asgAll]
    by_cases hh : a.1 = h
    · rw [if_neg (fun e => e hh)]
      have hle : acnt a ≤ (Z.countP (fun z => decide (z = (a.2.1, none))) : Int) := by
        rw [hZ, hcons, if_pos ⟨hh, rfl⟩]
        have := outS'_nn (h := h) (s := a.2.1) hl'
        omega
      obtain ⟨i1, i2⟩ := asg_spec a.2.1 a.2.2.1 Z (acnt a) (by omega) hle
      rw [if_neg (fun e => e i1)]
      obtain ⟨j1, j2, j3⟩ := asgAll_spec h l (asg a.2.1 a.2.2.1 (acnt a) Z).2 hl' (fun s => by
        rw [i2, hZ, hcons]
        have e1 : decide (((a.2.1, some a.2.2.1) : Zu) = (s, none)) = false := by simp
        rw [e1]
        by_cases hs : a.2.1 = s
        · rw [if_pos ⟨hh, hs⟩, show decide (((a.2.1, none) : Zu) = (s, none)) = true by simp [hs]]
          simp only [bi]
          simp
          omega
        · rw [if_neg (fun e => hs e.2), show decide (((a.2.1, none) : Zu) = (s, none)) = false by simp [hs]]
          simp [bi])
      refine ⟨j1, by rw [j2, asg_fst], fun p => ?_⟩
      rw [j3, i2, hpc, if_pos hh]
      omega
    · rw [if_pos hh]
      obtain ⟨j1, j2, j3⟩ := asgAll_spec h l Z hl' (fun s => by rw [hZ, hcons, if_neg (fun e => hh e.1)]; omega)
      refine ⟨j1, j2, fun p => ?_⟩
      rw [j3, hpc, if_neg hh]
      omega
/-- The list after the hour: the states of the units, their kinds. -/
def zNow (z : Zu) : St := z.2.getD z.1
def zK (h : Nat) (z : Zu) (k : List Int) : List Int := match z.2 with
  | none => k
  | some t => k.set h t.1
structure ZR (h : Nat) (ks0 : List (List Int)) (Z : List Zu) (s : MS) : Prop where
  mv : s.moved = Z.map (·.2.isSome)
  nw : s.now = Z.map zNow
  ks : s.ks = Z.zipWith (zK h) ks0
  tot : s.total = (Z.countP (·.2.isSome) : Int)
theorem range_split (a b : Nat) : List.range (a + b) = List.range a ++ List.range' a b := by
  rw [List.range_eq_range', List.range_eq_range', ← List.range'_append]
  simp
theorem zip_at {h : Nat} {ks0 : List (List Int)} {P r : List Zu} {z : Zu} (hl : ks0.length = (P ++ z :: r).length) : ∃ k, ks0[P.length]? = some k ∧ (List.zipWith (zK h) (P ++ z :: r) ks0)[P.length]? = some (zK h z k) := by
  have hlt : P.length < ks0.length := by rw [hl]; simp
  refine ⟨ks0[P.length], List.getElem?_eq_getElem hlt, ?_⟩
  rw [List.getElem?_zipWith, List.getElem?_eq_getElem hlt]
  simp
theorem mv_asg (h : Nat) (a : Arc) (ks0 : List (List Int)) : ∀ (r P : List Zu) (s : MS), ks0.length = (P ++ r).length → ZR h ks0 (P ++ r) s →
    ((List.range' P.length r.length).foldl (mvStep h a) s).left = (asg a.2.1 a.2.2.1 s.left r).1 ∧ ZR h ks0 (P ++ (asg a.2.1 a.2.2.1 s.left r).2) ((List.range' P.length r.length).foldl (mvStep h a) s)
  | [], P, s, hl, hz => ⟨rfl, hz⟩
  | z :: r, P, s, hl, hz => by
    rw [List.length_cons, List.range'_succ, List.foldl_cons]
    have e1 : s.moved.getD P.length false = z.2.isSome := by
      rw [hz.mv, List.getD_eq_getElem?_getD]; simp
    have e2 : s.now.getD P.length (0, 0) = zNow z := by
      rw [hz.nw, List.getD_eq_getElem?_getD]; simp
    obtain ⟨k, hk1, hk2⟩ := zip_at (h := h) hl
    have e3 : s.ks.getD P.length [] = zK h z k := by
      rw [hz.ks, List.getD_eq_getElem?_getD, hk2]; rfl
    simp only [asg]
    by_cases hc : 0 < s.left ∧ z.2 = none ∧ z.1 = a.2.1
    · rw [if_pos hc]
      have hst : mvStep h a s P.length = ⟨s.left - 1, s.moved.set P.length true, s.now.set P.length a.2.2.1, s.ks.set P.length ((s.ks.getD P.length []).set h a.2.2.1.1), s.total + 1⟩ := by
        unfold mvStep
        rw [if_pos]
        rw [e1, e2]
        refine ⟨hc.1, by rw [hc.2.1]; rfl, ?_⟩
        unfold zNow; rw [hc.2.1]; exact hc.2.2
      rw [hst]
      have hz2 : ZR h ks0 ((P ++ [(z.1, some a.2.2.1)]) ++ r) ⟨s.left - 1, s.moved.set P.length true, s.now.set P.length a.2.2.1, s.ks.set P.length ((s.ks.getD P.length []).set h a.2.2.1.1), s.total + 1⟩ := by
        refine ⟨?_, ?_, ?_, ?_⟩
        · simp only [hz.mv]; simp
        · simp only [hz.nw]; simp [zNow]
        · simp only [e3]
          rw [hz.ks]
          apply List.ext_getElem?
          intro i
          rw [List.getElem?_set, List.getElem?_zipWith, List.getElem?_zipWith]
          rw [List.append_assoc, List.singleton_append]
          by_cases hi : P.length = i
          · subst hi
            have hlt : P.length < (List.zipWith (zK h) (P ++ z :: r) ks0).length := by
              rw [List.length_zipWith, hl]; simp
            rw [if_pos rfl, if_pos hlt, hk1]
            simp [zK, hc.2.1]
          · rw [if_neg hi]
            congr 1
            rcases Nat.lt_or_ge i P.length with h1 | h1
            · rw [List.getElem?_append_left h1, List.getElem?_append_left h1]
            · rw [List.getElem?_append_right h1, List.getElem?_append_right h1]
              obtain ⟨d, hd⟩ : ∃ d, i - P.length = d + 1 := ⟨i - P.length - 1, by omega⟩
              rw [hd]; rfl
        · simp only [hz.tot, List.countP_append, List.countP_cons, List.countP_nil, hc.2.1]
          simp
          omega
      have ih := mv_asg h a ks0 r (P ++ [(z.1, some a.2.2.1)]) _ (by rw [hl]; simp) hz2
      rw [List.length_append, List.length_singleton] at ih
      rw [List.append_assoc, List.singleton_append] at ih
      exact ih
    · rw [if_neg hc]
      have hst : mvStep h a s P.length = s := by
        unfold mvStep
        rw [if_neg]
        rw [e1, e2]
        rintro ⟨h1, h2, h3⟩
        have hn : z.2 = none := by cases hz2 : z.2 with
          | none => rfl
          | some t => rw [hz2] at h2; cases h2
        refine hc ⟨h1, hn, ?_⟩
        unfold zNow at h3; rw [hn] at h3; exact h3
      rw [hst]
      have ih := mv_asg h a ks0 r (P ++ [z]) s (by rw [hl]; simp) (by simpa using hz)
      rw [List.length_append, List.length_singleton] at ih
      rw [List.append_assoc, List.singleton_append] at ih
      exact ih
theorem asg_len (s t : St) (r : List Zu) (left : Int) : (asg s t left r).2.length = r.length := by
  have := congrArg List.length (asg_fst s t r left)
  simpa using this
theorem mvAll_asg (h : Nat) (ks0 : List (List Int)) : ∀ (l : List Arc) (Z : List Zu) (s : MS), ks0.length = Z.length → ZR h ks0 Z s →
    (mvAll h Z.length l s).1 = (asgAll h l Z).1 ∧ ZR h ks0 (asgAll h l Z).2 (mvAll h Z.length l s).2
  | [], Z, s, hl, hz => ⟨rfl, hz⟩
  | a :: l, Z, s, hl, hz => by
    simp only [mvAll, asgAll]
    split
    · exact mvAll_asg h ks0 l Z s hl hz
    · have h1 := mv_asg h a ks0 Z [] { s with left := acnt a } hl ⟨hz.mv, hz.nw, hz.ks, hz.tot⟩
      simp only [List.length_nil, List.nil_append, ← List.range_eq_range'] at h1
      unfold mvArc
      rw [h1.1]
      split
      · exact ⟨rfl, h1.2⟩
      · have ih := mvAll_asg h ks0 l (asg a.2.1 a.2.2.1 (acnt a) Z).2 _ (by rw [asg_len]; exact hl) h1.2
        rw [asg_len] at ih
        exact ih
theorem neg_sum : ∀ l : List Int, (l.map fun x => -x).sum = - l.sum
  | [] => rfl
  | x :: l => by simp only [List.map_cons, List.sum_cons, neg_sum l]; omega
/-- The move of an hour whose arcs leave each state as often as there are units in it. -/
theorem moveF_spec {h : Nat} {now : List St} {ks : List (List Int)} {arcs : List Arc} (hl : ks.length = now.length) (h1 : ∀ a ∈ arcs, 1 ≤ acnt a) (hf : ∀ s, (now.countP (fun x => decide (x = s)) : Int) = outS' arcs h s) :
    ∃ Z : List (St × St), Z.map (·.1) = now ∧ moveF h now ks arcs = (true, Z.map (·.2), Z.zipWith (fun z k => k.set h z.2.1) ks) ∧ ∀ p : St → St → Bool, (Z.countP (fun z => p z.1 z.2) : Int) = (arcs.map fun a => if a.1 = (h : Int) ∧ p a.2.1 a.2.2.1 = true then acnt a else 0).sum := by
  let Z0 : List Zu := now.map fun s => (s, none)
  have hZl : Z0.length = now.length := by simp [Z0]
  have hz0 : ZR h ks Z0 ⟨0, List.replicate now.length false, now, ks, 0⟩ := by
    refine ⟨?_, ?_, ?_, ?_⟩
    · apply List.ext_getElem <;> simp [Z0]
    · apply List.ext_getElem <;> simp [Z0, zNow]
    · apply List.ext_getElem
      · simp [Z0, hl]
      · intro i hi hi2; simp [Z0, zK]
    · simp only [Z0, List.countP_map]
      symm
      rw [Int.natCast_eq_zero, List.countP_eq_zero]
      intro x _
      simp
  obtain ⟨i1, i2, i3⟩ := asgAll_spec h arcs Z0 h1 (fun s => by
    rw [← hf s]
    simp only [Z0, List.countP_map]
    congr 2
    funext x
    simp)
  have hm := mvAll_asg h ks arcs Z0 _ (by rw [hZl]; exact hl) hz0
  rw [hZl] at hm
  rw [i1] at hm
  generalize hZ1 : (asgAll h arcs Z0).2 = Z1 at hm i2 i3
  have hnone : ∀ z ∈ Z1, z.2.isSome = true := by
    intro z hz
    cases hz2 : z.2 with
    | some t => rfl
    | none =>
      exfalso
      have h3 := i3 (fun x => decide (x = (z.1, none)))
      have h4 : (Z0.countP (fun x => decide (x = (z.1, none))) : Int) = outS' arcs h z.1 := by
        rw [← hf z.1]
        simp only [Z0, List.countP_map]
        congr 2
        funext x
        simp
      have h5 : pS h (fun x => decide (x = (z.1, none))) arcs = - outS' arcs h z.1 := by
        unfold pS outS'
        rw [← neg_sum, List.map_map]
        congr 1
        apply List.map_congr_left
        intro a _
        simp only [Function.comp_apply]
        by_cases hh : a.1 = (h : Int)
        · by_cases hs : a.2.1 = z.1
          · rw [if_pos hh, if_pos ⟨hh, hs⟩]; simp [bi, hs]
          · rw [if_pos hh, if_neg (fun e => hs e.2)]; simp [bi, hs]
        · rw [if_neg hh, if_neg (fun e => hh e.1)]; rfl
      have h6 : 0 < Z1.countP (fun x => decide (x = (z.1, none))) := by
        rw [List.countP_pos_iff]
        exact ⟨z, hz, by simp only [decide_eq_true_eq]; exact Prod.ext rfl hz2⟩
      rw [h4, h5, Int.add_right_neg] at h3
      exact absurd (Int.natCast_eq_zero.1 h3) (Nat.pos_iff_ne_zero.1 h6)
  have hsome : ∀ z ∈ Z1, z = (z.1, some (zNow z)) := by
    intro z hz
    have := hnone z hz
    unfold zNow
    cases hz2 : z.2 with
    | none => rw [hz2] at this; cases this
    | some t => exact Prod.ext rfl hz2
  have hl1 : Z1.length = now.length := by
    have := congrArg List.length i2
    simpa [Z0] using this
  refine ⟨Z1.map fun z => (z.1, zNow z), ?_, ?_, fun p => ?_⟩
  · rw [List.map_map]
    have e : Z0.map (·.1) = now := by simp [Z0, Function.comp_def]
    rw [← e, ← i2]
    rfl
  · unfold moveF
    simp only
    rw [hm.1, hm.2.tot, hm.2.nw, hm.2.ks]
    have ht : Z1.countP (·.2.isSome) = now.length := by
      rw [← hl1, List.countP_eq_length]; exact hnone
    rw [ht]
    refine Prod.ext (by simp) (Prod.ext ?_ ?_)
    · simp
    · simp only
      rw [List.zipWith_map_left]
      apply List.ext_getElem?
      intro i
      rw [List.getElem?_zipWith, List.getElem?_zipWith]
      cases hzi : Z1[i]? with
      | none => rfl
      | some z =>
        cases ks[i]? with
        | none => rfl
        | some k =>
          have := hsome z (List.mem_of_getElem? hzi)
          simp only [zK]
          rw [this]
          simp [zNow]
  · rw [List.countP_map]
    have h3 := i3 (fun z => z.2.isSome && p z.1 (zNow z))
    have h4 : Z0.countP (fun z => z.2.isSome && p z.1 (zNow z)) = 0 := by
      rw [List.countP_eq_zero]
      intro z hz
      obtain ⟨s, _, rfl⟩ := List.mem_map.1 hz
      simp
    have h5 : Z1.countP ((fun z : St × St => p z.1 z.2) ∘ fun z : Zu => (z.1, zNow z)) = Z1.countP (fun z => z.2.isSome && p z.1 (zNow z)) := by
      apply List.countP_congr
      intro z hz
      simp [hnone z hz]
    rw [h5, h3, h4]
    unfold pS
    simp only [Int.natCast_zero, Int.zero_add]
    congr 1
    apply List.map_congr_left
    intro a _
    by_cases hh : a.1 = (h : Int)
    · by_cases hs : p a.2.1 a.2.2.1 = true
      · rw [if_pos hh, if_pos ⟨hh, hs⟩]; simp [bi, zNow, hs]
      · rw [if_pos hh, if_neg (fun e => hs e.2)]; simp [bi, zNow, hs]
    · rw [if_neg hh, if_neg (fun e => hh e.1)]
end Go.Proofs.Ytopgdjjiilkfgaa
/- A flow is unmerged, hour by hour. -/
namespace Go.Proofs.Ytopgdjjiilkfgaa
open Go.Vc Go.Gw
theorem run_set {u : U} {aw ks : List Int} {h : Nat} {k : Int} : ∀ {g : Nat}, g ≤ h → runTo u aw (ks.set h k) g = runTo u aw ks g
  | 0, _ => rfl
  | g + 1, hg => by
    simp only [runTo]
    rw [run_set (g := g) (by omega), List.getElem?_set_ne (by omega)]
theorem run_stt {u : U} {aw ks : List Int} (hs : soundB u = true) : ∀ {g : Nat} {p : List St × St}, runTo u aw ks g = some p → p.2 ∈ statesF u
  | 0, p, h => by simp only [runTo, Option.some.injEq] at h; subst h; exact init_states hs
  | g + 1, p, h => by
    obtain ⟨p', k, t, _, _, hst, rfl⟩ := run_prev h
    exact next_states (step_mem hst).1
theorem run_last {u : U} {aw ks : List Int} : ∀ {g : Nat} {p : List St × St}, runTo u aw ks g = some p → prevAt (initF u) p.1 g = p.2
  | 0, p, h => by simp only [runTo, Option.some.injEq] at h; subst h; rfl
  | g + 1, p, h => by
    obtain ⟨p', k, t, hr, _, hst, rfl⟩ := run_prev h
    have hl := run_len hr
    unfold prevAt
    rw [if_neg (by omega)]
    simp only [Nat.add_sub_cancel]
    rw [List.getD_eq_getElem?_getD, List.getElem?_append_right (by omega), hl, Nat.sub_self]
    rfl
abbrev Ru := List Int × List St × St
def hourS (arcs : List Arc) (h : Int) (p : St → St → Bool) : Int := (arcs.map fun a => if a.1 = h ∧ p a.2.1 a.2.2.1 = true then acnt a else 0).sum
def atP (u : U) (h : Nat) (p : St → St → Bool) (w : List St) : Bool := p (prevAt (initF u) w h) (w.getD h (0, 0))
theorem hourS_pos {arcs : List Arc} {h : Int} {p : St → St → Bool} (hp : hourS arcs h p ≠ 0) : ∃ a ∈ arcs, a.1 = h ∧ p a.2.1 a.2.2.1 = true := by
  induction arcs with
  | nil => exact absurd rfl hp
  | cons a l ih =>
    unfold hourS at hp ih
    rw [List.map_cons, List.sum_cons] at hp
    by_cases hc : a.1 = h ∧ p a.2.1 a.2.2.1 = true
    · exact ⟨a, List.mem_cons_self, hc⟩
    · rw [if_neg hc, Int.zero_add] at hp
      obtain ⟨b, hb, h2⟩ := ih hp
      exact ⟨b, List.mem_cons_of_mem _ hb, h2⟩
theorem hourS_zero {arcs : List Arc} {h : Int} {p : St → St → Bool} (hp : ∀ a ∈ arcs, ¬ (a.1 = h ∧ p a.2.1 a.2.2.1 = true)) : hourS arcs h p = 0 := by
  apply Decidable.byContradiction
  intro hn
  obtain ⟨a, ha, h2⟩ := hourS_pos hn
  exact hp a ha h2
structure UInv (u : U) (aw : List Int) (hours : Nat) (arcs : List Arc) (h : Nat) (R : List Ru) : Prop where
  run : ∀ r ∈ R, r.1.length = hours ∧ runTo u aw r.1 h = some r.2
  cnt : ∀ h' : Nat, h' < h → ∀ p : St → St → Bool, (R.countP (fun r => atP u h' p r.2.1) : Int) = hourS arcs h' p
theorem unm_flow {u : U} {aw : List Int} {hours n : Nat} {arcs : List Arc} (hs : soundB u = true) (hf : flowP u aw hours n arcs) :
    ∀ h : Nat, h ≤ hours → ∃ R : List Ru, R.length = n ∧ unmF arcs (List.replicate n (initF u)) (List.replicate n (List.replicate hours 0)) h = some (R.map (·.2.2), R.map (·.1)) ∧ UInv u aw hours arcs h R
  | 0, _ => by
    refine ⟨List.replicate n (List.replicate hours 0, [], initF u), by simp, ?_, ?_, ?_⟩
    · simp [unmF]
    · intro r hr
      rw [List.eq_of_mem_replicate hr]
      exact ⟨by simp, rfl⟩
    · intro h' hh; omega
  | h + 1, hle => by
    obtain ⟨R, hn, hu, hi⟩ := unm_flow hs hf h (by omega)
    have hpos : ∀ a ∈ arcs, 1 ≤ acnt a := fun a ha => (hf.1 a ha).2.2.1
    have hout : ∀ s, ((R.map (·.2.2)).countP (fun x => decide (x = s)) : Int) = outS' arcs h s := by
      intro s
      by_cases hm : s ∈ statesF u
      · have h1 := hf.2.2 h (by omega) s hm
        have h2 : outF arcs h s = outS' arcs h s := rfl
        rw [← h2, ← h1]
        unfold inF
        cases h with
        | zero =>
          have h3 : (arcs.map fun a => if a.1 = ((0 : Nat) : Int) - 1 ∧ a.2.2.1 = s then acnt a else 0).sum = 0 := by
            have := hourS_zero (arcs := arcs) (h := ((0 : Nat) : Int) - 1) (p := fun _ t => decide (t = s)) (fun a ha h4 => by
              have := (hf.1 a ha).1
              have := h4.1
              omega)
            unfold hourS at this
            simpa using this
          rw [h3, Int.add_zero]
          have hall : ∀ r ∈ R, r.2.2 = initF u := fun r hr => by
            have := (hi.run r hr).2
            simp only [runTo, Option.some.injEq] at this
            rw [← this]
          rw [List.countP_map]
          by_cases hsi : s = initF u
          · rw [if_pos ⟨rfl, hsi⟩, List.countP_eq_length.2, hn]
            intro r hr
            simp [hall r hr, hsi]
          · rw [if_neg (fun e => hsi e.2), List.countP_eq_zero.2]
            · rfl
            intro r hr
            simp only [Function.comp_apply, decide_eq_true_eq, hall r hr]
            exact fun e => hsi e.symm
        | succ g =>
          rw [if_neg (fun e => by omega), Int.zero_add]
          have h3 := hi.cnt g (by omega) (fun _ t => decide (t = s))
          have e : ((g + 1 : Nat) : Int) - 1 = (g : Int) := by omega
          rw [e]
          unfold hourS at h3
          simp only [decide_eq_true_eq] at h3
          rw [← h3, List.countP_map]
          congr 1
          apply List.countP_congr
          intro r hr
          have h4 := run_last (hi.run r hr).2
          unfold prevAt at h4
          rw [if_neg (by omega), Nat.add_sub_cancel] at h4
          simp only [Function.comp_apply, atP, h4]
      · have h1 : outS' arcs h s = 0 := by
          have := hourS_zero (arcs := arcs) (h := (h : Int)) (p := fun x _ => decide (x = s)) (fun a ha h4 => by
            have h5 := foll_src (hf.1 a ha).2.2.2.2.1
            rw [of_decide_eq_true h4.2] at h5
            exact hm h5)
          unfold hourS at this
          simpa [outS'] using this
        rw [h1, List.countP_eq_zero.2]
        · rfl
        intro x hx
        obtain ⟨r, hr, rfl⟩ := List.mem_map.1 hx
        have := run_stt hs (hi.run r hr).2
        simp only [decide_eq_true_eq]
        intro e; rw [e] at this; exact hm this
    obtain ⟨Z, hZ1, hZ2, hZ3⟩ := moveF_spec (h := h) (ks := R.map (·.1)) (by simp) hpos hout
    have hZl : Z.length = R.length := by
      have := congrArg List.length hZ1
      simpa using this
    have hY1 : (R.zip Z).map (·.1) = R := List.map_fst_zip (by omega)
    have hY2 : (R.zip Z).map (·.2) = Z := List.map_snd_zip (by omega)
    generalize hY : R.zip Z = Y at hY1 hY2
    have hst : ∀ y ∈ Y, y.2.1 = y.1.2.2 := by
      have : Y.map (fun y => y.2.1) = Y.map (fun y => y.1.2.2) := by
        have e1 : Y.map (fun y => y.2.1) = Z.map (·.1) := by rw [← hY2, List.map_map]; rfl
        have e2 : Y.map (fun y => y.1.2.2) = R.map (·.2.2) := by rw [← hY1, List.map_map]; rfl
        rw [e1, e2, hZ1]
      exact List.map_inj_left.1 this
    have hgo : ∀ y ∈ Y, y.2.2 ∈ nextF u y.2.1.1 y.2.1.2 ∧ allowF aw h y.2.2.1 = true := by
      intro y hy
      have h3 := hZ3 (fun s t => decide (s = y.2.1 ∧ t = y.2.2))
      have h4 : 0 < Z.countP (fun z => decide (z.1 = y.2.1 ∧ z.2 = y.2.2)) := by
        rw [List.countP_pos_iff]
        refine ⟨y.2, ?_, by simp⟩
        rw [← hY2]; exact List.mem_map_of_mem hy
      obtain ⟨a, ha, h5, h6⟩ := hourS_pos (arcs := arcs) (h := (h : Int)) (p := fun s t => decide (s = y.2.1 ∧ t = y.2.2)) (by
        unfold hourS
        rw [← h3]
        exact fun e => absurd (Int.natCast_eq_zero.1 e) (Nat.pos_iff_ne_zero.1 h4))
      have h6 := of_decide_eq_true h6
      have h7 := hf.1 a ha
      rw [← h6.1, ← h6.2, ← h5]
      exact ⟨foll_mem h7.2.2.2.2.1, h7.2.2.2.2.2⟩
    refine ⟨Y.map fun y => (y.1.1.set h y.2.2.1, y.1.2.1 ++ [y.2.2], y.2.2), ?_, ?_, ?_, ?_⟩
    · rw [List.length_map, ← hY, List.length_zip]; omega
    · simp only [unmF]
      rw [hu]
      simp only
      rw [hZ2]
      simp only [if_true, List.map_map]
      have e1 : Z.map (·.2) = Y.map ((fun x : Ru => x.2.2) ∘ fun y => (y.1.1.set h y.2.2.1, y.1.2.1 ++ [y.2.2], y.2.2)) := by
        rw [← hY2, List.map_map]; rfl
      have e2 : Z.zipWith (fun z k => k.set h z.2.1) (R.map (·.1)) = Y.map ((fun x : Ru => x.1) ∘ fun y => (y.1.1.set h y.2.2.1, y.1.2.1 ++ [y.2.2], y.2.2)) := by
        rw [← hY2, ← hY1, List.map_map, List.zipWith_map, List.zipWith_self]
        rfl
      rw [e1, e2]
    · intro r hr
      obtain ⟨y, hy, rfl⟩ := List.mem_map.1 hr
      have hyR : y.1 ∈ R := by rw [← hY1]; exact List.mem_map_of_mem hy
      obtain ⟨h1, h2⟩ := hi.run y.1 hyR
      refine ⟨by simp [h1], ?_⟩
      simp only [runTo]
      rw [run_set (Nat.le_refl _), h2, List.getElem?_set_self (by omega)]
      simp only
      obtain ⟨g1, g2⟩ := hgo y hy
      rw [hst y hy] at g1
      rw [step_of g1 g2]
    · intro h' hh p
      rw [List.countP_map]
      by_cases he : h' = h
      · subst he
        have h3 := hZ3 p
        unfold hourS
        rw [← h3, ← hY2, List.countP_map]
        congr 1
        apply List.countP_congr
        intro y hy
        have hyR : y.1 ∈ R := by rw [← hY1]; exact List.mem_map_of_mem hy
        obtain ⟨h1, h2⟩ := hi.run y.1 hyR
        have hl := run_len h2
        have h4 := run_last h2
        have e1 : prevAt (initF u) (y.1.2.1 ++ [y.2.2]) h' = y.2.1 := by
          rw [hst y hy, ← h4]
          unfold prevAt
          split
          · rfl
          · rw [List.getD_eq_getElem?_getD, List.getElem?_append_left (by omega), List.getD_eq_getElem?_getD]
        have e2 : (y.1.2.1 ++ [y.2.2]).getD h' (0, 0) = y.2.2 := by
          rw [List.getD_eq_getElem?_getD, List.getElem?_append_right (by omega), hl, Nat.sub_self]; rfl
        simp only [Function.comp_apply, atP, e1, e2]
      · rw [← hi.cnt h' (by omega) p]
        conv => rhs; rw [← hY1]
        rw [List.countP_map]
        congr 1
        apply List.countP_congr
        intro y hy
        have hyR : y.1 ∈ R := by rw [← hY1]; exact List.mem_map_of_mem hy
        obtain ⟨h1, h2⟩ := hi.run y.1 hyR
        have hl := run_len h2
        have e1 : prevAt (initF u) (y.1.2.1 ++ [y.2.2]) h' = prevAt (initF u) y.1.2.1 h' := by
          unfold prevAt
          split
          · rfl
          · rw [List.getD_eq_getElem?_getD, List.getElem?_append_left (by omega), List.getD_eq_getElem?_getD]
        have e2 : (y.1.2.1 ++ [y.2.2]).getD h' (0, 0) = y.1.2.1.getD h' (0, 0) := by
          rw [List.getD_eq_getElem?_getD, List.getElem?_append_left (by omega), List.getD_eq_getElem?_getD]
        simp only [Function.comp_apply, atP, e1, e2]
end Go.Proofs.Ytopgdjjiilkfgaa
/- A flow is unmerged to kinds with just its transitions; the transitions of kinds are a flow. -/
namespace Go.Proofs.Ytopgdjjiilkfgaa
open Go.Vc Go.Gw
theorem key_sum : ∀ {arcs : List Arc}, arcs.Pairwise (fun a b => keyLt (akey a) (akey b)) → ∀ {a : Arc}, a ∈ arcs → hourS arcs a.1 (fun x y => decide (x = a.2.1 ∧ y = a.2.2.1)) = acnt a
  | [], _, _, h => by cases h
  | b :: l, hp, a, h => by
    rw [List.pairwise_cons] at hp
    have hc : ∀ hh p, hourS (b :: l) hh p = (if b.1 = hh ∧ p b.2.1 b.2.2.1 = true then acnt b else 0) + hourS l hh p := fun hh p => by
      unfold hourS; rw [List.map_cons, List.sum_cons]
    rw [hc]
    rcases List.mem_cons.1 h with rfl | h1
    · rw [if_pos ⟨rfl, by simp⟩, hourS_zero]
      · omega
      · intro x hx hh
        have h2 := hp.1 x hx
        have h3 := of_decide_eq_true hh.2
        have : akey x = akey a := by
          unfold akey; rw [hh.1, h3.1, h3.2]
        rw [this] at h2
        exact keyLt_irr _ h2
    · rw [if_neg, Int.zero_add, key_sum hp.2 h1]
      intro hh
      have h2 := hp.1 a h1
      have h3 := of_decide_eq_true hh.2
      have : akey b = akey a := by
        unfold akey; rw [hh.1, h3.1, h3.2]
      rw [this] at h2
      exact keyLt_irr _ h2
theorem merge_congr {trs trs' : List Key} {l : List Arc} (hp : trs.Perm trs') (h : isMerge trs l) : isMerge trs' l := by
  refine ⟨h.1, fun a => ?_⟩
  rw [← hp.count_eq]
  exact h.2 a
theorem walks_of {u : U} {aw : List Int} : ∀ {ks : List (List Int)}, (∀ k ∈ ks, (walkF u aw k).isSome = true) → walks u aw ks = some (ks.map fun k => (walkF u aw k).getD [])
  | [], _ => rfl
  | k :: ks, h => by
    obtain ⟨w, hw⟩ := Option.isSome_iff_exists.1 (h k List.mem_cons_self)
    simp only [walks, hw, walks_of (fun x hx => h x (List.mem_cons_of_mem _ hx))]
    simp [hw]
theorem walks_inv {u : U} {aw : List Int} : ∀ {ks : List (List Int)} {ws : List (List St)}, walks u aw ks = some ws → ws.length = ks.length ∧ ∀ w ∈ ws, ∃ k ∈ ks, walkF u aw k = some w
  | [], ws, h => by simp only [walks, Option.some.injEq] at h; subst h; exact ⟨rfl, fun _ h => by cases h⟩
  | k :: ks, ws, h => by
    simp only [walks] at h
    split at h
    · cases h
    · rename_i w hw
      obtain ⟨ws', hws', rfl⟩ := Option.map_eq_some_iff.1 h
      obtain ⟨h1, h2⟩ := walks_inv hws'
      refine ⟨by simp [h1], fun x hx => ?_⟩
      rcases List.mem_cons.1 hx with rfl | hx
      · exact ⟨k, List.mem_cons_self, hw⟩
      · obtain ⟨k', hk', h3⟩ := h2 x hx
        exact ⟨k', List.mem_cons_of_mem _ hk', h3⟩
theorem walkF_some {u : U} {aw k : List Int} {w : List St} (h : walkF u aw k = some w) : ∃ p, runTo u aw k k.length = some p ∧ p.1 = w ∧ w.length = k.length := by
  unfold walkF at h
  obtain ⟨p, hp, rfl⟩ := Option.map_eq_some_iff.1 h
  exact ⟨p, hp, rfl, run_len hp⟩
theorem mem_tr {u : U} {ws : List (List St)} {k : Key} (h : k ∈ trAll u ws) : ∃ w ∈ ws, k ∈ trF (initF u) 0 w := List.mem_flatMap.1 h
theorem countP_trAll (u : U) (h : Nat) (p : St → St → Bool) : ∀ ws : List (List St), (trAll u ws).countP (fun k => decide (k.1 = (h : Int)) && p k.2.1 k.2.2) = ws.countP fun w => decide (h < w.length) && atP u h p w
  | [] => rfl
  | w :: ws => by
    have ih := countP_trAll u h p ws
    unfold trAll at ih ⊢
    rw [List.flatMap_cons, List.countP_append, List.countP_cons, ih]
    have := countP_trF p w (initF u) 0 h
    rw [Nat.zero_add] at this
    rw [this, Nat.add_comm]
    congr 1
    unfold atP
    by_cases h1 : h < w.length
    · by_cases h2 : p (prevAt (initF u) w h) (w.getD h (0, 0)) = true
      · rw [if_pos ⟨h1, h2⟩, if_pos (by rw [h2]; simp [h1])]
      · rw [if_neg (fun e => h2 e.2), if_neg]
        intro e
        rw [Bool.and_eq_true] at e
        exact h2 e.2
    · rw [if_neg (fun e => h1 e.1), if_neg]
      intro e
      rw [Bool.and_eq_true] at e
      exact h1 (of_decide_eq_true e.1)
theorem count_atP {u : U} {ws : List (List St)} {h : Nat} {s t : St} : (trAll u ws).count ((h : Int), s, t) = ws.countP fun w => decide (h < w.length) && atP u h (fun x y => decide (x = s ∧ y = t)) w := by
  rw [← countP_trAll, List.count_eq_countP]
  apply List.countP_congr
  intro k _
  obtain ⟨a, b, c⟩ := k
  simp
theorem flow_merge {u : U} {aw : List Int} {hours n : Nat} {arcs : List Arc} (hf : flowP u aw hours n arcs) {R : List Ru} (hi : UInv u aw hours arcs hours R) : isMerge (trAll u (R.map (·.2.1))) arcs := by
  have hwl : ∀ w ∈ R.map (·.2.1), w.length = hours := by
    intro w hw
    obtain ⟨r, hr, rfl⟩ := List.mem_map.1 hw
    exact run_len (hi.run r hr).2
  have hcnt : ∀ (h : Nat) (s t : St), h < hours → ((trAll u (R.map (·.2.1))).count ((h : Int), s, t) : Int) = hourS arcs h (fun x y => decide (x = s ∧ y = t)) := by
    intro h s t hh
    rw [← hi.cnt h hh, count_atP, List.countP_map]
    congr 1
    apply List.countP_congr
    intro r hr
    have := run_len (hi.run r hr).2
    simp only [Function.comp_apply, this, decide_eq_true hh, Bool.true_and]
  have hsort := flow_sorted hf
  refine ⟨hsort, fun a => ⟨fun ha => ?_, fun hc => ?_⟩⟩
  · have h1 := hf.1 a ha
    obtain ⟨h, hh⟩ := Int.eq_ofNat_of_zero_le h1.1
    have h2 := key_sum hsort ha
    rw [hh, ← hcnt h _ _ (by have := h1.2.1; omega)] at h2
    refine ⟨?_, h1.2.2.1⟩
    rw [← h2]
    unfold akey
    rw [hh]
  · have hm : akey a ∈ trAll u (R.map (·.2.1)) := by
      rw [← List.count_pos_iff]; omega
    obtain ⟨w, hw, hk⟩ := mem_tr hm
    have hb := trF_hour hk
    rw [hwl w hw] at hb
    change (((0 : Nat) : Int) ≤ a.1 ∧ a.1 < ((0 + hours : Nat) : Int)) at hb
    obtain ⟨h, hh⟩ := Int.eq_ofNat_of_zero_le (show 0 ≤ a.1 by omega)
    have h2 := hcnt h a.2.1 a.2.2.1 (by omega)
    have h3 : acnt a = hourS arcs h (fun x y => decide (x = a.2.1 ∧ y = a.2.2.1)) := by
      rw [hc.1, ← h2]
      unfold akey
      rw [hh]
    obtain ⟨b, hb, h4, h5⟩ := hourS_pos (arcs := arcs) (h := (h : Int)) (p := fun x y => decide (x = a.2.1 ∧ y = a.2.2.1)) (by rw [← h3]; omega)
    have h5 := of_decide_eq_true h5
    have h6 := key_sum hsort hb
    rw [h4, h5.1, h5.2, ← h3] at h6
    have : a = b := by
      obtain ⟨a1, a2, a3, a4⟩ := a
      obtain ⟨b1, b2, b3, b4⟩ := b
      simp only [acnt] at h6 h5 h4 hh
      simp only [Prod.mk.injEq]
      exact ⟨by rw [hh, h4], h5.1.symm, h5.2.symm, h6⟩
    rw [this]; exact hb
theorem sum_len : ∀ {l : List Arc}, (∀ a ∈ l, 1 ≤ acnt a) → (l.length : Int) ≤ (l.map fun a => if (fun _ : Key => true) (akey a) = true then acnt a else 0).sum
  | [], _ => by simp
  | a :: l, h => by
    have ih := sum_len (fun b hb => h b (List.mem_cons_of_mem _ hb))
    have := h a List.mem_cons_self
    rw [List.map_cons, List.sum_cons, if_pos rfl, List.length_cons]
    omega
theorem trF_len2 : ∀ (w : List St) (s : St) (h : Nat), (trF s h w).length = w.length
  | [], _, _ => rfl
  | a :: w, s, h => by simp only [trF, List.length_cons, trF_len2 w a (h + 1)]
theorem trAll_len {u : U} {H : Nat} : ∀ {ws : List (List St)}, (∀ w ∈ ws, w.length = H) → (trAll u ws).length = H * ws.length
  | [], _ => rfl
  | w :: ws, h => by
    have ih := trAll_len (u := u) (fun x hx => h x (List.mem_cons_of_mem _ hx))
    unfold trAll at ih ⊢
    rw [List.flatMap_cons, List.length_append, ih, trF_len2, h w List.mem_cons_self, List.length_cons, Nat.mul_add]
    omega
/-- A flow is unmerged. -/
theorem flow_unmerges {u : U} {aw : List Int} {hours n : Nat} {arcs : List Arc} (hs : soundB u = true) (hf : flowP u aw hours n arcs) :
    (arcs.length : Int) ≤ (hours : Int) * (n : Int) ∧ ∃ p, unmF arcs (List.replicate n (initF u)) (List.replicate n (List.replicate hours 0)) hours = some p ∧
      ∀ ks, ks.Perm p.2 → ks.length = n ∧ (∀ l ∈ ks, l.length = hours) ∧ ∃ ws, walks u aw ks = some ws ∧ isMerge (trAll u ws) arcs := by
  obtain ⟨R, hn, hu, hi⟩ := unm_flow hs hf hours (Nat.le_refl _)
  have hm := flow_merge hf hi
  refine ⟨?_, _, hu, fun ks hks => ?_⟩
  · have h1 := merge_sum hm (fun _ => true)
    have h2 := sum_len (l := arcs) (fun a ha => (hf.1 a ha).2.2.1)
    rw [h1, List.countP_true, trAll_len (H := hours), List.length_map, hn] at h2
    · rw [← Int.natCast_mul]; exact h2
    · intro w hw
      obtain ⟨r, hr, rfl⟩ := List.mem_map.1 hw
      exact run_len (hi.run r hr).2
  · have hall : ∀ k ∈ ks, k.length = hours ∧ (walkF u aw k).isSome = true := by
      intro k hk
      obtain ⟨r, hr, rfl⟩ := List.mem_map.1 (hks.mem_iff.1 hk)
      obtain ⟨h1, h2⟩ := hi.run r hr
      refine ⟨h1, ?_⟩
      unfold walkF
      rw [h1, h2]; rfl
    refine ⟨by rw [hks.length_eq]; simp [hn], fun l hl => (hall l hl).1, _, walks_of (fun k hk => (hall k hk).2), ?_⟩
    refine merge_congr ?_ hm
    have e : R.map (·.2.1) = (R.map (·.1)).map fun k => (walkF u aw k).getD [] := by
      rw [List.map_map]
      apply List.map_congr_left
      intro r hr
      obtain ⟨h1, h2⟩ := hi.run r hr
      simp only [Function.comp_apply, walkF, h1, h2]
      rfl
    rw [e]
    exact ((hks.map _).flatMap_right _).symm
theorem run_step_at {u : U} {aw k : List Int} : ∀ {n : Nat} {p : List St × St}, runTo u aw k n = some p → ∀ {h : Nat}, h < n → ∃ kk, stepF u aw h (prevAt (initF u) p.1 h) kk = some (p.1.getD h (0, 0))
  | 0, _, _, h, hh => by omega
  | n + 1, p, hp, h, hh => by
    obtain ⟨p', kk, t, hr, _, hst, rfl⟩ := run_prev hp
    have hl := run_len hr
    have e1 : ∀ g, g ≤ n → prevAt (initF u) (p'.1 ++ [t]) g = prevAt (initF u) p'.1 g := by
      intro g hg
      unfold prevAt
      split
      · rfl
      · rw [List.getD_eq_getElem?_getD, List.getElem?_append_left (by omega), List.getD_eq_getElem?_getD]
    by_cases he : h = n
    · subst he
      refine ⟨kk, ?_⟩
      simp only
      rw [e1 _ (Nat.le_refl _), run_last hr, List.getD_eq_getElem?_getD, List.getElem?_append_right (by omega), hl, Nat.sub_self]
      exact hst
    · obtain ⟨kk', h3⟩ := run_step_at hr (show h < n by omega)
      refine ⟨kk', ?_⟩
      simp only
      rw [e1 h (by omega), List.getD_eq_getElem?_getD, List.getElem?_append_left (by omega), ← List.getD_eq_getElem?_getD]
      exact h3
theorem st_kind {u : U} {s : St} (h : s ∈ statesF u) : s.1 = 0 ∨ s.1 = 1 ∨ s.1 = 2 := by
  unfold statesF at h
  split at h
  · unfold statesL at h
    rw [List.mem_append, List.mem_append] at h
    rcases h with (h | h) | h
    · exact .inl (run_kind h)
    · exact .inr (.inl (run_kind h))
    · exact .inr (.inr (run_kind h))
  · cases h
theorem lt_pos {u : U} {s t : St} (hs : s ∈ statesF u) (ht : t ∈ statesF u) (h : stLt s t) : posF u s.1 s.2 < posF u t.1 t.2 := by
  rcases Int.lt_or_le (posF u s.1 s.2) (posF u t.1 t.2) with h1 | h1
  · exact h1
  · exfalso
    rcases Int.lt_or_eq_of_le h1 with h2 | h2
    · exact stLt_irr _ (stLt_trans h (pos_lt ht hs h2))
    · obtain ⟨i, hi⟩ := List.mem_iff_getElem?.1 hs
      obtain ⟨j, hj⟩ := List.mem_iff_getElem?.1 ht
      rw [pos_at hi, pos_at hj] at h2
      have : i = j := by omega
      subst this
      rw [hi] at hj
      cases hj
      exact stLt_irr _ h
theorem key_before {u : U} {a b : Arc} (ha : follF u a.2.1.1 a.2.1.2 a.2.2.1 = true) (hb : follF u b.2.1.1 b.2.1.2 b.2.2.1 = true) (h : keyLt (akey a) (akey b)) : beforeB u a b = true := by
  unfold beforeB
  unfold keyLt akey at h
  simp only at h
  rcases h with h | ⟨h1, h | ⟨h2, h⟩⟩
  · rw [if_pos (by omega)]; exact decide_eq_true h
  · rw [if_neg (fun e => e h1), if_pos]
    · exact decide_eq_true (lt_pos (foll_src ha) (foll_src hb) h)
    · intro e; rw [e] at h; exact stLt_irr _ h
  · rw [if_neg (fun e => e h1), if_neg (fun e => e h2)]
    exact decide_eq_true (lt_pos (next_states (foll_mem ha)) (next_states (foll_mem hb)) h)
/-- The transitions of kinds are a flow. -/
theorem merge_flow {u : U} {aw : List Int} {hours : Nat} {arcs : List Arc} {ks : List (List Int)} {ws : List (List St)} (hs : soundB u = true) (hl : ∀ l ∈ ks, l.length = hours) (hw : walks u aw ks = some ws) (hm : isMerge (trAll u ws) arcs) : flowP u aw hours ks.length arcs := by
  obtain ⟨hwn, hwk⟩ := walks_inv hw
  have hws : ∀ w ∈ ws, w.length = hours ∧ ∀ h : Nat, h < hours → ∃ kk, stepF u aw h (prevAt (initF u) w h) kk = some (w.getD h (0, 0)) := by
    intro w hw
    obtain ⟨k, hk, h1⟩ := hwk w hw
    obtain ⟨p, hp, rfl, h2⟩ := walkF_some h1
    rw [hl k hk] at h2 hp
    exact ⟨h2, fun h hh => run_step_at hp hh⟩
  have hok : ∀ a ∈ arcs, arcOk u aw hours ks.length a := by
    intro a ha
    obtain ⟨h1, h2⟩ := (hm.2 a).1 ha
    have hmem : akey a ∈ trAll u ws := by
      rw [← List.count_pos_iff]; omega
    obtain ⟨w, hw1, hk⟩ := mem_tr hmem
    obtain ⟨hwl, hwst⟩ := hws w hw1
    have hb := trF_hour hk
    rw [hwl] at hb
    change (((0 : Nat) : Int) ≤ a.1 ∧ a.1 < ((0 + hours : Nat) : Int)) at hb
    obtain ⟨h, hh⟩ := Int.eq_ofNat_of_zero_le (show 0 ≤ a.1 by omega)
    have e : akey a = ((h : Int), a.2.1, a.2.2.1) := by unfold akey; rw [hh]
    have htk : takes (initF u) w h a.2.1 a.2.2.1 := by
      have h3 := count_trF a.2.1 a.2.2.1 w (initF u) 0 h
      rw [Nat.zero_add, ← e] at h3
      have h4 := List.count_pos_iff.2 hk
      rw [h3] at h4
      by_cases ht : takes (initF u) w h a.2.1 a.2.2.1
      · exact ht
      · rw [if_neg ht] at h4; omega
    obtain ⟨kk, hst⟩ := hwst h (by omega)
    rw [htk.2.1, htk.2.2] at hst
    obtain ⟨g1, g2, g3⟩ := step_mem hst
    refine ⟨by omega, by omega, h2, ?_, ?_, ?_⟩
    · rw [h1, e, count_atP, ← hwn]
      exact Int.ofNat_le.2 List.countP_le_length
    · exact List.any_eq_true.2 ⟨_, g1, by simp⟩
    · unfold allowF
      rw [decide_eq_true_eq]
      have hkd := st_kind (next_states g1)
      rw [hh]
      rcases g3 with g3 | g3
      · left; rw [g2]; exact g3
      · rcases hkd with h0 | h0 | h0
        · exact .inl h0
        · exact .inr ⟨.inl h0, g3⟩
        · exact .inr ⟨.inr h0, g3⟩
  refine ⟨hok, fun i a b ha hb => ?_, fun h hh s _ => ?_⟩
  · have h1 := hok a (List.mem_of_getElem? ha)
    have h2 := hok b (List.mem_of_getElem? hb)
    refine key_before h1.2.2.2.2.1 h2.2.2.2.2.1 ?_
    obtain ⟨hi1, hi2⟩ := List.getElem?_eq_some_iff.1 ha
    obtain ⟨hj1, hj2⟩ := List.getElem?_eq_some_iff.1 hb
    have := List.pairwise_iff_getElem.1 hm.1 i (i + 1) hi1 hj1 (by omega)
    rw [hi2, hj2] at this
    exact this
  · have hsum : ∀ (h : Nat) (p : St → St → Bool), h < hours → hourS arcs h p = (ws.countP (atP u h p) : Int) := by
      intro h p hh
      have h1 := merge_sum hm (fun k => decide (k.1 = (h : Int)) && p k.2.1 k.2.2)
      rw [countP_trAll] at h1
      have h2 : ws.countP (fun w => decide (h < w.length) && atP u h p w) = ws.countP (atP u h p) := by
        apply List.countP_congr
        intro w hw
        rw [(hws w hw).1, decide_eq_true hh, Bool.true_and]
      rw [← h2, ← h1]
      unfold hourS
      congr 1
      apply List.map_congr_left
      intro a _
      have e : (decide ((akey a).1 = (h : Int)) && p (akey a).2.1 (akey a).2.2) = true ↔ a.1 = (h : Int) ∧ p a.2.1 a.2.2.1 = true := by
        rw [Bool.and_eq_true]
        exact ⟨fun q => ⟨of_decide_eq_true q.1, q.2⟩, fun q => ⟨decide_eq_true q.1, q.2⟩⟩
      by_cases hq : a.1 = (h : Int) ∧ p a.2.1 a.2.2.1 = true
      · rw [if_pos hq, if_pos (e.2 hq)]
      · rw [if_neg hq, if_neg (fun q => hq (e.1 q))]
    have hout : outF arcs h s = (ws.countP (atP u h (fun x _ => decide (x = s))) : Int) := by
      rw [← hsum h _ (by omega)]
      unfold outF hourS
      simp
    rw [hout]
    unfold inF
    cases h with
    | zero =>
      have h3 : (arcs.map fun a => if a.1 = ((0 : Nat) : Int) - 1 ∧ a.2.2.1 = s then acnt a else 0).sum = 0 := by
        have := hourS_zero (arcs := arcs) (h := ((0 : Nat) : Int) - 1) (p := fun _ t => decide (t = s)) (fun a ha h4 => by
          have := (hok a ha).1
          have := h4.1
          omega)
        unfold hourS at this
        simpa using this
      rw [h3, Int.add_zero]
      by_cases hsi : s = initF u
      · rw [if_pos ⟨rfl, hsi⟩, List.countP_eq_length.2, hwn]
        intro w hw
        simp [atP, prevAt, hsi]
      · rw [if_neg (fun e => hsi e.2), List.countP_eq_zero.2]
        · rfl
        intro w hw
        simp only [atP, prevAt, decide_eq_true_eq]
        exact fun e => hsi (by rw [← e]; rfl)
    | succ g =>
      rw [if_neg (fun e => by omega), Int.zero_add]
      have h3 := hsum g (fun _ t => decide (t = s)) (by omega)
      have e : ((g + 1 : Nat) : Int) - 1 = (g : Int) := by omega
      rw [e]
      unfold hourS at h3
      simp only [decide_eq_true_eq] at h3
      rw [h3]
      congr 1
end Go.Proofs.Ytopgdjjiilkfgaa
/- What Unmerge answers: plain. -/
namespace Go.Proofs.Ytopgdjjiilkfgaa
open Go.Vc Go.Gw
theorem unmF_l {n H : Nat} {arcs : List Arc} {now : List St} {ks : List (List Int)} (v : LInv n H now ks) : ∀ {h : Nat} {p : List St × List (List Int)}, unmF arcs now ks h = some p → LInv n H p.1 p.2
  | 0, p, hp => by simp only [unmF, Option.some.injEq] at hp; rw [← hp]; exact v
  | h + 1, p, hp => by
    simp only [unmF] at hp
    split at hp
    · cases hp
    · rename_i q hq
      have := moveF_l (h := h) (arcs := arcs) (unmF_l v hq)
      split at hp
      · cases hp; exact this
      · cases hp
theorem shape_of {ls : List (List Int)} {H : Nat} (h : ∀ l ∈ ls, l.length = H) (hH : H ≤ 24) : shapeP ls := by
  intro l hl
  refine ⟨?_, by rw [h l hl]; exact hH⟩
  cases ls with
  | nil => cases hl
  | cons a r => rw [h l hl, List.headD_cons, h a List.mem_cons_self]
theorem unm_law {u : U} {aw : List Int} {hours count : Int} {arcs : List Arc} {r : List (List Int)} {e : Int} (hs : soundB u = true) (h1 : 1 ≤ hours) (h2 : hours ≤ 24) (h3 : 0 ≤ count) (h4 : count ≤ 16) (h : unmergeP u aw hours count arcs r e) :
    (¬ flowP u aw hours count arcs → rejP r e) ∧ (flowP u aw hours count arcs → e = 0 ∧ (r.length : Int) = count ∧ (∀ l ∈ r, (l.length : Int) = hours) ∧ shapeP r ∧ descP r ∧ ∃ ws, walks u aw r = some ws ∧ isMerge (trAll u ws) arcs) := by
  obtain ⟨H, rfl⟩ := Int.eq_ofNat_of_zero_le (show 0 ≤ hours by omega)
  obtain ⟨n, rfl⟩ := Int.eq_ofNat_of_zero_le h3
  obtain ⟨hgt, hle⟩ := h.2.2 hs h1 h2 h3 h4
  simp only [Int.toNat_natCast] at hle
  have hl0 : LInv n H (List.replicate n (initF u)) (List.replicate n (List.replicate H (0 : Int))) := ⟨by simp, by simp, fun l hl => by rw [List.eq_of_mem_replicate hl]; simp⟩
  refine ⟨fun hnf => ?_, fun hf => ?_⟩
  · rcases Int.lt_or_le ((H : Int) * (n : Int)) (arcs.length : Int) with h5 | h5
    · exact hgt h5
    · obtain ⟨i1, i2⟩ := hle h5
      cases hu : unmF arcs (List.replicate n (initF u)) (List.replicate n (List.replicate H 0)) H with
      | none => exact i1 hu
      | some p =>
        obtain ⟨ks, hp, _, _, hno⟩ := i2 p hu
        apply hno
        rintro ⟨ws, hw, _, hm⟩
        apply hnf
        obtain ⟨_, hv2, hv3⟩ := unmF_l hl0 hu
        have hfl := merge_flow (hours := H) hs (fun l hl => hv3 l (hp.mem_iff.1 hl)) hw hm
        rw [hp.length_eq, hv2] at hfl
        exact hfl
  · obtain ⟨h5, p, hu, hks⟩ := flow_unmerges hs hf
    obtain ⟨_, i2⟩ := hle h5
    obtain ⟨ks, hp, hd, hyes, _⟩ := i2 p hu
    obtain ⟨g1, g2, ws, hw, hm⟩ := hks ks hp
    have hsh : shapeP ks := shape_of g2 (by omega)
    obtain ⟨rfl, rfl⟩ := hyes ⟨ws, hw, hsh, hm⟩
    exact ⟨rfl, by rw [g1], fun l hl => by rw [g2 l hl], hsh, hd, ws, hw, hm⟩
theorem trAll_le {u : U} {H : Nat} : ∀ {ws : List (List St)}, (∀ w ∈ ws, w.length ≤ H) → (trAll u ws).length ≤ H * ws.length
  | [], _ => Nat.le_refl _
  | w :: ws, h => by
    have ih := trAll_le (u := u) (fun x hx => h x (List.mem_cons_of_mem _ hx))
    have h1 := h w List.mem_cons_self
    unfold trAll at ih ⊢
    rw [List.flatMap_cons, List.length_append, trF_len2, List.length_cons, Nat.mul_add]
    omega
theorem merge_le {u : U} {aw : List Int} {ls : List (List Int)} {r : List Arc} {e : Int} (h : mergeP u aw ls r e) : r.length ≤ 24 * ls.length := by
  obtain ⟨h1, h2, h3, h4⟩ := h
  cases hs : soundB u with
  | false => rw [(h1 hs).1]; exact Nat.zero_le _
  | true =>
    by_cases hsh : shapeP ls
    · cases hw : walks u aw ls with
      | none => rw [(h3 hs hsh hw).1]; exact Nat.zero_le _
      | some ws =>
        obtain ⟨_, hm⟩ := h4 hs hsh ws hw
        obtain ⟨hwn, hwk⟩ := walks_inv hw
        have g1 := merge_sum hm (fun _ => true)
        have g2 := sum_len (l := r) (fun a ha => ((hm.2 a).1 ha).2)
        have g3 := trAll_le (u := u) (H := 24) (ws := ws) (fun w hw => by
          obtain ⟨k, hk, hh⟩ := hwk w hw
          obtain ⟨_, _, _, hl⟩ := walkF_some hh
          rw [hl]; exact (hsh k hk).2)
        rw [g1, List.countP_true] at g2
        rw [← hwn]
        omega
    · rw [(h2 hs hsh).1]; exact Nat.zero_le _
end Go.Proofs.Ytopgdjjiilkfgaa
