/- More memory: elements of slices, appends with the block that they may write, loops with two and three ghosts, the equality of small structs, maps that are sets. -/
import Derived.Test.YtedfiemhfpcggaaGwMem
namespace Go.Gw
open Go Go.RowKit

section el
variable {P : Program} {E : Env} {w : World} {ty : TypeId}
theorem y_idxn {x ix : Operand} {t e : TypeId} {kd : IntKind} {i' : Int} {b o len cap sz : Nat} {v : Value} (i : Nat) (hx : ev E x = v) (hv : v = .slice (some ⟨b, o, none⟩) len cap) (hi : ev E ix = .int kd i') (hii : i' = (i : Int)) (ht : sliceT P t e sz = true) (h1 : i < len) :
    Yields P E ty (.indexAddr t x ix) w (.pointer (some ⟨b, o + i * sz, none⟩)) w := by
  subst hv hii
  have := y_idx (P := P) (w := w) (ty := ty) (sz := sz) hx hi ht (by omega) (by omega)
  rwa [add_lit, Int.toNat_natCast] at this
theorem CellsAt.get {w : World} {b o j : Nat} {cs : List Value} {v : Value} (h : CellsAt w ⟨b, o, none⟩ cs) (hv : cs[j]? = some v) : w.cell? ⟨b, o + j, none⟩ = some v := by
  have := h j v hv
  rwa [add_lit] at this
theorem y_load_el {T : TypeId} {x : Operand} {b o s : Nat} {cs : List Value} (hx : ev E x = .pointer (some ⟨b, o, none⟩)) (hc : CellsAt w ⟨b, o, none⟩ cs) (hs : aggT P T s = true) (hl : cs.length = s) : Yields P E ty (.load T x) w (.agg cs.toArray) w := y_load_agg hx hs hl hc
theorem y_load_elf {T : TypeId} {x : Operand} {b o j : Nat} {cs : List Value} {v : Value} (hx : ev E x = .pointer (some ⟨b, o + j, none⟩)) (hc : CellsAt w ⟨b, o, none⟩ cs) (hs : scalarT P T = true) (hv : cs[j]? = some v) : Yields P E ty (.load T x) w v w := y_load hx hs (hc.get hv)
theorem y_load_el0 {T : TypeId} {x : Operand} {b o : Nat} {v : Value} (hx : ev E x = .pointer (some ⟨b, o, none⟩)) (hc : CellsAt w ⟨b, o, none⟩ [v]) (hs : scalarT P T = true) : Yields P E ty (.load T x) w v w := y_load hx hs (hc.get (j := 0) rfl)
theorem y_len_own {x : Operand} {t e : TypeId} {s base e' sz n : Nat} {v : Value} {xs : List Value} (h : w.ownsRow base e' sz v n xs) (hx : ev E x = v) (ht : sliceT P t e s = true) (w' : World) : Yields P E ty (.call ⟨.builtin .len, #[x], #[t]⟩) w' (.int .i64 n) w' := by
  obtain ⟨a, cap, rfl⟩ := own_form h
  exact y_len hx ht
theorem el_some {α : Type} {l : List α} {i : Nat} (h : i < l.length) : ∃ a, l[i]? = some a := ⟨_, List.getElem?_eq_getElem h⟩
theorem el_lt {α : Type} {l : List α} {i : Nat} {a : α} (h : l[i]? = some a) : i < l.length := (List.getElem?_eq_some_iff.1 h).1
end el

section frames
variable {P : Program} {n : Nat} {R : Env → World → Prop} {k : List Fr} {E : Env} {w : World} {all rest : List Oper} {d : Nat} {ty : TypeId} {pos : String} {aft : Array Edge} {g : Option (Nat × Bool)}
theorem go_append2 {s x : Operand} {t e : TypeId} {base sz bytes m c len : Nat} {z v : Value} {xs news : List Value} {a : Addr} (hs : ev E s = v) (hx : ev E x = .slice (some a) m c) (own : w.ownsRow base e sz v len xs)
    (ht : P.underlying t = some (.slice e)) (hi : infoT P e z sz bytes) (hzs : z.cells.size = sz) (hsz : 0 < sz) (hm : 0 < m) (hl : news.length = m * sz) (hn : CellsAt w a news) (h1 : ∀ u ∈ news, u.oneCell' = true)
    (h63 : len + m ≤ maxLen) (hb : (len + m) * bytes ≤ 140737488355328) (hbase : base ≤ w.heap.size)
    (hg : wantedE all ⟨some d, .call ⟨.builtin .append, #[s, x], #[t, t]⟩, ty, pos, aft, g⟩ E = true)
    (h : ∀ v' w1, w1.ownsRow base e sz v' (len + m) (xs ++ news) → w.grownBy w1 v.ownBlock → (v'.ownBlock = v.ownBlock ∨ v'.ownBlock = some w.heap.size) → Go P n R (.ops all rest :: k) (upd E d v') w1) :
    Go P n R (.ops all (⟨some d, .call ⟨.builtin .append, #[s, x], #[t, t]⟩, ty, pos, aft, g⟩ :: rest) :: k) E w := by
  obtain ⟨i, hi1, hi2, hi3, hi4⟩ := hi
  obtain ⟨v', w1, hrun, hown, hgr, _⟩ := run_append_own (P := P) w base t ty e i z sz bytes ht hi1 hi2 hi3 hi4 hzs hsz v len xs own a m c news hl hn h1 h63 hb hbase
  have hblk : v'.ownBlock = v.ownBlock ∨ v'.ownBlock = some w.heap.size := by
    have hmax : len + m ≤ 9223372036854775807 := by simp only [maxLen] at h63; omega
    subst hi3 hi4
    rcases own.2 with ⟨rfl, rfl⟩ | ⟨gb, cap, cur, rfl, _, hcur, hnc, _, hcs, _⟩
    · have h48 : m * i.bytes ≤ 281474976710656 := by simp only [Nat.zero_add] at hb; omega
      have hr := run_append_nil (P := P) w t ty e i z ht hi1 hi2 a m c news hl hn hm (by omega) h48
      rw [hr] at hrun
      cases hrun
      exact .inr rfl
    · by_cases hroom : len + m ≤ cap
      · have hfit : len * i.size + news.length ≤ cur.size := by rw [hl, hcs, ← Nat.add_mul]; exact Nat.mul_le_mul_right _ hroom
        have hr := run_append_room (P := P) w t ty e i ht hi1 gb len cap cur hcur a m c news hl hn h1 hroom hfit
        rw [hr] at hrun
        cases hrun
        exact .inl rfl
      · have holds : ∀ j u, xs[j]? = some u → w.cell? ((⟨gb, 0, none⟩ : Addr).add j) = some u := own.cells (g := gb) rfl
        have hr := run_append_grow (P := P) w t ty e i z ht hi1 hi2 ⟨gb, 0, none⟩ len cap xs own.1 holds a m c news hl hn (by omega) (by omega) (growslice_fits (by omega) hb)
        rw [hr] at hrun
        cases hrun
        exact .inr rfl
  refine go_y (v := v') (w' := w1) (fun _ _ _ _ => ?_) hg (h v' w1 hown hgr hblk)
  simp [execOp, resolve, invoke, builtin, hs, hx, hrun]
theorem ne_append {w : World} {v v' : Value} {b : Nat} (hb : b < w.heap.size) (hne : some b ≠ v.ownBlock) (h : v'.ownBlock = v.ownBlock ∨ v'.ownBlock = some w.heap.size) : some b ≠ v'.ownBlock := by
  rcases h with h | h
  · rw [h]; exact hne
  · rw [h]; intro e; cases e; omega
theorem ne_new {w : World} {base e sz n b : Nat} {v : Value} {xs : List Value} (own : w.ownsRow base e sz v n xs) (hb : w.heap.size ≤ b) : some b ≠ v.ownBlock := fun hh => by have := (own.lt b hh.symm).2; omega

theorem go_loop2 {body : Code} {G H : Type} (mods : List Nat) (env : G → H → List (Nat × Value)) (I : G → H → World → Prop) (μ : G → H → Nat) (g0 : G) (j0 : H)
    (h0 : Holds E (env g0 j0)) (h1 : I g0 j0 w)
    (round : ∀ (g : G) (j : H) (X : Env) (w' : World), I g j w' →
      Go P n R (.code body :: .upto (fun E' w'' => ∃ g' j', Agree mods E' E ∧ Holds E' (env g' j') ∧ I g' j' w'' ∧ μ g' j' < μ g j) :: k) (updL (havoc mods X E) (env g j)) w') :
    Go P n R (.code (.loop body) :: k) E w := by
  refine go_loop (G := G × H) mods (fun x => env x.1 x.2) (fun x => I x.1 x.2) (fun x => μ x.1 x.2) (g0, j0) h0 h1 ?_
  rintro ⟨g, j⟩ X w' hI
  refine ⟨fun hok a hr => ?_⟩
  refine wp_mono ((round g j X w' hI).out hok a hr) ?_
  rintro e a' w'' ⟨E', hr', hq⟩
  refine ⟨E', hr', ?_⟩
  cases e with
  | normal => obtain ⟨g', j', h⟩ := hq; exact ⟨(g', j'), h⟩
  | _ => exact hq
theorem go_loop3 {body : Code} {G H L : Type} (mods : List Nat) (env : G → H → L → List (Nat × Value)) (I : G → H → L → World → Prop) (μ : G → H → L → Nat) (g0 : G) (j0 : H) (l0 : L)
    (h0 : Holds E (env g0 j0 l0)) (h1 : I g0 j0 l0 w)
    (round : ∀ (g : G) (j : H) (l : L) (X : Env) (w' : World), I g j l w' →
      Go P n R (.code body :: .upto (fun E' w'' => ∃ g' j' l', Agree mods E' E ∧ Holds E' (env g' j' l') ∧ I g' j' l' w'' ∧ μ g' j' l' < μ g j l) :: k) (updL (havoc mods X E) (env g j l)) w') :
    Go P n R (.code (.loop body) :: k) E w := by
  refine go_loop2 (G := G) (H := H × L) mods (fun g x => env g x.1 x.2) (fun g x => I g x.1 x.2) (fun g x => μ g x.1 x.2) g0 (j0, l0) h0 h1 ?_
  rintro g ⟨j, l⟩ X w' hI
  refine ⟨fun hok a hr => ?_⟩
  refine wp_mono ((round g j l X w' hI).out hok a hr) ?_
  rintro e a' w'' ⟨E', hr', hq⟩
  refine ⟨E', hr', ?_⟩
  cases e with
  | normal => obtain ⟨g', j', l', h⟩ := hq; exact ⟨g', (j', l'), h⟩
  | _ => exact hq
end frames

/-! ### A struct of two ints -/
def two (a b : Int) : Array Value := #[.int .i64 a, .int .i64 b]
def eq2T (P : Program) (t : TypeId) : Bool :=
  match P.underlying t with
  | some (.struct fs) => !P.stoodInHeld t && !P.eqGuardType P.depth t && match fs.toList with
    | [f, g] => !(f.name == "_") && !(g.name == "_") && f.offset == 0 && g.offset == 1 && (match P.underlying f.type with | some (.int .i64) => true | _ => false) && (match P.underlying g.type with | some (.int .i64) => true | _ => false)
    | _ => false
  | _ => false
theorem i64_of {P : Program} {t : TypeId} (h : (match P.underlying t with | some (.int .i64) => true | _ => false) = true) : P.underlying t = some (.int .i64) := by
  split at h
  · assumption
  · cases h
theorem check_int {P : Program} {w : World} {t : TypeId} (ht : P.underlying t = some (.int .i64)) (b : Bool) (d : Nat) (a : Int) : (Instr.checkKey b (d + 1) t (.int .i64 a)).run P w = .ok () w := by
  simp [Instr.checkKey, run_underlying ht]
theorem run_part_int {P : Program} {w : World} {t : TypeId} {cs : Array Value} {o : Nat} {v : Value} (ht : P.underlying t = some (.int .i64)) (hv : cs[o]? = some v) : (part t cs o).run P w = .ok v w := by
  simp [part, isAgg, run_underlying ht, hv]
theorem run_equalIn_two {P : Program} {w : World} {t : TypeId} (h : eq2T P t = true) (d : Nat) (a b c e : Int) : (Op.equalIn (d + 2) t (.agg (two a b)) (.agg (two c e))).run P w = .ok (decide (a = c ∧ b = e)) w := by
  unfold eq2T at h
  split at h
  · rename_i fs hu
    simp only [Bool.and_eq_true, Bool.not_eq_true'] at h
    obtain ⟨⟨h1, _⟩, h3⟩ := h
    split at h3
    · rename_i f g hfs
      simp only [Bool.and_eq_true, Bool.not_eq_true', beq_iff_eq] at h3
      obtain ⟨⟨⟨⟨⟨n1, n2⟩, o1⟩, o2⟩, t1⟩, t2⟩ := h3
      have hf : P.fieldsOf t = fs := by simp [Program.fieldsOf, hu]
      have e1 : P.underlying f.type = some (.int .i64) := i64_of t1
      have e2 : P.underlying g.type = some (.int .i64) := i64_of t2
      rw [run_equalIn_struct w (d + 1) t _ _ (by rw [hf]; exact hu) h1, hf, hfs]
      have m1 : f.name ≠ "_" := by intro hh; rw [hh] at n1; simp at n1
      have m2 : g.name ≠ "_" := by intro hh; rw [hh] at n2; simp at n2
      have p1 : (part f.type (two a b) f.offset).run P w = .ok (.int .i64 a) w := run_part_int e1 (by rw [o1]; rfl)
      have p2 : (part f.type (two c e) f.offset).run P w = .ok (.int .i64 c) w := run_part_int e1 (by rw [o1]; rfl)
      have p3 : (part g.type (two a b) g.offset).run P w = .ok (.int .i64 b) w := run_part_int e2 (by rw [o2]; rfl)
      have p4 : (part g.type (two c e) g.offset).run P w = .ok (.int .i64 e) w := run_part_int e2 (by rw [o2]; rfl)
      have q1 := run_equalIn_int (P := P) w d f.type .i64 .i64 a c e1
      have q2 := run_equalIn_int (P := P) w d g.type .i64 .i64 b e e2
      simp only [Op.eqFields, if_pos m1, if_pos m2, Sem.run_bind, p1, p2, p3, p4, q1, q2, Result.andThen_ok]
      by_cases hac : a = c
      · by_cases hbe : b = e
        · subst hac hbe
          simp [p3, p4, q2, Result.andThen]
        · subst hac
          have : (b == e) = false := by simp [hbe]
          simp [p3, p4, q2, hbe, this, Result.andThen]
      · have : (a == c) = false := by simp [hac]
        simp [hac, this]
    · cases h3
  · cases h
theorem y_eq2 {P : Program} {E : Env} {w : World} {ty : TypeId} {T T' : TypeId} {x y : Operand} {a b c e : Int} (hx : ev E x = .agg (two a b)) (hy : ev E y = .agg (two c e)) (hT : eq2T P T = true) : Yields P E ty (.binOp .eql T x y T') w (.bool (decide (a = c ∧ b = e))) w := fun _ _ _ _ => by
  have hg : (eqGuard .eql T x y (.agg (two a b)) (.agg (two c e))).run P w = .ok () w := run_eqGuard_agg w _ _ _ _ _ _ (by
    unfold eq2T at hT; split at hT
    · simp only [Bool.and_eq_true, Bool.not_eq_true'] at hT; exact hT.1.2
    · cases hT)
  have hr := run_equalIn_two (P := P) (w := w) hT 9998 a b c e
  simp only [execOp, hx, hy]
  simp [hg, run_eql_struct, hr, Result.andThen]
theorem y_ne2 {P : Program} {E : Env} {w : World} {ty : TypeId} {T T' : TypeId} {x y : Operand} {a b c e : Int} (hx : ev E x = .agg (two a b)) (hy : ev E y = .agg (two c e)) (hT : eq2T P T = true) : Yields P E ty (.binOp .neq T x y T') w (.bool (decide (¬ (a = c ∧ b = e)))) w := fun _ _ _ _ => by
  have hg : (eqGuard .neq T x y (.agg (two a b)) (.agg (two c e))).run P w = .ok () w := run_eqGuard_agg w _ _ _ _ _ _ (by
    unfold eq2T at hT; split at hT
    · simp only [Bool.and_eq_true, Bool.not_eq_true'] at hT; exact hT.1.2
    · cases hT)
  have hr := run_equalIn_two (P := P) (w := w) hT 9998 a b c e
  simp only [execOp, hx, hy]
  simp [hg, run_neq_struct, hr, Result.andThen]

/-! ### Maps that are sets: map[int]bool, every element true -/
/-- Block b is a map whose keys are those of ks, each with the element true. 'kv': the key as a value. -/
def SetAt {κ : Type} (kv : κ → Value) (w : World) (b : Nat) (ks : List κ) : Prop :=
  ∃ es clock, w.heap[b]? = some (.map es clock) ∧ es.toList.map (·.key) = ks.map kv ∧ ∀ x ∈ es.toList, x.val = .bool true
theorem SetAt.lt {κ : Type} {kv : κ → Value} {w : World} {b : Nat} {ks : List κ} (h : SetAt kv w b ks) : b < w.heap.size := by
  obtain ⟨es, cl, hb, _⟩ := h; exact (Array.getElem?_eq_some_iff.1 hb).1
theorem SetAt.ext {κ : Type} {kv : κ → Value} {w w' : World} {b : Nat} {ks : List κ} (h : SetAt kv w b ks) (hx : Ext w w') : SetAt kv w' b ks := by
  have hlt := h.lt
  obtain ⟨es, cl, hb, r⟩ := h; exact ⟨es, cl, (hx.block b hlt).trans hb, r⟩
theorem SetAt.chg {κ : Type} {kv : κ → Value} {w w' : World} {b b' : Nat} {ks : List κ} (h : SetAt kv w b ks) (hc : Chg b' w w') (hne : b ≠ b') : SetAt kv w' b ks := by
  obtain ⟨es, cl, hb, r⟩ := h; exact ⟨es, cl, (hc.2.2.2.2 b hne).trans hb, r⟩
theorem SetAt.grown {κ : Type} {kv : κ → Value} {w w' : World} {b : Nat} {row : Option Nat} {ks : List κ} (h : SetAt kv w b ks) (hg : w.grownBy w' row) (hne : some b ≠ row) : SetAt kv w' b ks := by
  have hlt := h.lt
  obtain ⟨es, cl, hb, r⟩ := h; exact ⟨es, cl, (hg.block b hlt hne).trans hb, r⟩
def iv (i : Int) : Value := .int .i64 i
def sv (s : Int × Int) : Value := .agg (two s.1 s.2)

/-- what a search finds -/
def findIdxEq {κ : Type} [DecidableEq κ] (k : κ) : List κ → Nat → Option Nat
  | [], _ => none
  | x :: l, i => if k = x then some i else findIdxEq k l (i + 1)
theorem findIdxEq_none {κ : Type} [DecidableEq κ] (k : κ) : ∀ (l : List κ) (i : Nat), findIdxEq k l i = none ↔ k ∉ l
  | [], _ => by simp [findIdxEq]
  | x :: l, i => by
    unfold findIdxEq
    by_cases h : k = x
    · simp [h]
    · simp [h, findIdxEq_none k l (i + 1)]
theorem findIdxEq_some {κ : Type} [DecidableEq κ] (k : κ) : ∀ (l : List κ) (i j : Nat), findIdxEq k l i = some j → i ≤ j ∧ l[j - i]? = some k
  | [], _, _, h => by simp [findIdxEq] at h
  | x :: l, i, j, h => by
    unfold findIdxEq at h
    by_cases hx : k = x
    · simp [hx] at h; subst h; subst hx; simp
    · simp [hx] at h
      obtain ⟨h1, h2⟩ := findIdxEq_some k l (i + 1) j h
      refine ⟨by omega, ?_⟩
      have : j - i = (j - (i + 1)) + 1 := by omega
      rw [this]
      simpa using h2
theorem run_find_int {P : Program} {w : World} {kt : TypeId} (hk : P.underlying kt = some (.int .i64)) (k : Int) (es : List MapEntry) (ks : List Int) (hes : es.map (·.key) = ks.map iv) (hv : ∀ x ∈ es, x.val = .bool true) :
    (Instr.findKey kt (iv k) es).run P w = .ok ((findIdxEq k ks 0).map fun i => (i, .bool true)) w := by
  have key : ∀ (es : List MapEntry) (ks : List Int) (i : Nat), es.map (·.key) = ks.map iv → (∀ x ∈ es, x.val = .bool true) → Instr.findNow (.int .i64) (iv k) es i = some ((findIdxEq k ks i).map fun i => (i, .bool true)) := by
    intro es
    induction es with
    | nil => intro ks i h _; cases ks with
      | nil => rfl
      | cons _ _ => simp at h
    | cons x es ih =>
      intro ks i h hv
      cases ks with
      | nil => simp at h
      | cons q ks =>
        simp only [List.map_cons, List.cons.injEq] at h
        have hs : Instr.sameNow (.int .i64) (iv k) x.key = some (k == q) := by rw [h.1]; simp [Instr.sameNow, iv]
        unfold Instr.findNow findIdxEq
        rw [hs]
        by_cases hkq : k = q
        · subst hkq; simp [hv x (by simp)]
        · have : (k == q) = false := by simp [hkq]
          simp only [this, hkq, if_false]
          exact ih ks (i + 1) h.2 (fun y hy => hv y (by simp [hy]))
  simp [Instr.findKey, run_underlying hk, key es ks 0 hes hv]
theorem run_find_two {P : Program} {w : World} {kt : TypeId} (hk : eq2T P kt = true) (k : Int × Int) (es : List MapEntry) (ks : List (Int × Int)) (hes : es.map (·.key) = ks.map sv) (hv : ∀ x ∈ es, x.val = .bool true) :
    (Instr.findKey kt (sv k) es).run P w = .ok ((findIdxEq k ks 0).map fun i => (i, .bool true)) w := by
  have hu : ∃ fs, P.underlying kt = some (.struct fs) := by
    unfold eq2T at hk; split at hk
    · exact ⟨_, by assumption⟩
    · cases hk
  obtain ⟨fs, hu⟩ := hu
  have ask : ∀ (es : List MapEntry) (ks : List (Int × Int)) (i : Nat), es.map (·.key) = ks.map sv → (∀ x ∈ es, x.val = .bool true) → (Instr.findAsking kt (sv k) es i).run P w = .ok ((findIdxEq k ks i).map fun i => (i, .bool true)) w := by
    intro es
    induction es with
    | nil => intro ks i h _; cases ks with
      | nil => rfl
      | cons _ _ => simp at h
    | cons x es ih =>
      intro ks i h hv
      cases ks with
      | nil => simp at h
      | cons q ks =>
        simp only [List.map_cons, List.cons.injEq] at h
        have hs : (Op.equal kt (sv k) x.key).run P w = .ok (decide (k.1 = q.1 ∧ k.2 = q.2)) w := by
          rw [h.1]; exact run_equalIn_two hk 9998 _ _ _ _
        have hkq : (k.1 = q.1 ∧ k.2 = q.2) ↔ k = q := by rw [Prod.ext_iff]
        unfold Instr.findAsking findIdxEq
        simp only [Sem.run_bind, hs, Result.andThen_ok]
        by_cases hq : k = q
        · subst hq; simp [hv x (by simp)]
        · have hd : decide (k.1 = q.1 ∧ k.2 = q.2) = false := decide_eq_false (fun hh => hq (hkq.1 hh))
          simp only [hd, hq, if_false]
          exact ih ks (i + 1) h.2 (fun y hy => hv y (by simp [hy]))
  cases es with
  | nil =>
    cases ks with
    | nil => simp [Instr.findKey, run_underlying hu, Instr.findNow, findIdxEq]
    | cons _ _ => simp at hes
  | cons x es =>
    have hn : Instr.findNow (.struct fs) (sv k) (x :: es) 0 = none := by
      unfold Instr.findNow; simp [Instr.sameNow]
    have := ask (x :: es) ks 0 hes hv
    simp [Instr.findKey, run_underlying hu, hn, this]
/-- A key's type: what a search needs. -/
structure KeyOk {κ : Type} [DecidableEq κ] (P : Program) (kt : TypeId) (kv : κ → Value) : Prop where
  find : ∀ (w : World) (k : κ) (es : List MapEntry) (ks : List κ), es.map (·.key) = ks.map kv → (∀ x ∈ es, x.val = .bool true) → (Instr.findKey kt (kv k) es).run P w = .ok ((findIdxEq k ks 0).map fun i => (i, .bool true)) w
  check : ∀ (w : World) (k : κ) (b : Bool), (Instr.checkKey b 10000 kt (kv k)).run P w = .ok () w
  same : ∀ k : κ, Instr.sameBits 10000 (kv k) (kv k) = true
theorem keyOk_int {P : Program} {kt : TypeId} (hk : P.underlying kt = some (.int .i64)) : KeyOk P kt iv := by
  exact ⟨fun w k es ks h1 h2 => run_find_int hk k es ks h1 h2, fun w k b => check_int hk b 9999 k, fun k => by simp [Instr.sameBits, iv]⟩
theorem keyOk_two {P : Program} {kt : TypeId} (hk : eq2T P kt = true) : KeyOk P kt sv := by
  refine ⟨fun w k es ks h1 h2 => run_find_two hk k es ks h1 h2, fun w k b => ?_, fun k => by simp [Instr.sameBits, sv, two]⟩
  unfold eq2T at hk
  split at hk
  · rename_i fs hu
    simp only [Bool.and_eq_true, Bool.not_eq_true'] at hk
    obtain ⟨_, h3⟩ := hk
    split at h3
    · rename_i f g hfs
      simp only [Bool.and_eq_true, Bool.not_eq_true', beq_iff_eq] at h3
      obtain ⟨⟨⟨⟨⟨n1, n2⟩, o1⟩, o2⟩, t1⟩, t2⟩ := h3
      have e1 : P.underlying f.type = some (.int .i64) := i64_of t1
      have e2 : P.underlying g.type = some (.int .i64) := i64_of t2
      have p1 : (part f.type (two k.1 k.2) f.offset).run P w = .ok (.int .i64 k.1) w := run_part_int e1 (by rw [o1]; rfl)
      have p2 : (part g.type (two k.1 k.2) g.offset).run P w = .ok (.int .i64 k.2) w := run_part_int e2 (by rw [o2]; rfl)
      have m1 : f.name ≠ "_" := by intro hh; rw [hh] at n1; simp at n1
      have m2 : g.name ≠ "_" := by intro hh; rw [hh] at n2; simp at n2
      have c1 : ∀ a : Int, (Instr.checkKey b 9999 f.type (.int .i64 a)).run P w = .ok () w := fun a => check_int e1 b 9998 a
      have c2 : ∀ a : Int, (Instr.checkKey b 9999 g.type (.int .i64 a)).run P w = .ok () w := fun a => check_int e2 b 9998 a
      unfold Instr.checkKey
      simp only [Sem.run_bind, run_underlying hu, Result.andThen_ok, sv]
      rw [← Array.forIn_toList, hfs]
      simp [m1, m2, p1, p2, c1, c2]
    · cases h3
  · cases hk

def mapT (P : Program) (t kt et : TypeId) : Bool := (match P.underlying t with | some (.map k e) => k == kt && e == et | _ => false) && (match zeroT P et with | some (.bool false) => true | _ => false)
theorem mapT_spec {P : Program} {t kt et : TypeId} (h : mapT P t kt et = true) : P.underlying t = some (.map kt et) ∧ ∀ w, (zeroValue et).run P w = .ok (.bool false) w := by
  unfold mapT at h
  simp only [Bool.and_eq_true] at h
  obtain ⟨h1, h2⟩ := h
  constructor
  · split at h1
    · rename_i k e he; simp only [Bool.and_eq_true, beq_iff_eq] at h1; obtain ⟨rfl, rfl⟩ := h1; exact he
    · cases h1
  · intro w
    unfold zeroT at h2
    cases hi : P.info? et with
    | none => simp [hi] at h2
    | some i =>
      simp only [hi, Option.bind_some] at h2
      split at h2
      · rename_i hz; simp [zeroValue, typeInfo, hi, hz]
      · cases h2
section maps
variable {P : Program} {E : Env} {w : World} {ty : TypeId} {κ : Type} {kv : κ → Value}
theorem y_lookup [DecidableEq κ] {t kt et : TypeId} {m x : Operand} {b : Nat} {k : κ} {ks : List κ} (hm : ev E m = .map (some b)) (hx : ev E x = kv k) (hs : SetAt kv w b ks) (hk : KeyOk P kt kv) (ht : mapT P t kt et = true) : Yields P E ty (.lookup t m x false) w (.bool (decide (k ∈ ks))) w := fun _ _ _ _ => by
  obtain ⟨hu, hz⟩ := mapT_spec ht
  obtain ⟨es, cl, hb, he, hv⟩ := hs
  have hf := hk.find w k es.toList ks he hv
  have hc := hk.check w k
  have hd : decide (k ∈ ks) = (findIdxEq k ks 0).isSome := by
    cases h : findIdxEq k ks 0 with
    | none => simpa using (findIdxEq_none k ks 0).1 h
    | some j => obtain ⟨_, h2⟩ := findIdxEq_some k ks 0 j h; simpa using List.mem_of_getElem? h2
  have hgo : (getObj b).run P w = .ok (.map es cl) w := by simp [getObj, Sem.run, hb]
  simp only [execOp, hm, hx]
  unfold Instr.lookup
  simp only [Sem.run_bind, run_underlying hu, Result.andThen_ok, hgo, Sem.run_pure, hc, hf]
  rw [hd]
  cases findIdxEq k ks 0 with
  | none => simp [hz]
  | some j => simp
theorem s_mapset [DecidableEq κ] {t kt et : TypeId} {m x y : Operand} {b : Nat} {k : κ} {ks : List κ} (hm : ev E m = .map (some b)) (hx : ev E x = kv k) (hy : ev E y = .bool true) (hs : SetAt kv w b ks) (hk : KeyOk P kt kv) (ht : mapT P t kt et = true) :
    ∃ w', Skips P E ty (.mapUpdate t m x y) w w' ∧ Chg b w w' ∧ SetAt kv w' b (if k ∈ ks then ks else ks ++ [k]) := by
  obtain ⟨hu, hz⟩ := mapT_spec ht
  have hlt := hs.lt
  obtain ⟨es, cl, hb, he, hv⟩ := hs
  have hf := hk.find w k es.toList ks he hv
  have hc := hk.check w k
  have hgo : (getObj b).run P w = .ok (.map es cl) w := by simp [getObj, Sem.run, hb]
  have hset : ∀ o, (setObj b o).run P w = .ok () { w with heap := w.heap.setIfInBounds b o } := fun o => by simp [setObj, Sem.run, hb]
  have hchg : ∀ o, Chg b w { w with heap := w.heap.setIfInBounds b o } := fun o => ⟨rfl, rfl, rfl, by simp, fun q hq => by simp [Array.getElem?_setIfInBounds, Ne.symm hq]⟩
  have hnew : ∀ o, ({ w with heap := w.heap.setIfInBounds b o } : World).heap[b]? = some o := fun o => by simp [Array.getElem?_setIfInBounds, hlt]
  cases hfi : findIdxEq k ks 0 with
  | none =>
    have hnk := (findIdxEq_none k ks 0).1 hfi
    refine ⟨_, fun _ _ _ _ => ?_, hchg (.map (es.push { key := kv k, val := .bool true, born := cl }) (cl + 1)), ?_⟩
    · simp only [execOp, hm, hx, hy]
      unfold Instr.mapUpdate
      simp only [Sem.run_bind, run_underlying hu, Result.andThen_ok, hgo, hc, hf, hfi, Option.map_none, hset]
      simp
    · rw [if_neg hnk]
      exact ⟨_, _, hnew _, by simp [he], fun x hx => by
        simp at hx
        rcases hx with hx | hx
        · exact hv x (by simpa using hx)
        · rw [hx]⟩
  | some j =>
    obtain ⟨_, h2⟩ := findIdxEq_some k ks 0 j hfi
    simp only [Nat.sub_zero] at h2
    have hkin := List.mem_of_getElem? h2
    have hkey : (es[j]?).map (·.key) = some (kv k) := by
      have h3 : (es.toList.map (·.key))[j]? = some (kv k) := by rw [he]; simp [h2]
      simpa using h3
    have hsame := hk.same k
    refine ⟨_, fun _ _ _ _ => ?_, hchg (.map (es.modify j fun e => { e with key := kv k, val := .bool true }) cl), ?_⟩
    · simp only [execOp, hm, hx, hy]
      unfold Instr.mapUpdate
      simp only [Sem.run_bind, run_underlying hu, Result.andThen_ok, hgo, hc, hf, hfi, Option.map_some]
      simp [hkey, Instr.keyThatStays, hsame, hset]
    · rw [if_pos hkin]
      refine ⟨_, _, hnew _, ?_, ?_⟩
      · rw [← he]
        apply List.ext_getElem?
        intro q
        simp only [List.getElem?_map, Array.getElem?_toList, Array.getElem?_modify]
        by_cases hjq : j = q
        · subst hjq
          simp only [if_true]
          cases hes : es[j]? with
          | none => rfl
          | some x => simp [hes] at hkey; simp [hkey]
        · simp [hjq]
      · intro x hx
        rw [Array.mem_toList_iff, Array.mem_iff_getElem?] at hx
        obtain ⟨q, hq⟩ := hx
        rw [Array.getElem?_modify] at hq
        by_cases hjq : j = q
        · simp only [hjq, if_true] at hq
          cases hes : es[q]? with
          | none => simp [hes] at hq
          | some y => simp [hes] at hq; rw [← hq]
        · simp only [hjq, if_false] at hq
          exact hv x (by rw [Array.mem_toList_iff]; exact Array.mem_of_getElem? hq)
theorem y_len_set {t kt et : TypeId} {m : Operand} {b : Nat} {ks : List κ} (hm : ev E m = .map (some b)) (hs : SetAt kv w b ks) (ht : mapT P t kt et = true) : Yields P E ty (.call ⟨.builtin .len, #[m], #[t]⟩) w (.int .i64 ks.length) w := fun _ _ _ _ => by
  obtain ⟨hu, hz⟩ := mapT_spec ht
  obtain ⟨es, cl, hb, he, hv⟩ := hs
  have hgo : (getObj b).run P w = .ok (.map es cl) w := by simp [getObj, Sem.run, hb]
  have hlen : es.size = ks.length := by have := congrArg List.length he; simpa using this
  simp [execOp, resolve, invoke, builtin, Builtin.len_, hm, run_underlying hu, hgo, goInt, hlen]
theorem y_makeMap {t : TypeId} : Yields P E ty (.makeMap t none) w (.map (some w.heap.size)) (w.alloc (.map #[] 0)) := fun _ _ _ _ => by
  simp [execOp, Instr.makeMap]
end maps
section mframes
variable {P : Program} {n : Nat} {R : Env → World → Prop} {k : List Fr} {E : Env} {w : World} {all rest : List Oper} {d : Nat} {ty : TypeId} {pos : String} {aft : Array Edge} {g : Option (Nat × Bool)} {κ : Type}
theorem go_makeMap (kv : κ → Value) {t : TypeId} (hg : wantedE all ⟨some d, .makeMap t none, ty, pos, aft, g⟩ E = true)
    (h : ∀ w1 b, Ext w w1 → w.heap.size ≤ b → SetAt kv w1 b [] → Go P n R (.ops all rest :: k) (upd E d (.map (some b))) w1) :
    Go P n R (.ops all (⟨some d, .makeMap t none, ty, pos, aft, g⟩ :: rest) :: k) E w :=
  go_y y_makeMap hg (h _ _ (Ext.alloc w _) (Nat.le_refl _) ⟨#[], 0, heap_alloc_new w _, by simp, by simp⟩)
theorem go_mapset [DecidableEq κ] {kv : κ → Value} {t kt et : TypeId} {m x y : Operand} {b : Nat} {kk : κ} {ks : List κ} (hm : ev E m = .map (some b)) (hx : ev E x = kv kk) (hy : ev E y = .bool true) (hs : SetAt kv w b ks) (hk : KeyOk P kt kv) (ht : mapT P t kt et = true)
    (hg : wantedE all ⟨none, .mapUpdate t m x y, ty, pos, aft, g⟩ E = true)
    (h : ∀ w1, Chg b w w1 → SetAt kv w1 b (if kk ∈ ks then ks else ks ++ [kk]) → Go P n R (.ops all rest :: k) E w1) :
    Go P n R (.ops all (⟨none, .mapUpdate t m x y, ty, pos, aft, g⟩ :: rest) :: k) E w := by
  obtain ⟨w1, h1, h2, h3⟩ := s_mapset (P := P) (E := E) (w := w) (ty := ty) hm hx hy hs hk ht
  exact go_s h1 hg (h w1 h2 h3)
end mframes
end Go.Gw
namespace Go.Gw
open Go Go.RowKit
/-! ### Slices of the call's own, typed -/
def Own {α : Type} (w : World) (base : Nat) (e : TypeId) (sz : Nat) (f : α → List Value) (v : Value) (l : List α) : Prop := w.ownsRow base e sz v l.length (l.flatMap f)
section own
variable {α : Type} {w w' : World} {base : Nat} {e : TypeId} {sz : Nat} {f : α → List Value} {v : Value} {l : List α}
theorem Own.ext (h : Own w base e sz f v l) (hx : Ext w w') : Own w' base e sz f v l := own_ext h hx
theorem Own.chg {b : Nat} (h : Own w base e sz f v l) (hc : Chg b w w') (hne : some b ≠ v.ownBlock) : Own w' base e sz f v l := own_chg h hc hne
theorem Own.slr (h : Own w base e sz f v l) (hf : ∀ a, (f a).length = sz) : SlR w sz f v l := own_slr h hf
theorem Own.nil (w : World) (base : Nat) (e : TypeId) (sz : Nat) (f : α → List Value) : Own w base e sz f (.slice none 0 0) [] := World.ownsRow_nil w base e sz
theorem Own.ne {b : Nat} (h : Own w base e sz f v l) (hb : b < base) : some b ≠ v.ownBlock := own_ne h hb
theorem Own.ne_new {b : Nat} (h : Own w base e sz f v l) (hb : w.heap.size ≤ b) : some b ≠ v.ownBlock := Gw.ne_new h hb
theorem Own.below {w0 : World} (h : Own w base e sz f v l) (hx : Ext w0 w) (hg : w.grownBy w' v.ownBlock) (hb : w0.heap.size ≤ base) : Ext w0 w' := below_grown hx hg h hb
theorem Own.lit {b : Nat} {cs : Array Value} {a : α} (hb : Blk w b cs e) (hcs : cs.toList = f a) (hl : (f a).length = sz) (hbase : base ≤ b) : Own w base e sz f (.slice (some ⟨b, 0, none⟩) 1 1) [a] := by
  refine ⟨by simp [hl], .inr ⟨b, 1, cs, rfl, hbase, hb, by simp, by decide, ?_, ?_⟩⟩
  · rw [← Array.length_toList, hcs, hl]; simp
  · rw [hcs]; simp [hl, List.take_of_length_le]
/-- two owned rows: an append to one keeps the other -/
theorem Own.grown {β : Type} {base2 e2 sz2 : Nat} {f2 : β → List Value} {v2 : Value} {l2 : List β} (h2 : Own w base2 e2 sz2 f2 v2 l2) (hg : w.grownBy w' v.ownBlock) (hne : v2.ownBlock = none ∨ v2.ownBlock ≠ v.ownBlock) : Own w' base2 e2 sz2 f2 v2 l2 := h2.kept hg hne
theorem y_len_Own {P : Program} {E : Env} {ty : TypeId} {x : Operand} {t e' : TypeId} {s : Nat} (h : Own w base e sz f v l) (hx : ev E x = v) (ht : sliceT P t e' s = true) (w' : World) : Yields P E ty (.call ⟨.builtin .len, #[x], #[t]⟩) w' (.int .i64 l.length) w' := y_len_own h hx ht w'
end own
section frames
variable {P : Program} {n : Nat} {R : Env → World → Prop} {k : List Fr} {E : Env} {w : World} {all rest : List Oper} {d : Nat} {ty : TypeId} {pos : String} {aft : Array Edge} {g : Option (Nat × Bool)} {α : Type} {f : α → List Value}
/-- append(l, a) -/
theorem go_app1 {s x : Operand} {t e e' : TypeId} {base sz bytes bb : Nat} {z v : Value} {l : List α} (a : α) {cs : Array Value} (hs : ev E s = v) (hx : ev E x = .slice (some ⟨bb, 0, none⟩) 1 1) (own : Own w base e sz f v l) (hblk : Blk w bb cs e') (hcs : cs.toList = f a) (hfl : (f a).length = sz)
    (ht : P.underlying t = some (.slice e)) (hi : infoT P e z sz bytes) (hzs : z.cells.size = sz) (hsz : 0 < sz) (h1 : ∀ u ∈ f a, u.oneCell' = true)
    (hby : 0 < bytes) (hb : (l.length + 1) * bytes ≤ 140737488355328) (hbase : base ≤ w.heap.size)
    (hg : wantedE all ⟨some d, .call ⟨.builtin .append, #[s, x], #[t, t]⟩, ty, pos, aft, g⟩ E = true)
    (h : ∀ v' w1, Own w1 base e sz f v' (l ++ [a]) → w.grownBy w1 v.ownBlock → (v'.ownBlock = v.ownBlock ∨ v'.ownBlock = some w.heap.size) → Go P n R (.ops all rest :: k) (upd E d v') w1) :
    Go P n R (.ops all (⟨some d, .call ⟨.builtin .append, #[s, x], #[t, t]⟩, ty, pos, aft, g⟩ :: rest) :: k) E w := by
  have h63 : l.length + 1 ≤ maxLen := by
    have : (l.length + 1) * 1 ≤ (l.length + 1) * bytes := Nat.mul_le_mul_left _ hby
    simp only [maxLen]; omega
  refine go_append2 hs hx own ht hi hzs hsz (by omega) (news := f a) (by simp [hfl]) (by rw [← hcs]; exact hblk.cellsAt) h1 h63 hb hbase hg ?_
  intro v' w1 ho hgr hbk
  refine h v' w1 ?_ hgr hbk
  unfold Own
  simpa using ho
/-- make([]T, 0, c) -/
theorem go_mk {t e : TypeId} {lo co : Operand} {sz bytes c : Nat} {z : Value} {ci : Int} (f : α → List Value) (hl : ev E lo = .int .i64 0) (hc : ev E co = .int .i64 ci) (hci : ci = (c : Int)) (ht : P.underlying t = some (.slice e)) (hi : infoT P e z sz bytes) (hb : bytes * c ≤ 281474976710656) (h63 : c ≤ 9223372036854775807)
    (hg : wantedE all ⟨some d, .makeSlice t lo co, ty, pos, aft, g⟩ E = true)
    (h : ∀ v' w1, Own w1 w.heap.size e sz f v' ([] : List α) → Ext w w1 → Go P n R (.ops all rest :: k) (upd E d v') w1) :
    Go P n R (.ops all (⟨some d, .makeSlice t lo co, ty, pos, aft, g⟩ :: rest) :: k) E w :=
  go_make hl hc hci ht hi hb (by simp only [maxLen]; omega) (Nat.le_refl _) hg (fun v' w1 ho hx => h v' w1 ho hx)
theorem splice_foldl (off : Nat) : ∀ (l : List Value) (j : Nat) (cs : Array Value), off + j + l.length ≤ cs.size →
    ((l.zipIdx j).foldl (fun cs (x : Value × Nat) => cs.setIfInBounds (off + x.2) x.1) cs).toList = cs.toList.take (off + j) ++ l ++ cs.toList.drop (off + j + l.length)
  | [], j, cs, _ => by simp
  | x :: l, j, cs, h => by
    simp only [List.zipIdx_cons, List.foldl_cons]
    simp only [List.length_cons] at h
    rw [splice_foldl off l (j + 1) _ (by simp; omega)]
    have hlt : off + j < cs.size := by omega
    have hlt' : off + j < cs.toList.length := by simpa using hlt
    simp only [Array.toList_setIfInBounds]
    rw [List.take_set, List.drop_set_of_lt (by omega), show off + (j + 1) = (off + j) + 1 from by omega, List.take_succ_eq_append_getElem hlt']
    rw [List.set_append_right _ _ (by simp; omega)]
    simp [Nat.min_eq_left (Nat.le_of_lt hlt), show off + j + 1 + l.length = off + j + (l.length + 1) from by omega]
theorem fill_seq (sz : Nat) : ∀ (vs : List Value) (k : Nat) (cs : Array Value), (∀ v ∈ vs, v.cells.size = sz) → (k + vs.length) * sz ≤ cs.size →
    ∃ r, Instr.fill (fun i => some (i * sz, sz)) cs ((vs.zipIdx k).map fun x => (x.2, x.1)) = some r ∧ r.toList = cs.toList.take (k * sz) ++ vs.flatMap (·.cells.toList) ++ cs.toList.drop ((k + vs.length) * sz) ∧ r.size = cs.size
  | [], k, cs, _, _ => ⟨cs, by simp [Instr.fill], by simp, rfl⟩
  | v :: vs, k, cs, hv, h => by
    have hs : v.cells.size = sz := hv v (by simp)
    have h1 : (k + (vs.length + 1)) * sz = k * sz + vs.length * sz + sz := by rw [Nat.add_mul, Nat.succ_mul]; omega
    simp only [List.length_cons, h1] at h
    have hle : k * sz + v.cells.size ≤ cs.size := by omega
    have hfold := splice_foldl (k * sz) v.cells.toList 0 cs (by simp; omega)
    simp only [Nat.add_zero] at hfold
    generalize hc' : (v.cells.toList.zipIdx 0).foldl (fun cs (x : Value × Nat) => cs.setIfInBounds (k * sz + x.2) x.1) cs = cs' at hfold
    have hsz' : cs'.size = cs.size := by
      have := congrArg List.length hfold
      simp only [Array.length_toList, List.length_append, List.length_take, List.length_drop] at this
      omega
    have h2 : (k + 1 + vs.length) * sz = k * sz + vs.length * sz + sz := by rw [Nat.add_mul, Nat.add_mul]; omega
    obtain ⟨r, hr, hrl, hrs⟩ := fill_seq sz vs (k + 1) cs' (fun x hx => hv x (by simp [hx])) (by rw [h2, hsz']; exact h)
    refine ⟨r, ?_, ?_, by rw [hrs, hsz']⟩
    · simp only [List.zipIdx_cons, List.map_cons]
      unfold Instr.fill
      simp only [hs]
      rw [if_neg (by simp; omega)]
      rw [← hr, ← hc', ← Array.foldl_toList]
      simp
    · rw [hrl, hfold]
      have e1 : (k + 1) * sz = k * sz + sz := Nat.succ_mul k sz
      have e2 : (k + (vs.length + 1)) * sz = (k + 1 + vs.length) * sz := by rw [h2, h1]
      have l1 : (cs.toList.take (k * sz)).length = k * sz := by simp; omega
      have l2 : v.cells.toList.length = sz := by simpa using hs
      rw [e1, List.flatMap_cons, List.length_cons, e2]
      have l3 : (cs.toList.take (k * sz) ++ v.cells.toList).length = k * sz + sz := by rw [List.length_append, l1, l2]
      congr 1
      · rw [← List.append_assoc, List.take_left' l3]
      · rw [List.drop_append, List.drop_of_length_le (by rw [l3, h2]; omega), List.nil_append, List.drop_drop, l3, l2, h2]
        congr 1
        omega
theorem go_lit {T e : TypeId} {sz len : Nat} {parts : List (Nat × Operand)} {z : Value} (vs : List Value) (cs : Array Value) (ht : sliceT P T e sz = true) (hz : zeroT P e = some z) (hlen : len * sz ≤ 16777216) (h0 : len * sz ≠ 0)
    (hp : (parts.map fun x => (x.1, ev E x.2)) = (vs.zipIdx 0).map fun x => (x.2, x.1)) (hv : ∀ v ∈ vs, v.cells.size = sz) (hl : vs.length = len) (hcs : vs.flatMap (·.cells.toList) = cs.toList)
    (hg : wantedE all ⟨some d, .buildSlice T len parts.toArray, ty, pos, aft, g⟩ E = true)
    (h : ∀ w1 b, Ext w w1 → w.heap.size ≤ b → Blk w1 b cs e → Go P n R (.ops all rest :: k) (upd E d (.slice (some ⟨b, 0, none⟩) len len)) w1) :
    Go P n R (.ops all (⟨some d, .buildSlice T len parts.toArray, ty, pos, aft, g⟩ :: rest) :: k) E w := by
  obtain ⟨r, hr, hrl, hrs⟩ := fill_seq sz vs 0 ((Array.range (len * sz)).map (z.cells[· % z.cells.size]!)) hv (by simp [hl])
  have hrc : r = cs := by
    apply Array.ext'
    rw [hrl, hcs]
    simp [hl]
  subst hrc
  exact go_buildSlice r ht hz hlen (by rw [hp]; exact hr) h0 hg h
end frames
theorem slr_lit {α : Type} {w : World} {b e sz : Nat} {cs : Array Value} {f : α → List Value} (l : List α) (hb : Blk w b cs e) (hcs : cs.toList = l.flatMap f) (hf : ∀ a, (f a).length = sz) (hl : l.length ≤ 1000) : SlR w sz f (.slice (some ⟨b, 0, none⟩) l.length l.length) l := by
  have hlen : (l.flatMap f).length = l.length * sz := by
    clear hcs hl
    induction l with
    | nil => simp
    | cons a l ih => rw [List.flatMap_cons, List.length_append, hf, ih, List.length_cons, Nat.succ_mul]; omega
  refine own_slr (base := 0) (e := e) ⟨hlen, .inr ⟨b, l.length, cs, rfl, Nat.zero_le _, hb, Nat.le_refl _, by simp only [maxLen]; omega, ?_, ?_⟩⟩ hf
  · rw [← Array.length_toList, hcs, hlen]
  · rw [hcs, ← hlen]; exact List.take_length
/-- every block that v leads to at once is from n on -/
def Frs (n : Nat) (v : Value) : Prop := ∀ g, v.ownBlock = some g → n ≤ g
theorem SlR.chg {α : Type} {w w' : World} {sz b : Nat} {f : α → List Value} {v : Value} {l : List α} (h : SlR w sz f v l) (hc : Chg b w w') (hne : ∀ g, v.ownBlock = some g → g ≠ b) : SlR w' sz f v l := by
  rcases h with h | ⟨b', o, cap, hv, hcap, hh⟩
  · exact .inl h
  · refine .inr ⟨b', o, cap, hv, hcap, fun i a hi j u hu => ?_⟩
    have hb : b' ≠ b := hne b' (by rw [hv]; rfl)
    have := hh i a hi j u hu
    rw [add_lit] at this ⊢
    rw [cell_chg hc hb]
    exact this
theorem Own.frs {α : Type} {w : World} {base e sz n : Nat} {f : α → List Value} {v : Value} {l : List α} (h : Own w base e sz f v l) (hn : n ≤ base) : Frs n v := fun g hg => by have := (World.ownsRow.lt h g hg).1; omega
end Go.Gw
