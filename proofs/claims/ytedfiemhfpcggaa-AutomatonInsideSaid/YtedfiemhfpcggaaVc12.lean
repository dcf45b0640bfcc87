/- Stores. -/
import Derived.Test.YtedfiemhfpcggaaVc11
namespace Go.Vc
open Go Go.RowKit Go.Gw
def splice (off n : Nat) (cs ps : List C) : List C := cs.take off ++ ps ++ cs.drop (off + n)
def storeS (cx : Cx) (st : St) (T : TypeId) (p v : Operand) : Option (Option Prop × St) := do
  let ti ← cx.ti T
  let c ← (st.ev [] p).bind c1
  match c with
  | .box k off => do
    let s ← st.ev [] v
    match st.L k with
    | .box T' cs => bif s.cs.all notDead && Nat.beq s.cs.length ti.ty.size && Nat.ble (off + ti.ty.size) cs.length then some (none, st.setL k (.box T' (splice off ti.ty.size cs s.cs))) else none
    | _ => none
  | .elp k sz i off => do
    let st1 := settleO st v
    let s ← st1.ev [] v
    match st1.L k with
    | .row t e l => do
      bif s.cs.all notDead && Nat.beq s.cs.length ti.ty.size && Nat.beq sz t.size && Nat.ble (off + ti.ty.size) t.size then
        (match pack t (splice off ti.ty.size (explode t (l.getD i t.dflt)) s.cs) with
         | some (x, []) => some (none, st1.setL k (.row t e (l.set i x)))
         | _ => none) else none
    | _ => none
  | _ => none
/-- m[x] = y -/
def mapUpS (cx : Cx) (st : St) (T : TypeId) (m x y : Operand) : Option St := do
  let ti ← cx.ti T
  let c ← ((settleO st y).ev [] m).bind c1
  let sk ← (settleO st y).ev [] x
  let sy ← (settleO st y).ev [] y
  match ti.ty, c with
  | .mp ka kt va vt, .mp k => do
    let es ← mapC (settleO st y) ka kt va vt (.mp k)
    let key ← packS ka kt sk
    let v ← packS va vt sy
    some ((settleO st y).setL k (.map ka kt va vt (mput kt key v es)))
  | _, _ => none
section
variable {za : Zn} {w0 w w' : World} {Z Z' : Nat → Prop} {B : Nat → Value} {st st' : St} {E : Env} {cx : Cx} {φ : Option Prop} {d : Tmp} {all : List Oper} {ty : TypeId} {pos : String} {aft : Array Edge} {g : Option (Nat × Bool)} {k : St → Prop}
theorem RCs.one (h : Rel za w0 st E w Z B) : ∀ {cs : List C} {vs : List Value}, cs.all notDead = true → RCs w Z B cs vs → ∀ u ∈ vs, u.oneCell' = true
  | [], _, _, hr => by rw [show _ = _ from hr]; exact one_nil
  | c :: cs, _, hd, ⟨v, vs', e, h1, h2⟩ => by
    simp only [List.all_cons, Bool.and_eq_true] at hd
    rw [e]
    exact one_cons (RC.one h hd.1 h1) (RCs.one h hd.2 h2)
theorem splice_ok {off n : Nat} {cs ps : List C} {vs us : List Value} (h : RCs w Z B cs vs) (hp : RCs w Z B ps us) (hn : ps.length = n) : RCs w Z B (splice off n cs ps) (vs.take off ++ us ++ vs.drop (off + us.length)) := by
  have : us.length = n := by rw [← hn, hp.len]
  rw [this]
  exact ((h.take off).append hp).append (h.drop (off + n))
theorem splice_take {α : Type} {cur us : List α} {n a sz off m : Nat} (hm : us.length = m) (h1 : a + sz ≤ n) (h2 : n ≤ cur.length) (h3 : off + m ≤ sz) :
    (cur.take (a + off) ++ us ++ cur.drop (a + off + m)).take n = (cur.take n).take a ++ ((((cur.take n).drop a).take sz).take off ++ us ++ (((cur.take n).drop a).take sz).drop (off + m)) ++ (cur.take n).drop (a + sz) := by
  have e1 : (cur.take n).take a = cur.take a := by rw [List.take_take, Nat.min_eq_left (by omega)]
  have e2 : ((cur.take n).drop a).take sz = (cur.drop a).take sz := by rw [List.drop_take, List.take_take, Nat.min_eq_left (by omega)]
  have e3 : ((cur.drop a).take sz).take off = (cur.drop a).take off := by rw [List.take_take, Nat.min_eq_left (by omega)]
  have e4 : ((cur.drop a).take sz).drop (off + m) = (cur.drop (a + off + m)).take (sz - (off + m)) := by rw [List.drop_take, List.drop_drop, Nat.add_assoc]
  have e5 : (cur.take n).drop (a + sz) = (cur.drop (a + sz)).take (n - (a + sz)) := by rw [List.drop_take]
  have e6 : cur.take a ++ (cur.drop a).take off = cur.take (a + off) := by rw [List.take_add]
  have e7 : (cur.drop (a + off + m)).take (sz - (off + m)) ++ (cur.drop (a + sz)).take (n - (a + sz)) = (cur.drop (a + off + m)).take (n - (a + off + m)) := by
    have : n - (a + off + m) = (sz - (off + m)) + (n - (a + sz)) := by omega
    rw [this, List.take_add, List.drop_drop]
    congr 3
    omega
  rw [e1, e2, e3, e4, e5]
  have hl : (cur.take (a + off)).length = a + off := by rw [List.length_take]; omega
  rw [List.take_append, List.take_of_length_le (by rw [List.length_append, hl, hm]; omega), List.length_append, hl, hm, ← e7, ← e6]
  simp only [List.append_assoc]
/-- Is the thing that is written new since the mark? -/
def frO (k0 : Nat) (st : St) : Op → Bool
  | .store _ p _ => match (st.ev [] p).bind c1 with
    | some (.box k _) => Nat.ble k0 k
    | some (.elp k _ _ _) => Nat.ble k0 k
    | _ => false
  | _ => false
theorem below_chg {B0 b : Nat} (hc : Chg b w w') (hb : B0 ≤ b) : Below B0 w w' := ⟨hc.1, hc.2.1, hc.2.2.1, by rw [hc.2.2.2.1]; exact Nat.le_refl _, fun k hk => hc.2.2.2.2 k (by omega)⟩
theorem storeS_ok (h : Rel za w0 st E w Z B) (hty : tysOk cx.P cx.tys = true) {T : TypeId} {p v : Operand} (hs : storeS cx st T p v = some (φ, st')) (hk : k st') (hg : wantedE all ⟨none, .store T p v, ty, pos, aft, g⟩ E = true) : stepI cx.P all ⟨none, .store T p v, ty, pos, aft, g⟩ (fun E' w' => (frO za.k0 st (.store T p v) = true → Below za.b0 w w') ∧ Nx za w0 k E' w') E w := by
  simp only [storeS, Option.bind_eq_bind, bind_some] at hs
  obtain ⟨ti, hti, c, ⟨sp, hsp, hcp⟩, hs⟩ := hs
  have hsz := (tyOk_parts (tysOk_spec hty hti)).1
  have hc := h.c1 (ctxNil E) (bind_some.2 ⟨sp, hsp, hcp⟩)
  split at hs
  · rename_i q off
    simp only [bind_some] at hs
    obtain ⟨s, hsv, hs⟩ := hs
    split at hs
    · rename_i T' cs hq
      cases hd : s.cs.all notDead && Nat.beq s.cs.length ti.ty.size && Nat.ble (off + ti.ty.size) cs.length with
      | false => simp only [hd, cond_false] at hs; cases hs
      | true =>
        simp only [hd, cond_true] at hs
        cases hs
        simp only [Bool.and_eq_true] at hd
        have hlen := Nat.eq_of_beq_eq_true hd.1.2
        have hfit := Nat.le_of_ble_eq_true hd.2
        obtain ⟨h1, h2⟩ := h.ev (ctxNil E) hsv
        have hcs := RS.cells h h1 hd.1.1
        have hL := h.locs q
        have hR := h.refl q
        rw [hq] at hL hR
        obtain ⟨b, vs, e, hb0, hnz, hblk, hvs⟩ := hL
        obtain ⟨b', e', hv⟩ := hc.1
        rw [e] at e'; cases e'
        have hul : (Gw.ev E v).cells.toList.length = ti.ty.size := by rw [← hlen, hcs.len]
        have hst := s_store (P := cx.P) (ty := ty) (w := w) (Gw.ev E v).cells.toList hv rfl rfl hsz hul hblk (by rw [hul]; have := hvs.len; simp at this; omega) (RCs.one h hd.1.1 hcs)
        have hchg : Chg b w (w.setRow b (vs.toList.take off ++ (Gw.ev E v).cells.toList ++ vs.toList.drop (off + (Gw.ev E v).cells.toList.length)).toArray) := ⟨rfl, rfl, rfl, by simp, fun k hk => setRow_other w b k _ hk⟩
        have hroot : root (B q) = some b := by rw [e]; rfl
        have hsame : SameZ Z w (w.setRow b (vs.toList.take off ++ (Gw.ev E v).cells.toList ++ vs.toList.drop (off + (Gw.ev E v).cells.toList.length)).toArray) := fun z hz => hchg.2.2.2.2 z (fun hh => hnz (hh ▸ hz))
        have hrefs : ∀ c ∈ splice off ti.ty.size cs s.cs, refC st.nx c := fun c hc => by
          simp only [splice, List.mem_append] at hc
          rcases hc with (hc | hc) | hc
          · exact hR c (List.mem_of_mem_take hc)
          · exact h2 c hc
          · exact hR c (List.mem_of_mem_drop hc)
        refine step_s hst hg ⟨fun hh => below_chg hchg (h.mrk.2 q b (by simp only [frO, show (st.ev [] p).bind c1 = some _ from bind_some.2 ⟨sp, hsp, hcp⟩] at hh; exact Nat.le_of_ble_eq_true hh) (by rw [hq]; trivial) hroot), _, _, _, h.chg (by rw [hq]; trivial) hroot hchg (lc := .box T' (splice off ti.ty.size cs s.cs)) ⟨b, _, e, hb0, hnz, setRow_heap w b vs _ T' _ hblk, ?_⟩ hrefs, hk⟩
        exact RCs.mono (n := st.nx) (fun _ => id) hsame (fun _ _ => rfl) hrefs (by simpa using splice_ok hvs hcs hlen)
    · cases hs
  · rename_i q sz i off
    simp only [bind_some] at hs
    obtain ⟨s, hsv, hs⟩ := hs
    obtain ⟨Z1, h1⟩ := h.settleO v
    split at hs
    · rename_i t e l hq
      cases hd : s.cs.all notDead && Nat.beq s.cs.length ti.ty.size && Nat.beq sz t.size && Nat.ble (off + ti.ty.size) t.size with
      | false => simp only [hd, cond_false] at hs; cases hs
      | true =>
        simp only [hd, cond_true] at hs
        simp only [Bool.and_eq_true] at hd
        split at hs
        · rename_i x hx
          cases hs
          have hlen := Nat.eq_of_beq_eq_true hd.1.1.2
          have hszz := Nat.eq_of_beq_eq_true hd.1.2
          have hfit := Nat.le_of_ble_eq_true hd.2
          subst hszz
          obtain ⟨g1, g2⟩ := h1.ev (ctxNil E) hsv
          have hcs := RS.cells h1 g1 hd.1.1.1
          have hL := h1.locs q
          rw [hq] at hL
          obtain ⟨xs, hown, heach, hnz'⟩ := hL
          obtain ⟨b, m, cap, hB, hi, hv⟩ := hc.1
          rw [hB] at hown hnz'
          have hnz := fun z hz => (hnz' z hz).2
          have hul : (Gw.ev E v).cells.toList.length = ti.ty.size := by rw [← hlen, hcs.len]
          rcases hown.2 with ⟨hh, _⟩ | ⟨b', cap', cur, hh, hb0, hgb, hnc, hcm, hcsz, htk⟩
          · cases hh
          · cases hh
            have hel := Each.length (R := Rep t w Z1) (s := t.size) (fun _ _ h => Rep.length h) heach
            have hget := Each.get (R := Rep t w Z1) (s := t.size) (fun _ _ h => Rep.length h) heach (List.getElem?_eq_getElem hi)
            have hgd : l.getD i t.dflt = l[i] := by rw [List.getD_eq_getElem?_getD, List.getElem?_eq_getElem hi]; rfl
            rw [hgd] at hx
            have hile : i * t.size + t.size ≤ l.length * t.size := by rw [← Nat.succ_mul]; exact Nat.mul_le_mul_right _ hi
            have hlc : l.length * t.size ≤ cap * t.size := Nat.mul_le_mul_right _ hnc
            generalize hU : (Gw.ev E v).cells.toList = us at *
            have hst := s_store (P := cx.P) (ty := ty) (w := w) us hv rfl hU hsz hul hgb (by rw [hul, hcsz]; omega) (RCs.one h1 hd.1.1.1 hcs)
            generalize hcur : (cur.toList.take (i * t.size + off) ++ us ++ cur.toList.drop (i * t.size + off + us.length)).toArray = cur' at hst
            have hchg : Chg b w (w.setRow b cur') := ⟨rfl, rfl, rfl, by simp, fun k hk => setRow_other w b k _ hk⟩
            have hroot : root (B q) = some b := by rw [hB]; rfl
            have hnzb := hnz b rfl
            have hsame : SameZ Z1 w (w.setRow b cur') := fun z hz => hchg.2.2.2.2 z (fun hh => hnzb (hh ▸ hz))
            have hrep := pack_all (splice_ok (off := off) (explode_ok (B := B) hget) hcs hlen) hx
            have hset := Each.set (R := Rep t w Z1) (s := t.size) (fun _ _ h => Rep.length h) heach hrep hi
            refine step_s hst hg ⟨fun hh => below_chg hchg (h1.mrk.2 q b (by simp only [frO, show (st.ev [] p).bind c1 = some _ from bind_some.2 ⟨sp, hsp, hcp⟩] at hh; exact Nat.le_of_ble_eq_true hh) (by rw [hq]; trivial) hroot), _, _, _, h1.chg (by rw [hq]; trivial) hroot hchg (lc := .row t e (l.set i x)) ⟨_, ?_, hset.mono fun _ _ => Rep.mono (fun _ => id) hsame, fun z hz => by rw [hB] at hz; exact hnz' z hz⟩ trivial, hk⟩
            rw [hB, List.length_set]
            have hsetl := Each.length (R := Rep t w Z1) (s := t.size) (fun _ _ h => Rep.length h) hset
            refine ⟨by rw [hsetl, List.length_set], .inr ⟨b, cap, cur', rfl, hb0, setRow_heap w b cur _ e _ hgb, hnc, hcm, ?_, ?_⟩⟩
            · rw [← hcur]; simp only [List.size_toArray, List.length_append, List.length_take, List.length_drop, Array.length_toList, hcsz, hul]; omega
            · rw [← hcur]
              simp only [List.toList_toArray]
              rw [hul, ← htk]
              exact splice_take hul hile (by simpa [hcsz] using hlc) hfit
        · cases hs
    · cases hs
  · cases hs
theorem same_one : ∀ (v : Value) (n : Nat), (∃ k a, v = .int k a) ∨ (∃ b, v = .bool b) → Instr.sameBits n v v = true := by
  rintro v n (⟨k, a, rfl⟩ | ⟨b, rfl⟩)
  · cases n <;> simp [Instr.sameBits]
  · cases n <;> simp [Instr.sameBits]
theorem plain_each : ∀ {t : Ty} {cs : List Value} {x : t.den}, plainT t = true → Rep t w Z cs x → ∀ v ∈ cs, (∃ k a, v = .int k a) ∨ (∃ b, v = .bool b)
  | .int k, _, x, _, h => by rw [h.1]; intro v hv; simp at hv; exact .inl ⟨_, _, hv⟩
  | .bool, _, x, _, h => by rw [show _ = _ from h]; intro v hv; simp at hv; exact .inr ⟨_, hv⟩
  | .unit, _, _, _, h => by rw [show _ = _ from h]; intro v hv; cases hv
  | .pair a b, _, _, hp, ⟨c1, c2, e, h1, h2⟩ => by
    simp only [plainT, Bool.and_eq_true] at hp
    rw [e]; intro v hv
    rcases List.mem_append.1 hv with hv | hv
    · exact plain_each hp.1 h1 v hv
    · exact plain_each hp.2 h2 v hv
  | .str, _, _, h, _ => by cases h
  | .sl _, _, _, h, _ => by cases h
  | .ptr _, _, _, h, _ => by cases h
  | .mp _ _ _ _, _, _, h, _ => by cases h
theorem same_zip : ∀ (cs : List Value) (n : Nat), (∀ v ∈ cs, (∃ k a, v = .int k a) ∨ (∃ b, v = .bool b)) → (cs.zip cs).all (fun x => Instr.sameBits n x.1 x.2) = true
  | [], _, _ => rfl
  | c :: cs, n, h => by
    simp only [List.zip_cons_cons, List.all_cons, Bool.and_eq_true]
    exact ⟨same_one c n (h c (by simp)), same_zip cs n (fun v hv => h v (by simp [hv]))⟩
theorem key_same {a : Bool} {t : Ty} {v : Value} {x : t.den} (hp : plainT t = true) (h : RepA (Rep t w Z) a v x) : Instr.sameBits 10000 v v = true := by
  cases a with
  | true =>
    obtain ⟨cs, e, h⟩ := h
    subst e
    have := same_zip cs 9999 (plain_each hp h)
    simp only [Instr.sameBits, beq_self_eq_true, Bool.true_and]
    exact this
  | false => exact same_one v 10000 (plain_each (cs := [v]) hp h v (by simp))
theorem key_uniq {a : Bool} {t : Ty} {v v' : Value} {x : t.den} (hp : plainT t = true) (h : RepA (Rep t w Z) a v x) (h' : RepA (Rep t w Z) a v' x) : v = v' := by
  cases a with
  | true =>
    obtain ⟨cs, e, h⟩ := h
    obtain ⟨cs', e', h'⟩ := h'
    rw [e, e', plain_cells hp h h']
  | false =>
    have := plain_cells (cs := [v]) (cs' := [v']) hp h h'
    simpa using this
theorem ents_put {κ : Ty} {ν : Type} {Rk : Value → κ.den → Prop} {Rv : Value → ν → Prop} {k : κ.den} {v : ν} {kv vv : Value} {cl : Nat} (hk : Rk kv k) (hv : Rv vv v) : ∀ {l : List (κ.den × ν)} {es : List MapEntry} {i : Nat}, EntsR Rk Rv es l →
    (mfindI κ k l i = none → EntsR Rk Rv (es ++ [{ key := kv, val := vv, born := cl }]) (mput κ k v l)) ∧ (∀ j, mfindI κ k l i = some (i + j) → EntsR Rk Rv (es.modify j fun e => { e with key := kv, val := vv }) (mput κ k v l))
  | [], es, i, h => by
    rw [show es = [] from h]
    exact ⟨fun _ => ⟨_, [], rfl, hk, hv, rfl⟩, fun j hj => by cases hj⟩
  | x :: l, _, i, ⟨e, es', he, h1, h2, h3⟩ => by
    subst he
    simp only [mfindI, mput]
    cases hb : eqB κ k x.1 with
    | true =>
      refine ⟨fun hh => by simp at hh, fun j hj => ?_⟩
      simp only [cond_true, Option.some.injEq] at hj
      have : j = 0 := by omega
      subst this
      exact ⟨_, _, rfl, hk, hv, h3⟩
    | false =>
      simp only [cond_false]
      have ih := ents_put (cl := cl) hk hv (i := i + 1) h3
      refine ⟨fun hh => ⟨e, _, rfl, h1, h2, ih.1 hh⟩, fun j hj => ?_⟩
      cases j with
      | zero =>
        exfalso
        have : ∀ (l : List (κ.den × ν)) (i j : Nat), mfindI κ k l i = some j → i ≤ j := by
          intro l
          induction l with
          | nil => intro i j hh; cases hh
          | cons y l ih =>
            intro i j hh
            unfold mfindI at hh
            cases hb : eqB κ k y.1 with
            | true => simp [hb] at hh; omega
            | false => simp [hb] at hh; have := ih _ _ hh; omega
        have := this _ _ _ hj
        omega
      | succ j => exact ⟨e, _, rfl, h1, h2, ih.2 j (by rw [hj]; congr 1; omega)⟩
theorem mapUpS_ok (h : Rel za w0 st E w Z B) (hty : tysOk cx.P cx.tys = true) {T : TypeId} {m x y : Operand} (hs : mapUpS cx st T m x y = some st') :
    ∃ w', Gw.Skips cx.P E ty (.mapUpdate T m x y) w w' ∧ Gw.Skips cx.P E ty (.insert T m x y) w w' ∧ ∃ Z' B', Rel za w0 st' E w' Z' B' := by
  simp only [mapUpS, Option.bind_eq_bind, bind_some] at hs
  obtain ⟨ti, hti, c, ⟨sm, hsm, hcm⟩, sk, hsk, sy, hsy, hs⟩ := hs
  obtain ⟨Z1, h1⟩ := h.settleO y
  split at hs
  · rename_i ka kt va vt k hT
    simp only [bind_some] at hs
    obtain ⟨es, hes, key, hkey, v, hv, hs⟩ := hs
    cases hs
    obtain ⟨hu, hkt, _, _⟩ := tyOk_mp (tysOk_spec hty hti) hT
    have hc := h1.c1 (ctxNil E) (bind_some.2 ⟨sm, hsm, hcm⟩)
    have hk := packS_ok (h1.ev (ctxNil E) hsk).1 hkey
    have hvv := packS_ok (h1.ev (ctxNil E) hsy).1 hv
    have hp := keyT_plain hkt
    have hlive : live ((settleO st y).L k) := by
      simp only [mapC] at hes
      cases hq : (settleO st y).L k <;> rw [hq] at hes <;> simp at hes <;> trivial
    have hL : ∃ b ents cl, B k = .map (some b) ∧ up za w0 k b ∧ ¬ Z1 b ∧ w.heap[b]? = some (.map ents cl) ∧ Ents w Z1 ka kt va vt ents.toList es := by
      simp only [mapC] at hes
      have := h1.locs k
      cases hq : (settleO st y).L k with
      | map ka' kt' va' vt' es' =>
        rw [hq] at hes this
        simp only at hes
        split at hes
        · rename_i hh
          cases hh
          cases hes
          exact this
        · cases hes
      | _ => rw [hq] at hes; simp at hes
    obtain ⟨b, ents, cl, hB, hub, hnz, hb, he⟩ := hL
    have hmv : Gw.ev E m = .map (some b) := (show Gw.ev E m = B k from hc.1).trans hB
    have hlt : b < w.heap.size := (Array.getElem?_eq_some_iff.1 hb).1
    have hck := fun em => key_check hkt hk w em
    have hfk := key_find hkt hk w he
    have hgo : (getObj b).run cx.P w = .ok (.map ents cl) w := by simp [getObj, Sem.run, hb]
    have hset : ∀ o, (setObj b o).run cx.P w = .ok () { w with heap := w.heap.setIfInBounds b o } := fun o => by simp [setObj, Sem.run, hb]
    have hchg : ∀ o, Chg b w { w with heap := w.heap.setIfInBounds b o } := fun o => ⟨rfl, rfl, rfl, by simp, fun q hq => by simp [Array.getElem?_setIfInBounds, Ne.symm hq]⟩
    have hnew : ∀ o, ({ w with heap := w.heap.setIfInBounds b o } : World).heap[b]? = some o := fun o => by simp [Array.getElem?_setIfInBounds, hlt]
    have fin : ∀ ents' cl', Ents w Z1 ka kt va vt ents'.toList (mput kt key v es) → ∃ Z' B', Rel za w0 ((settleO st y).setL k (.map ka kt va vt (mput kt key v es))) E { w with heap := w.heap.setIfInBounds b (.map ents' cl') } Z' B' := fun ents' cl' he' => by
      have hsame : SameZ Z1 w { w with heap := w.heap.setIfInBounds b (.map ents' cl') } := fun z hz => (hchg _).2.2.2.2 z (fun hh => hnz (hh ▸ hz))
      exact ⟨Z1, B, h1.chg hlive (by rw [hB]; rfl) (hchg _) (lc := .map ka kt va vt (mput kt key v es)) ⟨b, ents', cl', hB, hub, hnz, hnew _, he'.mono (fun _ => id) hsame⟩ trivial⟩
    have hput := ents_put (cl := cl) (kv := Gw.ev E x) (vv := Gw.ev E y) hk hvv (i := 0) he
    rcases ents_find (k := key) (i := 0) he with ⟨g1, _⟩ | ⟨j, en, yv, g1, g2, g3, g4, g5, g6⟩
    · have hrun : (Instr.mapUpdate T (Gw.ev E m) (Gw.ev E x) (Gw.ev E y)).run cx.P w = .ok () { w with heap := w.heap.setIfInBounds b (.map (ents.push { key := Gw.ev E x, val := Gw.ev E y, born := cl }) (cl + 1)) } := by
        unfold Instr.mapUpdate
        simp only [Sem.run_bind, run_underlying hu, Result.andThen_ok, hmv, hgo, hck, hfk, g1, Option.bind_none, hset]
      refine ⟨_, fun _ _ _ _ => ?_, fun _ _ _ _ => ?_, fin _ (cl + 1) (by rw [Array.toList_push]; exact hput.1 g1)⟩
      · simp [execOp, hrun]
      · simp [execOp, hrun]
    · have hkk := (eqB_iff hp).1 g6
      rw [← hkk] at g5
      have hsk := key_uniq hp g5 hk
      have hg : ents[j]? = some en := by simpa using g2
      have hsb := key_same hp hk
      have hrun : (Instr.mapUpdate T (Gw.ev E m) (Gw.ev E x) (Gw.ev E y)).run cx.P w = .ok () { w with heap := w.heap.setIfInBounds b (.map (ents.modify j fun e => { e with key := Gw.ev E x, val := Gw.ev E y }) cl) } := by
        have g1' : mfindI kt key es 0 = some j := by rw [g1, Nat.zero_add]
        unfold Instr.mapUpdate
        simp only [Sem.run_bind, run_underlying hu, Result.andThen_ok, hmv, hgo, hck, hfk, g1', Option.bind_some, g2, Option.map_some, hg, Option.getD_some, hsk]
        simp [Instr.keyThatStays, hsb, hset]
      refine ⟨_, fun _ _ _ _ => ?_, fun _ _ _ _ => ?_, fin _ cl (by rw [Array.toList_modify]; exact hput.2 j g1)⟩
      · simp [execOp, hrun]
      · simp [execOp, hrun]
  · cases hs
end
end Go.Vc
