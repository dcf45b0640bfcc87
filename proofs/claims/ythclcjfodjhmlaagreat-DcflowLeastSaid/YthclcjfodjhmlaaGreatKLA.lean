/- Part. -/
import Derived.Orders
import Derived.OrdersHeld
import Derived.Below
import Derived.KernelRfl
import Derived.Deep.LoopGhost
import Derived.WalkKit
import Derived.OwnWalk
import Derived.Maps.RangeRun
import Derived.DeepKeys3
set_option linter.all false
namespace Go
def qA:=@of_decide_eq_true
def qB:=@of_decide_eq_false
def qC:=@Bool.and_eq_true
def qD:=@Int.natCast_nonneg
def qE:=@Nat.eq_of_beq_eq_true
def qF:=@List.getD_eq_getElem?_getD
def qG:=@Int.le_refl
def qI:=@Option.bind_eq_bind
def qJ:=@List.length_set
def qK:=@Int.toNat_natCast
def qL:=@List.mem_cons_of_mem
def qM:=@List.getElem?_eq_getElem
def qN:=@Option.map_eq_some_iff
def qO:=@if_neg
def qP:=@List.mem_singleton
def qQ:=@List.eq_nil_of_length_eq_zero
def qR:=@List.mem_cons
def qT:=@Nat.le_of_ble_eq_true
def qU:=@List.mem_append
def qV:=@cond_true
def qW:=@List.length_take
def qX:=@List.take_of_length_le
def qY:=@if_pos
def qZ:=@List.length_singleton
def rA:=@Nat.le_trans
def rB:=@Decidable.byContradiction
def rC:=@Nat.le_refl
def rD:=@decide_eq_true
def rE:=@Option.some.injEq
def rF:=@List.mem_cons_self
def rG:=@cond_false
def rH:=@List.length_cons
def rI:=@decide_eq_false
def rJ:=@List.length_replicate
def rK:=@Nat.lt_of_lt_of_le
def rL:=@Bool.or_eq_false_iff
def rM:=@List.length_append
def rN:=@Nat.mul_le_mul_right
def rO:=@Rat.add_zero
def rP:=@Nat.zero_le
def rQ:=@decide_eq_false_iff_not
def rR:=@Bool.not_eq_true'
def rS:=@List.take_add_one
def rT:=@decide_eq_true_eq
def rU:=@List.map_cons
def rV:=@List.mem_of_mem_take
def rW:=@List.getElem?_eq_none
def rX:=@Nat.lt_succ_self
def rY:=@List.getElem?_take_of_lt
def rZ:=@List.mem_map
def sA:=@Array.getElem?_eq_some_iff
def sB:=@Nat.pow_le_pow_right
def sC:=@List.nodup_cons
def sD:=@List.length_map
def sE:=@Nat.pow_succ
def sF:=@Int.ofNat_lt
def sG:=@List.getElem?_eq_some_iff
def sH:=@List.drop_of_length_le
def sI:=@Nat.lt_or_ge
def sJ:=@Int.fdiv_eq_ediv_of_nonneg
def sL:=@Int.mul_le_mul_of_nonneg_right
def sM:=@List.cons.injEq
def sN:=@List.mem_append_left
def sO:=@List.mem_of_getElem?
def sP:=@Nat.zero_add
def sQ:=@List.nodup_append
def sR:=@List.length_drop
def sS:=@Nat.mul_assoc
def sU:=@Nat.mul_le_mul_left
def sV:=@Array.length_toList
def sW:=@Int.toNat_of_nonneg
def sX:=@Nat.pos_of_ne_zero
def sY:=@Nat.min_eq_left
def sZ:=@Rat.zero_mul
def tA:=@Nat.mul_add
def tB:=@Array.getElem?_setIfInBounds
def tC:=@List.getElem?_set_self
def tD:=@Nat.add_zero
def tF:=@Rat.sub_eq_add_neg
def tG:=@List.all_cons
def tH:=@List.getElem?_set_ne
def tI:=@Nat.mul_comm
def tJ:=@List.mem_append_right
def tK:=@Int.mul_nonneg
def tL:=@Rat.zero_add
def tN:=@congrArg
def tO:=@List.pairwise_append
def tP:=@Nat.div_lt_iff_lt_mul
def tR:=@Nat.pow_pos
def tS:=@List.all_eq_true
def tT:=@List.take_length
def tU:=@Nat.mod_eq_of_lt
def tV:=@Int.mul_le_mul_of_nonneg_left
def tW:=@Int.tmod_eq_emod_of_nonneg
def tX:=@List.drop_zero
def tY:=@Rat.div_def
def tZ:=@Rat.mul_zero
def uA:=@Int.sign_eq_one_of_pos
def uB:=@List.mem_iff_getElem
def uC:=@Nat.div_eq_of_lt
def uD:=@List.append_assoc
def uE:=@List.map_append
def uF:=@Int.natAbs_natCast
def uG:=@List.take_append_drop
def uH:=@Nat.ne_of_lt
def uI:=@Int.eq_ofNat_of_zero_le
def uJ:=@List.getElem?_cons_succ
def uK:=@List.mem_map_of_mem
def uL:=@Nat.add_assoc
def uM:=@Array.getElem?_eq_getElem
def uN:=@List.pairwise_iff_getElem
def uO:=@Bool.or_eq_true
def uP:=@Int.natCast_mul
def uQ:=@Nat.add_mul
def uR:=@Nat.succ_mul
def uS:=@Int.dvd_mul_of_dvd_right
def uT:=@Nat.le_succ
def uU:=@List.getElem?_append_right
def uV:=@List.mem_range
def uW:=@Decidable.not_not
def uX:=@Array.toArray_toList
def uY:=@Nat.pow_add
def uZ:=@decide_eq_decide
def vA:=@List.length_pos_iff
def vB:=@Nat.le_div_iff_mul_le
def vC:=@List.getElem?_map
def vD:=@List.getElem?_replicate
def vE:=@List.mem_of_mem_drop
def vF:=@Nat.eq_zero_or_pos
def vG:=@Nat.div_div_eq_div_mul
def vH:=@Nat.ne_of_beq_eq_false
def vJ:=@List.getElem?_append_left
def vK:=@and_true
def vM:=@Nat.lt_succ_of_lt
def vN:=@Int.natAbs_mul
def vO:=@List.drop_drop
def vP:=@Rat.mul_assoc
def vQ:=@List.append_nil
def vR:=@List.mem_filter
def vS:=@Option.map_some
def vT:=@Bool.false_eq_true
def vV:=@List.getElem_mem
def vW:=@Option.bind_some
def vX:=@Option.getD_some
def vY:=@List.findIdx?_eq_some_iff_getElem
def vZ:=@Int.sign_eq_neg_one_of_neg
def wA:=@List.ext_getElem?
def wB:=@List.getElem?_set
def wC:=@Nat.add_comm
def wD:=@Nat.le_of_lt
def wE:=@Nat.mod_lt
def wF:=@beq_eq_false_iff_ne
def wG:=@List.nil_append
def wH:=@Nat.not_lt_zero
def wI:=@Option.some.inj
def wJ:=@Option.isNone_iff_eq_none
def wK:=@Array.getElem?_toList
def wL:=@Bool.and_eq_false_iff
def wM:=@List.getElem?_take
def wN:=@List.getElem_inj
def wO:=@Bool.false_or
def wP:=@List.length_erase_of_mem
def wQ:=@Nat.mul_zero
def wR:=@Rat.neg_zero
def wS:=@List.Perm.refl
def wT:=@List.mapM_cons
def wU:=@List.pairwise_map
def wV:=@Int.natCast_add
def wW:=@List.countP_eq_length_filter
def wX:=@List.length_nil
def wY:=@Nat.div_add_mod
def wZ:=@Nat.div_le_self
def xA:=@List.length_pos_of_mem
def xB:=@Nat.gcd_comm
def xC:=@Nat.mul_lt_mul_of_pos_right
def xD:=@Nat.one_mul
def xE:=@List.not_mem_nil
def xF:=@List.getElem?_drop
def xG:=@Nat.lt_of_mul_lt_mul_right
def xH:=@Rat.num_divInt_den
def xI:=@Int.natAbs_ediv_le_natAbs
def xJ:=@List.drop_eq_getElem_cons
def xK:=@List.findIdx?_eq_none_iff
def xL:=@Int.natCast_pow
def xM:=@Int.le_of_lt
def xN:=@Rat.one_mul
def xO:=@if_true
def xP:=@Int.mul_ediv_cancel_left
def xQ:=@Nat.lt_irrefl
def xR:=@Rat.add_assoc
def xS:=@List.any_eq_true
def xT:=@List.cons_append
def xU:=@Nat.mul_div_cancel_left
def xV:=@BitVec.toNat_ofInt
def xW:=@Int.ofNat_dvd_left
def xX:=@List.mem_replicate
def xY:=@Nat.beq_refl
def xZ:=@Nat.sub_self
def yA:=@Nat.zero_mul
def yB:=@List.foldl_cons
def yC:=@List.any_cons
def yD:=@Int.mul_ediv_add_emod
def yE:=@List.getElem?_toArray
def yF:=@Nat.add_mul_div_right
def yG:=@Array.getD_eq_getD_getElem?
def yH:=@Iff.rfl
def yI:=@List.flatMap_cons
def yJ:=@List.idxOf_lt_length_of_mem
def yK:=@List.length_range
def yL:=@Nat.gcd_dvd_right
def yM:=@Nat.le_succ_of_le
def yN:=@Int.natAbs_neg
def yO:=@Int.tdiv_eq_ediv_of_nonneg
def yP:=@List.nodup_nil
def yQ:=@Nat.mul_le_mul
def yR:=@Nat.mul_one
def yS:=@Rat.mkRat_zero
def yT:=@Rat.mul_nonneg
def yU:=@if_false
def yV:=@Array.mapM_eq_mapM_toList
def yW:=@Int.mul_neg_of_pos_of_neg
def yX:=@Int.sign_eq_zero_iff_zero
def yY:=@Nat.add_mul_mod_self_left
def yZ:=@List.drop_set_of_lt
def zA:=@List.filter_eq_self
def zB:=@List.getElem?_range
def zC:=@List.take_set_of_le
def zD:=@Nat.div_mul_le_self
def zF:=@Array.getElem?_replicate
def zG:=@Array.setIfInBounds_comm
def zH:=@Bool.not_true
def zI:=@Int.ediv_nonpos_of_nonneg_of_nonpos
def zJ:=@Int.tmod_nonneg
def zK:=@List.drop_left'
def zM:=@Nat.mul_ne_zero
def zN:=@Rat.mul_eq_zero
def zO:=@Rat.num_eq_zero
def zP:=@Bool.not_eq_false'
def zQ:=@Int.emod_lt_of_pos
def zR:=@Int.mul_nonneg_of_nonpos_of_nonpos
def zS:=@Nat.lt_of_le_of_lt
def zT:=@Nat.mul_right_comm
def zU:=@Option.toList_some
def zV:=@Rat.inv_mul_cancel
def zW:=@List.pairwise_singleton
def zX:=@Int.gcd_dvd_right
def zY:=@Int.lt_trichotomy
def zZ:=@List.any_eq_false
def g0a:=@List.size_toArray
def g0b:=@List.take_zero
def g0c:=@Nat.mul_left_comm
def g0d:=@List.length_filter_le
def g0e:=@Nat.mul_div_mul_right
def g0f:=@Array.toList_inj
def g0g:=@Int.gcd_dvd_left
def g0h:=@List.ext_getElem
def g0i:=@List.take_append
def g0j:=@Rat.divInt_ofNat
def g0k:=@Rat.mkRat_eq_div
def g0l:=@Bool.true_and
def g0m:=@Int.ofNat.inj
def g0n:=@Rat.lt_irrefl
def g0o:=@List.mem_erase_of_ne
def g0p:=@Nat.shiftLeft_add_eq_or_of_lt
def g0q:=@Prod.mk.inj
def g0r:=@Int.ediv_nonneg
def g0s:=@List.take_left'
def g0t:=@Array.toList_filter
def g0u:=@Array.toList_modify
def g0v:=@List.toList_toArray
def g0w:=@Rat.mkRat_mul_mkRat
def g0x:=@Bool.true_or
def g0y:=@List.map_nil
def g0z:=@Rat.mul_comm
def g1a:=@getElem!_pos
def g1b:=@Bool.false_and
def g1c:=@Bool.not_false
def g1d:=@Int.natAbs_sign_of_ne_zero
def g1e:=@List.Pairwise.take
def g1f:=@List.drop_take
def g1g:=@List.getElem_idxOf
def g1h:=@List.take_take
def g1i:=@Nat.gcd_zero_right
def g1j:=@Rat.mul_inv_cancel
def g1k:=@beq_iff_eq
def g1l:=@List.mem_or_eq_of_mem_set
def g1m:=@Array.toList_push
def g1n:=@Int.natAbs_add_le
def g1o:=@List.getElem_take
def g1p:=@Rat.neg_num
def g1q:=@Nat.gcd_pos_of_pos_right
def g1r:=@Option.isSome_iff_exists
def g1s:=@Array.toList_map
def g1t:=@List.filter_cons
def g1u:=@List.getElem?_cons_zero
def g1v:=@List.getElem_set
def g1w:=@List.zipIdx_cons
def g1x:=@Nat.add_sub_cancel_left
def g1y:=@Nat.gcd_pos_of_pos_left
def g1z:=@Option.bind_eq_some_iff
def g2a:=@Option.bind_none
def g2b:=@Option.getD_none
def g2c:=@or_false
def g2d:=@Array.getElem?_eq_none
def g2e:=@Bool.or_true
def g2f:=@Int.ediv_lt_iff_lt_mul
def g2g:=@Int.le_ediv_iff_mul_le
def g2h:=@Int.le_total
def g2i:=@Int.mul_comm
def g2j:=@List.length_eq_one_iff
def g2k:=@Nat.sub_zero
def g2l:=@Rat.add_comm
def g2m:=@decide_false
def g2n:=@Int.emod_nonneg
def g2o:=@Nat.min_le_left
def g2p:=@Nat.mul_add_div
def g2q:=@Nat.mul_add_mod
def g2r:=@Rat.den_intCast
def g2s:=@Rat.natCast_pos
def g2t:=@Rat.num_intCast
def g2u:=@Array.getElem?_modify
def g2v:=@List.Perm.append_left
def g2w:=@List.countP_mono_left
def g2x:=@List.mem_iff_getElem?
def g2y:=@List.set_append_right
def g2z:=@Rat.divInt_mul_divInt
def g3a:=@Array.toList_extract
def g3b:=@Decidable.of_not_not
def g3c:=@Int.dvd_add
def g3d:=@Int.ediv_emod_unique
def g3e:=@List.drop_left
def g3f:=@List.range_eq_range'
def g3g:=@List.take_left
def g3h:=@Nat.add_mul_div_left
def g3i:=@Nat.div_one
def g3j:=@Nat.gcd_rec
def g3k:=@Rat.add_mul
def g3l:=@Rat.den_pos
def g3m:=@Rat.mkRat_self
def g3n:=@Rat.mul_one
def g3o:=@Rat.neg_den
def g3p:=@decide_true
def g3q:=@or_congr
def g3r:=@Int.natCast_eq_zero
def g3s:=@Int.neg_ediv_of_dvd
def g3t:=@List.getElem_of_mem
def g3u:=@List.length_reverse
def g3v:=@List.map_congr_left
def g3w:=@Int.toNat_mul
def g3x:=@Array.foldl_toList
def g3y:=@List.Pairwise.imp₂
def g3z:=@List.append_of_mem
def g4a:=@List.filter_append
def g4b:=@List.filter_filter
def g4c:=@List.mem_filterMap
def g4d:=@List.pairwise_cons
def g4e:=@List.set_cons_succ
def g4f:=@Nat.mul_div_cancel
def g4g:=@Rat.add_neg_cancel
def g4h:=@Decidable.em
def g4i:=@Int.emod_eq_of_lt
def g4j:=@Int.lt_or_le
def g4k:=@Int.sign_mul
def g4l:=@List.filter_congr
def g4m:=@List.set_set
def g4n:=@Nat.le_of_eq
def g4o:=@Nat.pow_zero
def g4p:=@Nat.zero_div
def g4q:=@Prod.ext
def g4r:=@ne_eq
def g4s:=@Int.natCast_ediv
def g4t:=@List.countP_cons
def g4u:=@List.drop_append
def g4v:=@List.isEmpty_iff
def g4w:=@List.range'_succ
def g4x:=@Nat.gcd_dvd_left
def g4y:=@Nat.le_max_right
def g4z:=@Nat.le_of_not_lt
def g5a:=@Nat.shiftLeft_eq
def g5b:=@Nat.succ_le_succ
def g5c:=@not_congr
def g5d:=@Nat.mod_one
def g5e:=@Nat.mul_pos
def g5f:=@not_or
def g5g:=@and_congr
end Go
namespace Go.Gw
open Go Go.RowKit
open Go.IntKind (i64)
abbrev H0:=Nat->Value
def upd (E:H0) (d:Nat) (v:Value):H0:=fun t=>bif Nat.beq t d then v else E t
def kB (E:H0):Option Tmp->Value->H0
 |some d,v=>upd E d v
 |none,_=>E
def ev (E:H0):Operand->Value
 | .tmp t=>E t
 | .const v=>v
 | .global g=> .pointer (some ⟨g,0,none⟩)
 | .func f=> .func (.func f) #[] #[]
def E4 {t d:Nat} (h:t≠d):Nat.beq t d=false:=by
 cases hb:Nat.beq t d with
 |false=>rfl
 |true=>exact absurd (qE hb) h
def C5 (E:H0) (d:Nat) (v:Value):upd E d v d=v:=by simp[upd]
def C6 (E:H0) (d t:Nat) (v:Value) (h:t≠d):upd E d v t=E t:=by
 have:Nat.beq t d=false:=E4 h;simp[upd,this]
structure C7 (n:Nat) (a:Act) (E:H0):Prop where
 size:a.tmps.size=n
 get:∀t,a.tmps.getD t undef=E t
 defers:a.defers= []
def C7.ev {n:Nat} {a:Act} {E:H0} (h:C7 n a E):a.eval=Gw.ev E:=by
 funext x;cases x with
 |tmp t=>exact h.get t
 | _=>rfl
def mC (n:Nat) (l:List Oper):Bool:=l.all fun o=>match o.dst with|some d=>decide (d<n) |none=>true
def C7.put {n:Nat} {a:Act} {E:H0} (h:C7 n a E) (o:Option Tmp) (v:Value) (ho:∀d,o=some d->d<n):C7 n (a.put o v) (kB E o v):=by
 cases o with
 |none=>exact h
 |some d=>
  have hd:=ho d rfl;refine⟨by simp[Act.put,h.size],fun t=> ?_,h.defers⟩;have hs:=h.size;have hg:=h.get t;by_cases u:t=d
  . subst u;simp[Act.put,kB,C5,tB,hs,hd]
  . simp only[kB,C6 _ _ _ _ u];rw[<-hg];simp[Act.put,tB,Ne.symm u]
def Ed (all:List Oper) (E:H0) (j:Nat):Option Bool:=
 match(all[j]?).bind (·.dst)with
 |some t=>match E t with| .bool b=>some b| _=>none
 |none=>none
def E6 (all:List Oper) (o:Oper) (E:H0):Bool:=
 match o.guard with
 |none=>true
 |some (j,u)=>Ed all E j==some u
def C7.yielded {n:Nat} {a:Act} {E:H0} (h:C7 n a E) (all:List Oper) (j:Nat):yielded all.toArray a.tmps j=Ed all E j:=by
 unfold Go.yielded Ed;rw[yE];cases hq:(all[j]?).bind (·.dst)with
 |none=>simp
 |some t=>
  simp only[vW];have u:=h.get t;cases ht:a.tmps[t]? with
  |none=>
   have:a.tmps.getD t undef=undef:=by simp[ht]
   rw[this]at u;simp[<-u,undef]
  |some v=>
   have:a.tmps.getD t undef=v:=by simp[ht]
   rw[this]at u;rw[<-u];cases v<;>rfl
def C7.wanted {n:Nat} {a:Act} {E:H0} (h:C7 n a E) (all:List Oper) (o:Oper):Region.wanted o (Go.yielded all.toArray a.tmps)=E6 all o E:=by
 unfold Region.wanted E6;cases o.guard with
 |none=>rfl
 |some g=>simp only[h.yielded]
def N4 (P:Program) (all:List Oper) (o:Oper) (next:H0->World->Prop) (E:H0) (w:World):Prop:=
 if E6 all o E=true then
  match(execOp (ev E) o).run P w with
  | .ok (.value v) w'=>next (kB E o.dst v) w'
  | .ok .skip w'=>next (kB E o.dst undef) w'
  | .ok (.enter f args) w'=>Calls P f args w' fun e u=>∃v,e= .returned v/\next (kB E o.dst v) u
  | _=>False
 else next (kB E o.dst undef) w
def B7i (P:Program) (all:List Oper) (next:H0->World->Prop):List Oper->H0->World->Prop
 | []=>next
 |o::r=>N4 P all o (B7i P all next r)
def HF (n:Nat) (Q:Exit->H0->World->Prop):Exit->Act->World->Prop:=fun e a w=>∃E,C7 n a E/\Q e E w
def N5 {P:Program} {all:List Oper} {o:Oper} {next u:H0->World->Prop} (h:∀E w,next E w->u E w) {E:H0} {w:World} (hs:N4 P all o next E w):N4 P all o u E w:=by
 unfold N4 at*;split
 . rename_i hw;simp only[hw,xO]at hs;generalize (execOp (ev E) o).run P w=r at*;cases r with
   |ok m w'=>
    cases m<;>simp only at hs⊢
    case value v=>exact h _ _ hs
    case skip=>exact h _ _ hs
    case enter f args=>exact hs.mono fun e a0 ⟨v,he,hn⟩=>⟨v,he,h _ _ hn⟩
   |halt x w'=>exact hs
 . rename_i hw;simp only[hw]at hs;exact h _ _ hs
def IA {P:Program} {n:Nat} {all:List Oper} (hn:mC n all=true) {i:Nat} {o:Oper} (hi:all[i]? =some o) {Q:Exit->Act->World->Prop} {K:Act->World->Prop} {next:H0->World->Prop}
 (hK:∀a E w,C7 n a E->next E w->K a w) {a:Act} {E:H0} {w:World} (hr:C7 n a E) (h:N4 P all o next E w):wpOp P all.toArray Q i K a w:=by
 have u:∀d,o.dst=some d->d<n:=fun d u=>by
  have:=tS.1 hn o (sO hi);simpa[u]using this
 unfold wpOp;simp only[yE,hi];rw[hr.wanted];unfold N4 at h;split
 . rename_i hw;simp only[hw,xO]at h;refine .inl ?_;unfold Oper.wp;rw[hr.ev];generalize (execOp (ev E) o).run P w=r at*;cases r with
   |ok m w'=>
    cases m<;>simp only at h
    case value v=>exact hK _ _ _ (hr.put _ _ u) h
    case skip=>exact hK _ _ _ (hr.put _ _ u) h
    case enter f args=>
     refine h.mono fun e a0 ⟨v,he,hn⟩=> ?_
     subst he;exact hK _ _ _ (hr.put _ _ u) hn
   |halt x w'=>exact h.elim
 . rename_i hw;simp only[hw]at h;exact hK _ _ _ (hr.put _ _ u) h
def XS {P:Program} {n:Nat} {all:List Oper} (hn:mC n all=true) {Q:Exit->H0->World->Prop} :
 ∀(rest:List Oper) (k:Nat),(∀j,rest[j]? =all[k+j]?)->∀(a:Act) (E:H0) (w:World),C7 n a E->B7i P all (Q .normal) rest E w->
  wpOps P all.toArray (HF n Q) (List.range' k rest.length) a w
 | [],_,_,a,E,w,u,h=>⟨E,u,h⟩
 |o::rest,k,hl,a,E,w,u,h=>by
  have h0:all[k]? =some o:=by simpa using(hl 0).symm
  rw[rH,g4w,wpOps_cons];refine IA hn h0 (fun a' E' w' hr' hh=> ?_) u h;exact XS hn rest (k+1) (fun j=>by have:=hl (j+1);simpa[uL,wC 1 j]using this) a' E' w' hr' hh
inductive fT where
 |done
 |q (i:Nat) (p:fT)
 |p (i:Nat) (p:fT)
 |e (i:Nat) (p:fT)
 |br (i:Nat) (p:fT) (j:Nat) (p':fT)
def G7 (tails:List Nat) (listed:Array Bool):Bool:=tails.any fun i=>listed.getD i false
inductive Reach (ops:Array Oper) (j:Nat):Nat->Prop
 |one {oj:Oper} {e:Edge} :ops[j]? =some oj->e∈oj.after->Region.binds .any e=true->Reach ops j e.on
 |more {i:Nat} {oi:Oper} {e:Edge} :Reach ops j i->ops[i]? =some oi->e∈oi.after->Region.binds .any e=true->Reach ops j e.on
def A3w (all:List Oper) (i:Nat):List Nat:=match all[i]? with
 |some o=>(o.after.toList.filter fun e=>Region.binds .any e).map (·.on)
 |none=> []
def A2w (all:List Oper):List Nat->List Nat->List Nat
 | [],s=>s
 |i::r,s=>A2w all r (bif s.contains i then s++(A3w all i).filter (fun x=> !(s.contains x))else s)
def DN (all:List Oper) (heads tails:List Nat):Bool:=
 tails.all fun j=>(fun s=>heads.all fun i=>s.contains i) (A2w all (List.range j).reverse (A3w all j))
def kN {all:List Oper} {i x:Nat} (h:x∈A3w all i):∃oi e,all.toArray[i]? =some oi/\e∈oi.after/\Region.binds .any e=true/\e.on=x:=by
 unfold A3w at h;split at h
 . rename_i o ho;obtain⟨e,he,rfl⟩:=rZ.1 h;obtain⟨h1,u⟩:=vR.1 he;exact⟨o,e,by rw[yE];exact ho,by simpa using h1,u,rfl⟩
 . cases h
def eZ {all:List Oper} {j:Nat} :∀ {r s:List Nat},(∀x∈s,Reach all.toArray j x)->∀x∈A2w all r s,Reach all.toArray j x
 | [],_,h,x,hx=>h x hx
 |i::r,s,h,x,hx=>by
  refine eZ (r:=r) (fun y u=> ?_) x hx;cases hc:s.contains i with
  |false=>rw[hc]at u;exact h y u
  |true=>
   rw[hc]at u;simp only[qV,qU]at u;rcases u with u|u
   . exact h y u
   . obtain⟨oi,e,h1,h2,h3,rfl⟩:=kN (vR.1 u).1;exact .more (h i (by simpa using hc)) h1 h2 h3
def AP {all:List Oper} {heads tails:List Nat} (hw:DN all heads tails=true):∀(j:Nat) (oj:Oper),all.toArray[j]? =some oj->j∈tails->∀h∈heads,Reach all.toArray j h:=by
 intro j oj hj u h hh;have h1:=tS.1 hw j u;have h2:=tS.1 h1 h hh;refine eZ (fun x hx=> ?_) h (by simpa using h2);obtain⟨oi,e,q1,q2,q3,rfl⟩:=kN hx;exact .one q1 q2 q3
def HW (P:Program) (S:World->Prop) (all:List Oper) (o:Oper) (next:H0->World->Prop) (E:H0) (w:World):Prop:=
 (E6 all o E=true/\∃v,(∀w',S w'->(execOp (ev E) o).run P w'= .ok (.value v) w')/\next (kB E o.dst v) w)\/
 (E6 all o E=false/\next (kB E o.dst undef) w)
def cU (P:Program) (S:World->Prop) (all:List Oper) (tails:List Nat) (next:H0->World->Prop):fT->Bool->H0->World->Prop
 | .done,_=>next
 | .q i p,t=>fun E w=>∃o,all[i]? =some o/\HW P S all o (cU P S all tails next p t) E w
 | .p i p,t=>fun E w=>∃o,all[i]? =some o/\HW P (fun _=>True) all o (cU P S all tails next p t) E w
 | .e i p,t=>fun E w=>∃o,all[i]? =some o/\N4 P all o (fun E' w'=>((t||tails.contains i)=true\/S w')/\cU P S all tails next p (t||tails.contains i) E' w') E w
 | .br i p j p',t=>fun E w=>(∃o,all[i]? =some o/\N4 P all o (fun E' w'=>((t||tails.contains i)=true\/S w')/\cU P S all tails next p (t||tails.contains i) E' w') E w)/\
  (∃o,all[j]? =some o/\N4 P all o (fun E' w'=>((t||tails.contains j)=true\/S w')/\cU P S all tails next p' (t||tails.contains j) E' w') E w)
section held
variable {P:Program} {ops:Array Oper} {Q:Exit->Act->World->Prop} {S:World->Prop} {heads tails:List Nat}
def Z4 (P:Program) (ops:Array Oper) (Q:Exit->Act->World->Prop) (S:World->Prop) (tails:List Nat):Nat->Array Bool->Act->World->Prop
 |0,listed,a,w=>Region.ready .any ops listed= []/\Q .normal a w
 |fuel+1,listed,a,w=>
  (Region.ready .any ops listed= []->Q .normal a w)/\∀i∈Region.ready .any ops listed,wpOp P ops Q i (fun u w'=>(G7 tails (listed.setIfInBounds i true)=true\/S w')/\Z4 P ops Q S tails fuel (listed.setIfInBounds i true) u w') a w
def aK:∀(fuel:Nat) (listed:Array Bool) (a:Act) (w:World),Z4 P ops Q S tails fuel listed a w->wpAny P .any ops Q fuel listed a w
 |0,_,_,_,h=>h
 |fuel+1,_,_,_,h=>⟨h.1,fun i hi=>wpOp_mono (fun u w' h'=>aK fuel _ u w' h'.2) (h.2 i hi)⟩
def pZ (ops:Array Oper) (listed:Array Bool):Prop:=∀(i:Nat) (oi:Oper),ops[i]? =some oi->listed.getD i false=true->∀e∈oi.after,Region.binds .any e=true->listed.getD e.on false=true
def aP (ops:Array Oper) (heads tails:List Nat) (listed:Array Bool):Prop:=pZ ops listed/\(G7 tails listed=true->∀h∈heads,listed.getD h false=true)
def lO (ops:Array Oper) (n:Nat):pZ ops (Array.replicate n false):=fun i oi _ hl=>by
 simp only[yG,zF]at hl;split at hl<;>cases hl
def Reach.listed {ops:Array Oper} {listed:Array Bool} {j h:Nat} (hc:pZ ops listed) (hj:j∈Region.ready .any ops listed) (hr:Reach ops j h):listed.getD h false=true:=by
 induction hr with
 |one ho he hb=>
  obtain⟨_,oj,a0,u⟩:=mem_ready.1 hj;rw[ho]at a0;cases a0;exact u _ he hb
 |more _ ho he hb ih=>exact hc _ _ ho ih _ he hb
def FJ {listed:Array Bool} {i:Nat} (h:listed.getD i true=false):listed.getD i false=false:=by
 rcases sI i listed.size with u|u
 . simp[u]at h⊢;exact h
 . simp[g2d u]
def H9 {listed:Array Bool} {i:Nat} (hi:i∉tails):G7 tails (listed.setIfInBounds i true)=G7 tails listed:=by
 unfold G7;rw[Bool.eq_iff_iff,xS,xS];constructor
 . rintro⟨x,hx,h⟩;have u:i≠x:=fun e=>hi (by rw[e];exact hx)
   exact⟨x,hx,by rw[getD_set_ne false u]at h;exact h⟩
 . rintro⟨x,hx,h⟩;have u:i≠x:=fun e=>hi (by rw[e];exact hx)
   exact⟨x,hx,by rw[getD_set_ne false u];exact h⟩
def Eg {listed:Array Bool} {i:Nat} (h:G7 tails listed=true):G7 tails (listed.setIfInBounds i true)=true:=by
 unfold G7 at*;rw[xS]at*;obtain⟨x,hx,h⟩:=h;exact⟨x,hx,getD_set_true h⟩
def aP.set (u:∀(j:Nat) (oj:Oper),ops[j]? =some oj->j∈tails->∀h∈heads,Reach ops j h) {listed:Array Bool} {j:Nat} (hd:aP ops heads tails listed) (hj:j∈Region.ready .any ops listed):aP ops heads tails (listed.setIfInBounds j true):=by
 obtain⟨_,oj,a3,a0⟩:=mem_ready.1 hj;refine⟨fun i oi hi hl e he hb=> ?_,fun ht h hh=> ?_⟩
 . by_cases a1:i=j
   . subst a1;rw[a3]at hi;cases hi;exact getD_set_true (a0 e he hb)
   . rw[getD_set_ne false (Ne.symm a1)]at hl;exact getD_set_true (hd.1 i oi hi hl e he hb)
 . by_cases a2:j∈tails
   . exact getD_set_true ((u j oj a3 a2 h hh).listed hd.1 hj)
   . rw[H9 a2]at ht;exact getD_set_true (hd.2 ht h hh)
def MJ {i:Nat} {oi:Oper} {v:Value} (hi:ops[i]? =some oi) (aa:i∈heads) (ae:i∉tails) (a6:∀(j:Nat) (o:Oper) cs b,ops[j]? =some o->o.op≠ .select cs b)
 (a1:∀(j:Nat) (oj:Oper),ops[j]? =some oj->j∈tails->∀h∈heads,Reach ops j h)
 (hQ:∀c a w,Q (.panic c) (a.put oi.dst v) w->Q (.panic c) a w):
 ∀(fuel:Nat) (listed:Array Bool) (a:Act) (w:World),aP ops heads tails listed->
  (∀j oj,ops[j]? =some oj->j≠i->listed.getD j true=false->(∀e∈oj.after,Region.binds .any e=true->e.on≠i)->oi.apart ops oj=true)->
  i∈Region.ready .any ops listed->YieldsIf P ops S oi v a->S w->
  Z4 P ops Q S tails fuel (listed.setIfInBounds i true) (a.put oi.dst v) w->Z4 P ops Q S tails (fuel+1) listed a w:=by
 intro fuel
 induction fuel with
 |zero=>
  intro listed a w _ _ hr hy hS H;refine⟨fun h=>(by rw[h]at hr;cases hr),fun j hj=> ?_⟩;by_cases u:j=i
  . subst u;exact hy.wpOp hi hS ⟨.inr hS,H⟩
  . have:=ready_mono hj u;rw[H.1]at this;cases this
 |succ fuel ih=>
  intro listed a w hd a0 hr hy hS H;have a8:listed.getD i false=false:=FJ (mem_ready.1 hr).1;refine⟨fun h=>(by rw[h]at hr;cases hr),fun j hj=> ?_⟩;by_cases u:j=i
  . subst u;exact hy.wpOp hi hS ⟨.inr hS,H⟩
  . obtain⟨a5,oj,a4,a9⟩:=mem_ready.1 hj;have ac:∀e∈oj.after,Region.binds .any e=true->e.on≠i:=fun e he hb heq=>by
     have h1:=a9 e he hb;rw[heq]at h1;rw[a8]at h1;cases h1
    have a7:j∉tails:=fun a7=>by
     have:=(a1 j oj a4 a7 i aa).listed hd.1 hj;rw[a8]at this;cases this
    have ah:G7 tails listed=false:=by
     cases ht:G7 tails listed with
     |false=>rfl
     |true=>have:=hd.2 ht i aa;rw[a8]at this;cases this
    have h1:=H.2 j (ready_mono hj u);have h2:=wpOp_putIf a4 (a0 j oj a4 u a5 ac) (fun cs b=>a6 i oi cs b hi) (fun cs b=>a6 j oj cs b a4) hQ hy h1;have a3:∀k ok,ops[k]? =some ok->k≠i->(listed.setIfInBounds j true).getD k true=false->
     (∀e∈ok.after,Region.binds .any e=true->e.on≠i)->oi.apart ops ok=true:=fun k ok hk af ad ag=>by
     refine a0 k ok hk af ?_ ag;by_cases ab:j=k
     . subst ab;exact a5
     . rw[getD_set_ne true ab]at ad;exact ad
    refine wpOp_mono (fun a' w' h3=> ?_) h2;have a2:S w':=by
     rcases h3.2.1 with ht|a2
     . rw[H9 a7,H9 ae,ah]at ht;cases ht
     . exact a2
    refine⟨.inr a2,ih (listed.setIfInBounds j true) a' w' (hd.set a1 hj) a3 (ready_mono hr (Ne.symm u)) h3.1 a2 ?_⟩;rw[zG _ _ u];exact h3.2.2
def CE {i:Nat} {oi:Oper} {v:Value} (hi:ops[i]? =some oi) (aa:i∉tails) (a3:∀(j:Nat) (o:Oper) cs b,ops[j]? =some o->o.op≠ .select cs b)
 (hQ:∀c a w,Q (.panic c) (a.put oi.dst v) w->Q (.panic c) a w):
 ∀(fuel:Nat) (listed:Array Bool) (a:Act) (w:World),
  (∀j oj,ops[j]? =some oj->j≠i->listed.getD j true=false->(∀e∈oj.after,Region.binds .any e=true->e.on≠i)->oi.apart ops oj=true)->
  i∈Region.ready .any ops listed->YieldsIf P ops (fun _=>True) oi v a->(G7 tails listed=true\/S w)->
  Z4 P ops Q S tails fuel (listed.setIfInBounds i true) (a.put oi.dst v) w->Z4 P ops Q S tails (fuel+1) listed a w:=by
 intro fuel
 induction fuel with
 |zero=>
  intro listed a w _ hr hy hS H;refine⟨fun h=>(by rw[h]at hr;cases hr),fun j hj=> ?_⟩;by_cases u:j=i
  . subst u;exact hy.wpOp hi trivial ⟨hS.imp Eg id,H⟩
  . have:=ready_mono hj u;rw[H.1]at this;cases this
 |succ fuel ih=>
  intro listed a w a0 hr hy hS H;have ac:listed.getD i false=false:=FJ (mem_ready.1 hr).1;refine⟨fun h=>(by rw[h]at hr;cases hr),fun j hj=> ?_⟩;by_cases u:j=i
  . subst u;exact hy.wpOp hi trivial ⟨hS.imp Eg id,H⟩
  . obtain⟨a2,oj,a4,a6⟩:=mem_ready.1 hj;have a8:∀e∈oj.after,Region.binds .any e=true->e.on≠i:=fun e he hb heq=>by
     have h1:=a6 e he hb;rw[heq]at h1;rw[ac]at h1;cases h1
    have h1:=H.2 j (ready_mono hj u);have h2:=wpOp_putIf a4 (a0 j oj a4 u a2 a8) (fun cs b=>a3 i oi cs b hi) (fun cs b=>a3 j oj cs b a4) hQ hy h1;have a1:∀k ok,ops[k]? =some ok->k≠i->(listed.setIfInBounds j true).getD k true=false->
     (∀e∈ok.after,Region.binds .any e=true->e.on≠i)->oi.apart ops ok=true:=fun k ok hk ab a9 ad=>by
     refine a0 k ok hk ab ?_ ad;by_cases a7:j=k
     . subst a7;exact a2
     . rw[getD_set_ne true a7]at a9;exact a9
    refine wpOp_mono (fun a' w' h3=> ?_) h2;have a5:G7 tails (listed.setIfInBounds j true)=true\/S w':=by
     refine h3.2.1.imp (fun ht=> ?_) id;rw[zG _ _ (Ne.symm u),H9 aa]at ht;exact ht
    refine⟨a5,ih (listed.setIfInBounds j true) a' w' a1 (ready_mono hr (Ne.symm u)) h3.1 a5 ?_⟩;rw[zG _ _ u];exact h3.2.2
end held
def U2 {l:List Nat} {i:Nat} (h:l.contains i=false):i∉l:=by
 intro u;have:l.contains i=true:=by simpa using u
 rw[h]at this;cases this
def lF {tails:List Nat} {listed:Array Bool} {i:Nat} (u:i<listed.size):G7 tails (listed.setIfInBounds i true)=(G7 tails listed||tails.contains i):=by
 cases hc:tails.contains i with
 |false=>rw[H9 (U2 hc)];simp
 |true=>
  rw[g2e];unfold G7;rw[xS];exact⟨i,by simpa using hc,by simp[tB,u]⟩
def B4i {ops:Array Oper} {listed:Array Bool} {i:Nat} (h:i∈Region.ready .any ops listed):i<listed.size:=by
 have:=(mem_ready.1 h).1;rcases sI i listed.size with u|u
 . exact u
 . simp[g2d u]at this
def Cl (n:Nat):Code->Bool
 | .region _ ops _=>mC n ops.toList
 | .seq a b=>Cl n a&&Cl n b
 | .cond _ a b=>Cl n a&&Cl n b
 | .block _ b=>Cl n b
 | .loop b=>Cl n b
 | .scope b=>Cl n b
 | .rangeFunc .. =>false
 | _=>true
def Wp (P:Program) (n:Nat) (c:Code) (Q:Exit->H0->World->Prop) (E:H0) (w:World):Prop:=
 Cl n c=true->∀a,C7 n a E->c.wp P (HF n Q) a w
inductive Fr where
 |code (c:Code)
 |blk (id:Nat)
 |ops (all rest:List Oper)
 |dops (S:World->Prop) (all:List Oper) (tails:List Nat) (p:fT) (t:Bool)
 |chk (S:World->Prop)
 |upto (I:H0->World->Prop)
def Den (P:Program) (n:Nat) (R:H0->World->Prop):List Fr->Exit->H0->World->Prop
 | [], .normal=>R
 | [], .ret=>R
 | [],_=>fun _ _=>False
 | .code c::k, .normal=>Wp P n c (Den P n R k)
 | .blk _::k, .normal=>Den P n R k .normal
 | .ops all rest::k, .normal=>B7i P all (Den P n R k .normal) rest
 | .dops S all tails p t::k, .normal=>cU P S all tails (Den P n R k .normal) p t
 | .chk S::k, .normal=>fun E w=>S w/\Den P n R k .normal E w
 | .upto I:: _, .normal=>I
 | .blk id::k, .exit j=>if j=id then Den P n R k .normal else Den P n R k (.exit j)
 | _::k,e=>Den P n R k e
structure Go (P:Program) (n:Nat) (R:H0->World->Prop) (k:List Fr) (E:H0) (w:World):Prop where
 out:Den P n R k .normal E w
section rules
variable {P:Program} {n:Nat} {R:H0->World->Prop} {k:List Fr} {E:H0} {w:World}
def Uf:∀k:List Fr,R E w->Den P n R k .ret E w
 | [],h=>h
 | .code _::k,h=>Uf k h
 | .blk _::k,h=>Uf k h
 | .ops _ _::k,h=>Uf k h
 | .dops _ _ _ _ _::k,h=>Uf k h
 | .chk _::k,h=>Uf k h
 | .upto _::k,h=>Uf k h
def go_ret (h:R E w):Go P n R (.code .ret::k) E w:=⟨fun _ a u=>wp_ret ⟨E,u,Uf k h⟩⟩
def kI (u:List Nat) (E E0:H0):Prop:=∀t,u.contains t=false->E t=E0 t
def kI.refl (u:List Nat) (E:H0):kI u E E:=fun _ _=>rfl
def kI.upd {u:List Nat} {E E0:H0} {d:Nat} {v:Value} (hd:u.contains d=true) (h:kI u E E0):kI u (upd E d v) E0:=fun t ht=>by
 rw[C6]
 . exact h t ht
 . intro e;subst e;rw[hd]at ht;cases ht
end rules
def PY (args:List Value):H0:=fun t=>(args[t]?).getD undef
def PS {P:Program} {f:FuncId} {fn:Func} {c:Code} {args:List Value} {w:World} {Φ:Value->World->Prop} (hf:P.funcs[f]? =some fn) (hb:fn.body=some c)
 (hn:args.length<=fn.ntmps) (a1:Cl fn.ntmps c=true) (R:H0->World->Prop)
 (hR:∀E w (tmps:Array Value),(∀t,tmps.getD t undef=E t)->R E w->∃v,(results fn tmps).run P w= .ok v w/\Φ v w)
 (h:Go P fn.ntmps R [.code c] (PY args) w):
 Calls P f args.toArray w fun e w'=>∃v,e= .returned v/\Φ v w':=by
 refine calls_of_wp hf hb ?_;have a0:C7 fn.ntmps {tmps:=args.toArray++Array.replicate (fn.ntmps-args.toArray.size) undef,defers:= []} (PY args):=by
  refine⟨by simp;omega,fun t=> ?_,rfl⟩;unfold PY;simp only[yG,Array.getElem?_append,g0a,yE,zF];split
  . rfl
  . rename_i a2;rw[rW (by omega)];split<;>rfl
 refine wp_mono (h.out a1 _ a0) ?_;rintro e a' w' ⟨E',hr',hq⟩;cases e with
 |normal=>obtain⟨v,hv,u⟩:=hR E' w' a'.tmps hr'.get hq;exact⟨hr'.defers,v,hv,v,rfl,u⟩
 |ret=>obtain⟨v,hv,u⟩:=hR E' w' a'.tmps hr'.get hq;exact⟨hr'.defers,v,hv,v,rfl,u⟩
 |exit j=>exact hq.elim
 |goto l=>exact hq.elim
 |panic c=>exact hq.elim
 |outgrown=>exact hq.elim
def E7 (P:Program) (E:H0) (ty:TypeId) (op:Op) (w:World) (v:Value) (w':World):Prop:=
 ∀(d:Option Tmp) (pos:String) (aft:Array Edge) (g:Option (Nat×Bool)),(execOp (ev E) ⟨d,op,ty,pos,aft,g⟩).run P w= .ok (.value v) w'
def PO (P:Program) (E:H0) (ty:TypeId) (op:Op) (w w':World):Prop:=
 ∀(d:Option Tmp) (pos:String) (aft:Array Edge) (g:Option (Nat×Bool)),(execOp (ev E) ⟨d,op,ty,pos,aft,g⟩).run P w= .ok .skip w'
def A9v (P:Program) (E:H0) (ty:TypeId) (op:Op) (w:World) (f:FuncId) (args:List Value):Prop:=
 ∀(d:Option Tmp) (pos:String) (aft:Array Edge) (g:Option (Nat×Bool)),(execOp (ev E) ⟨d,op,ty,pos,aft,g⟩).run P w= .ok (.enter f args.toArray) w
def cG (P:Program) (f:FuncId) (args:List Value) (w:World) (Φ:Value->World->Prop):Prop:=
 Calls P f args.toArray w fun e w'=>∃v,e= .returned v/\Φ v w'
def cG.mono {P:Program} {f:FuncId} {args:List Value} {w:World} {Φ Φ':Value->World->Prop} (h:cG P f args w Φ) (hh:∀v w',Φ v w'->Φ' v w'):cG P f args w Φ':=
 Calls.mono h fun _ _ ⟨v,he,hv⟩=>⟨v,he,hh _ _ hv⟩
def XR {all:List Oper} {d:Option Tmp} {op:Op} {ty:TypeId} {pos:String} {aft:Array Edge} {j t:Nat} {b:Bool} {E:H0} (h1:(all[j]?).bind (·.dst)=some t) (u:E t= .bool b):E6 all ⟨d,op,ty,pos,aft,some (j,b)⟩ E=true:=by
 simp[E6,Ed,h1,u]
section frames
variable {P:Program} {n:Nat} {R:H0->World->Prop} {k:List Fr} {E:H0} {w:World} {all rest:List Oper} {d:Nat} {op:Op} {ty:TypeId} {pos:String} {aft:Array Edge} {g:Option (Nat×Bool)}
variable {S:World->Prop} {i:Nat} {p:fT} {tails:List Nat} {t:Bool}
end frames
def Jq (P:Program) (t:TypeId):Bool:=match P.underlying t with|some (.struct _)=>false|some (.array _ _)=>false|some _=>true|none=>false
def kO (P:Program) (t:TypeId) (s:Nat):Bool:=
 (match P.underlying t with|some (.struct _)=>true|some (.array _ _)=>true| _=>false)&&(match P.info? t with|some i=>i.size==s|none=>false)
def Ta (P:Program) (t:TypeId) (s:Nat):Bool:=match P.info? t with|some i=>i.size==s|none=>false
def NS (P:Program) (t:TypeId) (f off:Nat):Bool:=
 match P.underlying t with
 |some (.struct u)=>(match u[f]? with|some x=>x.offset==off&&(match P.info? x.type with|some i=> !(i.size==0) |none=>false) |none=>false)
 | _=>false
def Ht (P:Program) (t e:TypeId) (s:Nat):Bool:=(match P.underlying t with|some (.slice e')=>e'==e| _=>false)&&Ta P e s
def Gz (P:Program) (f:FuncId):Bool:=match P.funcs[f]? with|some fn=> !(fn.name== "runtime.NumGoroutine")&&fn.body.isSome|none=>false
def Hz (P:Program) (t:TypeId):Option Value:=(P.info? t).bind (·.zero)
section ops
variable {P:Program} {E:H0} {w:World} {ty:TypeId}
def B5l {x:Operand} :E7 P E ty (.move x) w (ev E x) w:=fun _ _ _ _=>rfl
def pS {x:Operand} :E7 P E ty (.assign x) w (ev E x) w:=fun _ _ _ _=>rfl
def C2d {c a b:Operand} {t:Bool} (u:ev E c= .bool t):E7 P E ty (.pick c a b) w (bif t then ev E a else ev E b) w:=fun _ _ _ _=>by
 cases t<;>simp[execOp,u,asBool,go_sem]
def A9m {x:Operand} {vs:Array Value} {v:Value} {i:Nat} (hx:ev E x= .tuple vs) (u:vs[i]? =some v):E7 P E ty (.extract x i) w v w:=fun _ _ _ _=>by
 simp[execOp,hx,Instr.extract,u,go_sem]
def C5u {T:TypeId} {x:Operand} {b:Bool} (hx:ev E x= .bool b):E7 P E ty (.unOp .not T x) w (.bool !b) w:=fun _ _ _ _=>by
 simp[execOp,hx,Op.unary,go_sem]
def C5t {T:TypeId} {x:Operand} {k:IntKind} {a:Int} (hx:ev E x= .int k a):E7 P E ty (.unOp .neg T x) w (.int k (k.wrap (-a))) w:=fun _ _ _ _=>by
 simp[execOp,hx,Op.unary,Op.intArith,go_sem]
def mH {op:BinOp} {T:TypeId} {x y:Operand} {k k':IntKind} {a b:Int} :(eqGuard op T x y (.int k a) (.int k' b)).run P w= .ok () w:=by
 unfold eqGuard;cases op<;>rfl
def B5j {op:BinOp} {T T':TypeId} {x y:Operand} {k k':IntKind} {a b:Int} {v:Value} (hx:ev E x= .int k a) (u:ev E y= .int k' b) (h:(binOp op T (.int k a) (.int k' b)).run P w= .ok v w):E7 P E ty (.binOp op T x y T') w v w:=fun _ _ _ _=>by
 simp only[execOp,hx,u];have h1:=mH (P:=P) (w:=w) (op:=op) (T:=T) (x:=x) (y:=y) (k:=k) (k':=k') (a:=a) (b:=b);simp[go_sem,h1,h]
def C2a {x y:Operand} {ts:Array TypeId} {k k':IntKind} {a b:Int} (hx:ev E x= .int k a) (hy:ev E y= .int k' b):E7 P E ty (.call ⟨.builtin .max, #[x,y],ts⟩) w (.int k (max a b)) w:=fun _ _ _ _=>by
 have u:(if b>a then b else a)=max a b:=by by_cases h:a<b<;>simp only[gt_iff_lt,h,xO,yU]<;>omega
 simp[execOp,resolve,invoke,builtin,Builtin.max_,Builtin.max2,hx,hy,go_sem];exact u
def C2b {x y z:Operand} {ts:Array TypeId} {k k' u:IntKind} {a b c:Int} (hx:ev E x= .int k a) (hy:ev E y= .int k' b) (hz:ev E z= .int u c):E7 P E ty (.call ⟨.builtin .max, #[x,y,z],ts⟩) w (.int k (max (max a b) c)) w:=fun _ _ _ _=>by
 have hm:∀a b:Int,(if b>a then b else a)=max a b:=fun a b=>by by_cases h:a<b<;>simp only[gt_iff_lt,h,xO,yU]<;>omega
 simp only[execOp,resolve,invoke,builtin,Builtin.max_,go_sem];simp[hx,hy,hz,Builtin.max2,hm,go_sem]
def C2c {x y:Operand} {ts:Array TypeId} {k k':IntKind} {a b:Int} (hx:ev E x= .int k a) (hy:ev E y= .int k' b):E7 P E ty (.call ⟨.builtin .min, #[x,y],ts⟩) w (.int k (min a b)) w:=fun _ _ _ _=>by
 have u:(if b<a then b else a)=min a b:=by by_cases h:b<a<;>simp only[h,xO,yU]<;>omega
 simp[execOp,resolve,invoke,builtin,Builtin.min_,Builtin.min2,hx,hy,go_sem];exact u
def C5q {x:Operand} {t e:TypeId} {s len a0:Nat} {a:Option Addr} (hx:ev E x= .slice a len a0) (u:Ht P t e s=true):E7 P E ty (.call ⟨.builtin .len, #[x], #[t]⟩) w (.int .i64 len) w:=fun _ _ _ _=>by
 have hu:P.underlying t=some (.slice e):=by
  unfold Ht at u;simp only[qC]at u;obtain⟨u,_⟩:=u;split at u
  . rename_i e' he;simp at u;subst u;exact he
  . cases u
 simp[execOp,resolve,invoke,builtin,Builtin.len_,hx,run_underlying hu,goInt,go_sem]
end ops
def Gf {P:Program} {E:H0} {w:World} {ty:TypeId} {fo:Operand} {f:FuncId} {a0 args:List Value} {as:List Operand} {ts:Array TypeId} (hf:ev E fo= .func (.func f) #[] a0.toArray) (u:Gz P f=true) (ha:as.map (ev E)++a0=args):
 A9v P E ty (.call ⟨.value fo,as.toArray,ts⟩) w f args:=fun _ _ _ _=>by
 unfold Gz at u;split at u
 . rename_i fn a1;simp only[qC,rR]at u;have h2:¬fn.body=none:=by intro hb;rw[hb]at u;simp at u
   have h1:¬fn.name= "runtime.NumGoroutine" :=by simpa using u.1
   subst ha;simp[execOp,resolve,hf,Deferred.ofValue,invoke,callFunc,a1,h1,h2,go_sem]
 . cases u
def C5r {P:Program} {E:H0} {w:World} {ty:TypeId} {fn:Fn} {caps:List Operand} {vs:List Value} (u:caps.map (ev E)=vs):E7 P E ty (.makeFunc fn #[] caps.toArray) w (.func fn #[] vs.toArray) w:=fun _ _ _ _=>by
 subst u;simp[execOp,Instr.makeFunc]
def C5s {P:Program} {E:H0} {w:World} {ty:TypeId} {T T':TypeId} {x y:Operand} {a b:Bool} (hx:ev E x= .bool a) (hy:ev E y= .bool b) (hT:P.underlying T=some .bool):E7 P E ty (.binOp .neq T x y T') w (.bool (a !=b)) w:=fun _ _ _ _=>by
 have h1:=run_equalIn_bool' (P:=P) w 9999 T a b hT;have hg:(eqGuard .neq T x y (.bool a) (.bool b)).run P w= .ok () w:=rfl;have u:(binOp .neq T (.bool a) (.bool b)).run P w= .ok (.bool (a !=b)) w:=by
  show((Op.equal T (.bool a) (.bool b))>>=fun r=>pure (Value.bool (!r))).run P w= _;unfold Op.equal Op.maxDepth;rw[Sem.run_bind,h1];rfl
 simp only[execOp,hx,hy];simp[hg,u]
def MO (w:World) (b:Nat) (cs:Array Value) (t:TypeId):Prop:=w.heap[b]? =some (.cells cs t (0,0))
structure S7 (w w':World):Prop extends Below w.heap.size w w' where
 drw:True
def MO.lt {w:World} {b:Nat} {cs:Array Value} {t:TypeId} (h:MO w b cs t):b<w.heap.size:=(sA.1 h).1
def MO.ext {w w':World} {b:Nat} {cs:Array Value} {t:TypeId} (h:MO w b cs t) (hx:S7 w w'):MO w' b cs t:=(hx.block b h.lt).trans h
def MO.cell {w:World} {b o:Nat} {cs:Array Value} {t:TypeId} {v:Value} (h:MO w b cs t) (u:cs[o]? =some v):w.cell? ⟨b,o,none⟩=some v:=by
 unfold MO at h;simp[World.cell?,h,u]
def S7.refl (w:World):S7 w w:=⟨Below.refl _ _,trivial⟩
def S7.trans {a b c:World} (h:S7 a b) (k:S7 b c):S7 a c:=⟨Below.trans h.toBelow (Below.mono k.toBelow h.size),trivial⟩
def S7.drew {a b:World} (h:S7 a b):S7 a b.drew:=⟨Below.drew h.toBelow,trivial⟩
def S7.alloc (w:World) (o:Obj):S7 w (w.alloc o):=⟨(Below.refl _ _).alloc (rC _) o,trivial⟩
section mem
variable {P:Program} {E:H0} {w:World} {ty:TypeId}
def Jj {t:TypeId} (h:Jq P t=true):(isAgg t).run P w= .ok false w:=by
 unfold Jq at h;cases u:P.underlying t with
 |none=>simp[u]at h
 |some d=>cases d<;>simp[u]at h<;>simp[isAgg,run_underlying u,go_sem]
def Qn {t:TypeId} {s:Nat} (h:kO P t s=true):(isAgg t).run P w= .ok true w/\(sizeOf t).run P w= .ok s w:=by
 unfold kO at h;simp only[qC]at h;obtain⟨h1,u⟩:=h;constructor
 . cases hu:P.underlying t with
   |none=>simp[hu]at h1
   |some d=>cases d<;>simp[hu]at h1<;>simp[isAgg,run_underlying hu,go_sem]
 . cases hi:P.info? t with
   |none=>simp[hi]at u
   |some i=>simp[hi]at u;simp[sizeOf,typeInfo,hi,u,go_sem]
def Gb {t:TypeId} {s:Nat} (h:Ta P t s=true):(sizeOf t).run P w= .ok s w:=by
 unfold Ta at h;cases hi:P.info? t with
 |none=>simp[hi]at h
 |some i=>simp[hi]at h;simp[sizeOf,typeInfo,hi,h,go_sem]
def A3p {T:TypeId} {x:Operand} {a:Addr} {v:Value} (hx:ev E x= .pointer (some a)) (hs:Jq P T=true) (u:w.cell? a=some v):E7 P E ty (.load T x) w v w:=fun _ _ _ _=>by
 have h1:=Jj (P:=P) (w:=w) hs;simp[execOp,hx,Instr.loadAt,Instr.sureAddr,loadVar,h1,u,go_sem]
def J6 (w:World) (a:Addr) (cs:List Value):Prop:=∀j v,cs[j]? =some v->w.cell? (a.add j)=some v
def A3q {T:TypeId} {x:Operand} {a:Addr} {cs:List Value} {s:Nat} (hx:ev E x= .pointer (some a)) (hs:kO P T s=true) (hl:cs.length=s) (hc:J6 w a cs):E7 P E ty (.load T x) w (.agg cs.toArray) w:=fun _ _ _ _=>by
 obtain⟨h1,h2⟩:=Qn (P:=P) (w:=w) hs;have u:=run_loadCells_list (P:=P) (w:=w) a cs hc;rw[hl]at u;unfold loadCells at u;simp[execOp,hx,Instr.loadAt,Instr.sureAddr,loadVar,h1,h2,u,go_sem]
def MO.cellsAt {w:World} {b:Nat} {cs:Array Value} {t:TypeId} (h:MO w b cs t):J6 w ⟨b,0,none⟩ cs.toList:=fun j v u=>by
 have:(⟨b,0,none⟩:Addr).add j=⟨b,j,none⟩:=by unfold Addr.add;split<;>simp_all
 rw[this];exact h.cell (by simpa using u)
def K7 (b o n:Nat):(⟨b,o,none⟩:Addr).add n=⟨b,o+n,none⟩:=by unfold Addr.add;split<;>simp_all
def CF {T:TypeId} {x:Operand} {b o f off:Nat} (hx:ev E x= .pointer (some ⟨b,o,none⟩)) (u:NS P T f off=true):E7 P E ty (.fieldAddr T x f) w (.pointer (some ⟨b,o+off,none⟩)) w:=fun _ _ _ _=>by
 unfold NS at u;split at u
 . rename_i fs hu;split at u
   . rename_i fd a0;simp only[qC,g1k]at u;obtain⟨h1,h2⟩:=u;cases hi:P.info? fd.type with
     |none=>simp[hi]at h2
     |some i=>
      simp[hi]at h2;have hz:(sizeOf fd.type).run P w= .ok i.size w:=by simp[sizeOf,typeInfo,hi,go_sem]
      subst h1;simp[execOp,hx,Instr.fieldAt,Instr.sureAddr,run_underlying hu,a0,fieldPlace,hz,h2,K7,go_sem]
   . cases u
 . cases u
def C5n {T:TypeId} {x:Operand} {v:Value} (hx:ev E x=v):E7 P E ty (.box T x) w (.pointer (some ⟨w.heap.size,0,none⟩)) (w.alloc (.cells v.cells T)):=fun _ _ _ _=>by
 subst hx;simp[execOp,Instr.box,newVar,newRow,go_sem]
def A6a {T:TypeId} {z:Value} (u:Hz P T=some z):E7 P E ty (.alloc T) w (.pointer (some ⟨w.heap.size,0,none⟩)) (w.alloc (.cells z.cells T)):=fun _ _ _ _=>by
 unfold Hz at u;cases hi:P.info? T with
 |none=>simp[hi]at u
 |some i=>
  simp[hi]at u;simp[execOp,Instr.alloc,zeroValue,typeInfo,hi,u,newVar,newRow,go_sem]
def Lu (w:World) (cs:Array Value) (t:TypeId):MO (w.alloc (.cells cs t)) w.heap.size cs t:=heap_alloc_new w _
def MO.alloc {w:World} {b:Nat} {cs:Array Value} {t:TypeId} (h:MO w b cs t) (o:Obj):MO (w.alloc o) b cs t:=h.ext (S7.alloc w o)
end mem
def Ls:∀u∈([]:List Value),u.oneCell'=true:=fun _ h=>by cases h
def Mn {v:Value} {l:List Value} (h:v.oneCell'=true) (t:∀u∈l,u.oneCell'=true):∀u∈v::l,u.oneCell'=true:=fun u hu=>by
 rcases qR.1 hu with hu|hu
 . rw[hu];exact h
 . exact t u hu
section frames
variable {P:Program} {n:Nat} {R:H0->World->Prop} {k:List Fr} {E:H0} {w:World} {all rest:List Oper} {d:Nat} {ty:TypeId} {pos:String} {aft:Array Edge} {g:Option (Nat×Bool)}
end frames
section tests
variable {P:Program} {n:Nat} {R:H0->World->Prop} {k:List Fr} {E:H0} {w:World} {all rest:List Oper} {d:Nat} {ty:TypeId} {pos:String} {aft:Array Edge} {g:Option (Nat×Bool)} {op:Op} {c:Prop} [Decidable c]
variable {S:World->Prop} {i:Nat} {p:fT} {tails:List Nat} {t:Bool}
end tests
def DH (P:Program) (t:TypeId):Option (List (Nat×Nat)):=
 match P.underlying t with
 |some (.struct u)=>u.toList.mapM fun f=>(P.info? f.type).map fun i=>(f.offset,i.size)
 | _=>none
def YI {P:Program} {w:World} :∀(u:List Field) (pl:List (Nat×Nat)),u.mapM (fun f=>(P.info? f.type).map fun i=>(f.offset,i.size))=some pl->
 (u.mapM fun f=>do pure (f.offset, <-sizeOf f.type):Sem (List (Nat×Nat))).run P w= .ok pl w
 | [],pl,h=>by simp at h;subst h;rfl
 |f::u,pl,h=>by
  simp only[wT]at h;cases hi:P.info? f.type with
  |none=>simp[hi]at h
  |some i=>
   simp only[hi,vS,qI,vW]at h;cases hm:u.mapM (fun f=>(P.info? f.type).map fun i=>(f.offset,i.size))with
   |none=>rw[hm]at h;simp at h
   |some a0=>
    rw[hm]at h;simp at h;subst h;have ih:=YI (w:=w) u a0 hm;rw[wT];simp[sizeOf,typeInfo,hi,go_sem];simp[sizeOf,typeInfo,go_sem]at ih;rw[ih];rfl
def B8w {P:Program} {E:H0} {w:World} {ty:TypeId} {T:TypeId} {u:List (Nat×Operand)} {z:Value} {pl:List (Nat×Nat)} (cs:Array Value) (hz:Hz P T=some z) (hp:DH P T=some pl)
 (a0:Instr.fill (fun i=>pl[i]?) z.cells (u.map fun x=>(x.1,ev E x.2))=some cs):E7 P E ty (.build T u.toArray) w (.agg cs) w:=fun _ _ _ _=>by
 unfold Hz at hz;unfold DH at hp;cases hi:P.info? T with
 |none=>simp[hi]at hz
 |some i=>
  simp[hi]at hz;cases hu:P.underlying T with
  |none=>simp[hu]at hp
  |some ds=>
   cases ds<;>simp[hu]at hp
   case struct fs=>
    have a1:=YI (w:=w) fs.toList pl hp;have hm:(fs.mapM fun f=>do pure (f.offset, <-sizeOf f.type):Sem (Array (Nat×Nat))).run P w= .ok pl.toArray w:=by
     rw[yV];simp at a1⊢;simp[a1]
    simp only[execOp];unfold Instr.build;simp at hm;simp[zeroValue,typeInfo,hi,hz,run_underlying hu,hm,a0]
def pT {P:Program} {E:H0} {w:World} {ty:TypeId} {T e:TypeId} {len sz:Nat} {u:List (Nat×Operand)} {z:Value} (cs:Array Value) (hz:Hz P T=some z) (hT:P.underlying T=some (.array len e)) (hs:Ta P e sz=true)
 (a0:Instr.fill (fun i=>some (i*sz,sz)) z.cells (u.map fun x=>(x.1,ev E x.2))=some cs):E7 P E ty (.build T u.toArray) w (.agg cs) w:=fun _ _ _ _=>by
 unfold Hz at hz;have h3:=Gb (P:=P) (w:=w) hs;cases hi:P.info? T with
 |none=>simp[hi]at hz
 |some i=>
  simp[hi]at hz;simp only[execOp];unfold Instr.build;simp[zeroValue,typeInfo,hi,hz,run_underlying hT,h3,a0]
def B0l {w w':World} (hx:S7 w w') {a:Addr} {v:Value} (h:w.cell? a=some v):w'.cell? a=some v:=by
 have u:a.block<w.heap.size:=block_lt_of_cell h;rw[hx.cell u];exact h
def J6.ext {w w':World} {a:Addr} {cs:List Value} (h:J6 w a cs) (hx:S7 w w'):J6 w' a cs:=fun j v u=>B0l hx (h j v u)
def SlR {α:Type} (w:World) (sz:Nat) (f:α->List Value) (v:Value) (l:List α):Prop:=
 (∃a u,v= .slice a 0 u/\l= [])\/∃b o u,v= .slice (some ⟨b,o,none⟩) l.length u/\l.length<=u/\∀i a,l[i]? =some a->J6 w ⟨b,o+i*sz,none⟩ (f a)
def SlR.ext {α:Type} {w w':World} {sz:Nat} {f:α->List Value} {v:Value} {l:List α} (h:SlR w sz f v l) (hx:S7 w w'):SlR w' sz f v l:=by
 rcases h with h| ⟨b,o,u,hv,hc,hh⟩
 . exact .inl h
 . exact .inr ⟨b,o,u,hv,hc,fun i a hi=>(hh i a hi).ext hx⟩
def SlR.nil {α:Type} (w:World) (sz:Nat) (f:α->List Value):SlR w sz f (.slice none 0 0) []:= .inl ⟨_,_,rfl,rfl⟩
section sl
variable {P:Program} {E:H0} {w:World} {ty:TypeId} {α:Type} {sz:Nat} {f:α->List Value} {v:Value} {l:List α}
def Kf {t e:TypeId} {s:Nat} (u:Ht P t e s=true):P.underlying t=some (.slice e)/\Ta P e s=true:=by
 unfold Ht at u;simp only[qC]at u;obtain⟨u,h2⟩:=u;refine⟨?_,h2⟩;split at u
 . rename_i e' he;simp at u;subst u;exact he
 . cases u
def B5k {x ix:Operand} {t e:TypeId} {kd:IntKind} {i:Int} {a:Addr} {len u:Nat} (hx:ev E x= .slice (some a) len u) (hi:ev E ix= .int kd i) (ht:Ht P t e sz=true) (h0:0<=i) (h1:i<len):E7 P E ty (.indexAddr t x ix) w (.pointer (some (a.add (i.toNat*sz)))) w:=fun _ _ _ _=>by
 obtain⟨hu,hz⟩:=Kf ht;have h3:=Gb (P:=P) (w:=w) hz;simp[execOp,hx,hi,Instr.indexAt,asIntOf,run_underlying hu,h0,h1,h3,go_sem]
end sl
section owned
variable {w w':World} {base:Nat} {e:TypeId} {sz:Nat} {v:Value} {n:Nat} {xs:List Value}
def B7m (h:w.ownsRow base e sz v n xs) (hx:S7 w w'):w'.ownsRow base e sz v n xs:=
 h.kept (row:=none) ⟨hx.os,hx.tape,hx.output,hx.size,fun k u _=>hx.block k u⟩ (by cases v.ownBlock<;>simp)
def MO.grown {b:Nat} {cs:Array Value} {t:TypeId} {row:Option Nat} (h:MO w b cs t) (hg:w.grownBy w' row) (u:some b≠row):MO w' b cs t:=(hg.block b h.lt u).trans h
end owned
section frames2
variable {P:Program} {n:Nat} {R:H0->World->Prop} {k:List Fr} {E:H0} {w:World} {all rest:List Oper} {d:Nat} {ty:TypeId} {pos:String} {aft:Array Edge} {g:Option (Nat×Bool)}
def kD {T e:TypeId} {sz len:Nat} {u:List (Nat×Operand)} {z:Value} (cs:Array Value) (ht:Ht P T e sz=true) (hz:Hz P e=some z) (a1:len*sz<=16777216)
 (a0:Instr.fill (fun i=>some (i*sz,sz)) ((Array.range (len*sz)).map (z.cells[· %z.cells.size]!)) (u.map fun x=>(x.1,ev E x.2))=some cs) (h0:len*sz≠0):
 E7 P E ty (.buildSlice T len u.toArray) w (.slice (some ⟨w.heap.size,0,none⟩) len len) (w.alloc (.cells cs e)):=fun _ _ _ _=>by
 obtain⟨hu,hs⟩:=Kf ht;unfold Hz at hz;have h3:=Gb (P:=P) (w:=w) hs;cases hi:P.info? e with
 |none=>simp[hi]at hz
 |some i=>
  simp[hi]at hz;have hn:¬(16777216<len*sz):=by omega
  simp only[execOp];unfold Instr.buildSlice;simp[run_underlying hu,h3,hn,h0,zeroValue,typeInfo,hi,hz,a0,newRow]
def aM (b:Nat) (w w':World):Prop:=w'.os=w.os/\w'.tape=w.tape/\(w'.output=w.output/\w.drawn<=w'.drawn)/\w'.heap.size=w.heap.size/\∀k,k≠b->w'.heap[k]? =w.heap[k]?
def MO.chg {w w':World} {b b':Nat} {cs:Array Value} {t:TypeId} (h:MO w b cs t) (hc:aM b' w w') (u:b≠b'):MO w' b cs t:=(hc.2.2.2.2 b u).trans h
def S7.chg {w0 w w':World} {b:Nat} (h:S7 w0 w) (u:aM b w w') (hb:w0.heap.size<=b):S7 w0 w':=
 ⟨⟨u.1.trans h.os,u.2.1.trans h.tape,u.2.2.1.1.trans h.output,by rw[u.2.2.2.1];exact h.size,fun k hk=>(u.2.2.2.2 k (by omega)).trans (h.block k hk)⟩,trivial⟩
def B0k {w w':World} {b:Nat} (hc:aM b w w') {a:Addr} (u:a.block≠b):w'.cell? a=w.cell? a:=World.cell?_of_block (w:=w) (hc.2.2.2.2 _ u)
def B7l {w w':World} {b base e sz n:Nat} {v:Value} {xs:List Value} (h:w.ownsRow base e sz v n xs) (u:aM b w w') (a0:some b≠v.ownBlock):w'.ownsRow base e sz v n xs:=
 h.kept (row:=some b) ⟨u.1,u.2.1,u.2.2.1.1,by rw[u.2.2.2.1];exact rC _,fun k _ hk=>u.2.2.2.2 k (fun e=>hk (by rw[e]))⟩ (.inr (Ne.symm a0))
def TR {T tb:TypeId} {x y:Operand} {b o s:Nat} {cs:Array Value} {v:Value} (vs:List Value) (hx:ev E x= .pointer (some ⟨b,o,none⟩)) (hy:ev E y=v) (a1:v.cells.toList=vs) (hs:Ta P T s=true) (hl:vs.length=s) (hb:MO w b cs tb) (a0:o+vs.length<=cs.size) (h1:∀u∈vs,u.oneCell'=true):
 PO P E ty (.store T x y) w (w.setRow b (cs.toList.take o++vs++cs.toList.drop (o+vs.length)).toArray):=fun _ _ _ _=>by
 have h2:=Gb (P:=P) (w:=w) hs;have h3:=run_storeCells_at P b o tb vs 0 cs w hb (by simpa using a0) h1;have h4:v.cells.size=s:=by rw[<-hl, <-a1];simp
 simp only[tD]at h3;subst hy;simp[execOp,hx,Instr.storeAt,Instr.sureAddr,storeVar,h2,h4,a1,h3]
end frames2
section el
variable {P:Program} {E:H0} {w:World} {ty:TypeId}
def J6.get {w:World} {b o j:Nat} {cs:List Value} {v:Value} (h:J6 w ⟨b,o,none⟩ cs) (u:cs[j]? =some v):w.cell? ⟨b,o+j,none⟩=some v:=by
 have:=h j v u;rwa[K7]at this
def B6h {α:Type} {l:List α} {i:Nat} (h:i<l.length):∃a,l[i]? =some a:=⟨_,qM h⟩
def PT {α:Type} {l:List α} {i:Nat} {a:α} (h:l[i]? =some a):i<l.length:=(sG.1 h).1
end el
section frames
variable {P:Program} {n:Nat} {R:H0->World->Prop} {k:List Fr} {E:H0} {w:World} {all rest:List Oper} {d:Nat} {ty:TypeId} {pos:String} {aft:Array Edge} {g:Option (Nat×Bool)}
end frames
def two (a b:Int):Array Value:= #[.int .i64 a, .int .i64 b]
def Yf {κ:Type} (kv:κ->Value) (w:World) (b:Nat) (u:List κ):Prop:=
 ∃es clock,w.heap[b]? =some (.map es clock)/\es.toList.map (·.key)=u.map kv/\∀x∈es.toList,x.val= .bool true
def Yf.lt {κ:Type} {kv:κ->Value} {w:World} {b:Nat} {u:List κ} (h:Yf kv w b u):b<w.heap.size:=by
 obtain⟨es,cl,hb,_⟩:=h;exact(sA.1 hb).1
def Yf.ext {κ:Type} {kv:κ->Value} {w w':World} {b:Nat} {ks:List κ} (h:Yf kv w b ks) (hx:S7 w w'):Yf kv w' b ks:=by
 have u:=h.lt;obtain⟨es,cl,hb,r⟩:=h;exact⟨es,cl,(hx.block b u).trans hb,r⟩
def Yf.chg {κ:Type} {kv:κ->Value} {w w':World} {b b':Nat} {ks:List κ} (h:Yf kv w b ks) (hc:aM b' w w') (u:b≠b'):Yf kv w' b ks:=by
 obtain⟨es,cl,hb,r⟩:=h;exact⟨es,cl,(hc.2.2.2.2 b u).trans hb,r⟩
def Yf.grown {κ:Type} {kv:κ->Value} {w w':World} {b:Nat} {row:Option Nat} {ks:List κ} (h:Yf kv w b ks) (hg:w.grownBy w' row) (a0:some b≠row):Yf kv w' b ks:=by
 have u:=h.lt;obtain⟨es,cl,hb,r⟩:=h;exact⟨es,cl,(hg.block b u a0).trans hb,r⟩
def iv (i:Int):Value:= .int .i64 i
def sv (s:Int×Int):Value:= .agg (two s.1 s.2)
section maps
variable {P:Program} {E:H0} {w:World} {ty:TypeId} {κ:Type} {kv:κ->Value}
def A9n {t:TypeId} :E7 P E ty (.makeMap t none) w (.map (some w.heap.size)) (w.alloc (.map #[] 0)):=fun _ _ _ _=>by
 simp[execOp,Instr.makeMap]
end maps
section mframes
variable {P:Program} {n:Nat} {R:H0->World->Prop} {k:List Fr} {E:H0} {w:World} {all rest:List Oper} {d:Nat} {ty:TypeId} {pos:String} {aft:Array Edge} {g:Option (Nat×Bool)} {κ:Type}
end mframes
def pX {α:Type} (w:World) (base:Nat) (e:TypeId) (sz:Nat) (f:α->List Value) (v:Value) (l:List α):Prop:=w.ownsRow base e sz v l.length (l.flatMap f)
section own
variable {α:Type} {w w':World} {base:Nat} {e:TypeId} {sz:Nat} {f:α->List Value} {v:Value} {l:List α}
def pX.ext (h:pX w base e sz f v l) (hx:S7 w w'):pX w' base e sz f v l:=B7m h hx
def pX.chg {b:Nat} (h:pX w base e sz f v l) (hc:aM b w w') (u:some b≠v.ownBlock):pX w' base e sz f v l:=B7l h hc u
def pX.nil (w:World) (base:Nat) (e:TypeId) (sz:Nat) (f:α->List Value):pX w base e sz f (.slice none 0 0) []:=World.ownsRow_nil w base e sz
def pX.lit {b:Nat} {cs:Array Value} {a:α} (hb:MO w b cs e) (a0:cs.toList=f a) (hl:(f a).length=sz) (u:base<=b):pX w base e sz f (.slice (some ⟨b,0,none⟩) 1 1) [a]:=by
 refine⟨by simp[hl], .inr ⟨b,1,cs,rfl,u,hb,by simp,by decide, ?_, ?_⟩⟩
 . rw[<-sV,a0,hl];simp
 . rw[a0];simp[hl,qX]
def pX.grown {β:Type} {base2 e2 sz2:Nat} {f2:β->List Value} {v2:Value} {l2:List β} (h2:pX w base2 e2 sz2 f2 v2 l2) (hg:w.grownBy w' v.ownBlock) (u:v2.ownBlock=none\/v2.ownBlock≠v.ownBlock):pX w' base2 e2 sz2 f2 v2 l2:=h2.kept hg u
end own
section frames
variable {P:Program} {n:Nat} {R:H0->World->Prop} {k:List Fr} {E:H0} {w:World} {all rest:List Oper} {d:Nat} {ty:TypeId} {pos:String} {aft:Array Edge} {g:Option (Nat×Bool)} {α:Type} {f:α->List Value}
def Vq (off:Nat):∀(l:List Value) (j:Nat) (cs:Array Value),off+j+l.length<=cs.size->
 ((l.zipIdx j).foldl (fun cs (x:Value×Nat)=>cs.setIfInBounds (off+x.2) x.1) cs).toList=cs.toList.take (off+j)++l++cs.toList.drop (off+j+l.length)
 | [],j,cs,_=>by simp
 |x::l,j,cs,h=>by
  simp only[g1w,yB];simp only[rH]at h;rw[Vq off l (j+1) _ (by simp;omega)];have u:off+j<cs.size:=by omega
  have a0:off+j<cs.toList.length:=by simpa using u
  simp only[Array.toList_setIfInBounds];rw[List.take_set,yZ (by omega),show off+(j+1)=(off+j)+1 from by omega,List.take_succ_eq_append_getElem a0];rw[g2y _ _ (by simp;omega)];simp[sY (wD u),show off+j+1+l.length=off+j+(l.length+1)from by omega]
def mK (sz:Nat):∀(vs:List Value) (k:Nat) (cs:Array Value),(∀v∈vs,v.cells.size=sz)->(k+vs.length)*sz<=cs.size->
 ∃r,Instr.fill (fun i=>some (i*sz,sz)) cs ((vs.zipIdx k).map fun x=>(x.2,x.1))=some r/\r.toList=cs.toList.take (k*sz)++vs.flatMap (·.cells.toList)++cs.toList.drop ((k+vs.length)*sz)/\r.size=cs.size
 | [],k,cs,_,_=>⟨cs,by simp[Instr.fill],by simp,rfl⟩
 |v::vs,k,cs,hv,h=>by
  have hs:v.cells.size=sz:=hv v (by simp);have h1:(k+(vs.length+1))*sz=k*sz+vs.length*sz+sz:=by rw[uQ,uR];omega
  simp only[rH,h1]at h;have a3:k*sz+v.cells.size<=cs.size:=by omega
  have u:=Vq (k*sz) v.cells.toList 0 cs (by simp;omega);simp only[tD]at u;generalize hc':(v.cells.toList.zipIdx 0).foldl (fun cs (x:Value×Nat)=>cs.setIfInBounds (k*sz+x.2) x.1) cs=cs' at u;have a0:cs'.size=cs.size:=by
   have:=tN List.length u;simp only[sV,rM,qW,sR]at this;omega
  have h2:(k+1+vs.length)*sz=k*sz+vs.length*sz+sz:=by rw[uQ,uQ];omega
  obtain⟨r,hr,a1,a2⟩:=mK sz vs (k+1) cs' (fun x hx=>hv x (by simp[hx])) (by rw[h2,a0];exact h);refine⟨r, ?_, ?_,by rw[a2,a0]⟩
  . simp only[g1w,rU];unfold Instr.fill;simp only[hs];rw[qO (by simp;omega)];rw[<-hr, <-hc', <-g3x];simp
  . rw[a1,u];have e1:(k+1)*sz=k*sz+sz:=uR k sz;have e2:(k+(vs.length+1))*sz=(k+1+vs.length)*sz:=by rw[h2,h1]
    have l1:(cs.toList.take (k*sz)).length=k*sz:=by simp;omega
    have l2:v.cells.toList.length=sz:=by simpa using hs
    rw[e1,yI,rH,e2];have l3:(cs.toList.take (k*sz)++v.cells.toList).length=k*sz+sz:=by rw[rM,l1,l2]
    congr 1
    . rw[<-uD,g0s l3]
    . rw[g4u,sH (by rw[l3,h2];omega),wG,vO,l3,l2,h2];congr 1;omega
end frames
def Frs (n:Nat) (v:Value):Prop:=∀g,v.ownBlock=some g->n<=g
def SlR.chg {α:Type} {w w':World} {sz b:Nat} {f:α->List Value} {v:Value} {l:List α} (h:SlR w sz f v l) (hc:aM b w w') (a2:∀g,v.ownBlock=some g->g≠b):SlR w' sz f v l:=by
 rcases h with h| ⟨b',o,a1,hv,a0,hh⟩
 . exact .inl h
 . refine .inr ⟨b',o,a1,hv,a0,fun i a hi j u hu=> ?_⟩;have hb:b'≠b:=a2 b' (by rw[hv];rfl);have:=hh i a hi j u hu;rw[K7]at this⊢;rw[B0k hc hb];exact this
def pX.frs {α:Type} {w:World} {base e sz n:Nat} {f:α->List Value} {v:Value} {l:List α} (h:pX w base e sz f v l) (hn:n<=base):Frs n v:=fun g u=>by have:=(World.ownsRow.lt h g u).1;omega
def cE (v v2:Value):Prop:=∀g,v.ownBlock=some g->v2.ownBlock≠some g
def cE.symm {v v2:Value} (h:cE v v2):cE v2 v:=fun g h1 u=>h g u h1
section
variable {α β:Type} {w w':World} {base e sz base2 e2 sz2:Nat} {f:α->List Value} {f2:β->List Value} {v v' v2:Value} {l:List α} {l2:List β}
def cE.append (ha:cE v v2) (h2:pX w base2 e2 sz2 f2 v2 l2) (h:v'.ownBlock=v.ownBlock\/v'.ownBlock=some w.heap.size):cE v' v2:=by
 intro g hg u;rcases h with h|h
 . exact ha g (h▸hg) u
 . rw[hg]at h;have:=(World.ownsRow.lt h2 g u).2;cases h;omega
end
inductive Pl where
 |done
 |q (i:Nat) (p:Pl)
 |p (i:Nat) (p:Pl)
 |e (i:Nat) (p:Pl)
 |or (i:Nat) (p:Pl) (q:Pl)
 |al (is js:List Nat) (p:Pl)
def Gt (all:List Oper) (i:Nat):Nat:=((all[i]?).bind (·.dst)).getD 0
def Bn (all:List Oper) (l:List Nat):List Nat:=l.map (Gt all)
def eP (all:List Oper) (i:Nat):List Nat:=match all[i]? with
 |some o=>o.op.operands.toList.filterMap fun x=>match x with| .tmp t=>some t| _=>none
 |none=> []
def jJ (all:List Oper) (i:Nat):Bool:=match all[i]? with
 |some o=>o.dst.isSome&&o.guard.isNone&&(match o.op with| .select _ _=>false| _=>true)
 |none=>false
def rm (i:Nat) (l:List Nat):List Nat:=l.filter fun k=> !Nat.beq k i
def B8d (l u:List Nat):Bool:=l.all fun x=> !u.contains x
def XC:List Nat->Bool
 | []=>true
 |x::r=> !r.contains x&&XC r
def A6f (all:List Oper) (is js:List Nat):Bool:=(is++js).all (jJ all)&&XC (is++js)&&XC (Bn all (is++js))&&is.all fun i=>B8d (eP all i) (Bn all (is++js))
def A6e (all:List Oper) (tails:List Nat) (u:Nat->Array Bool->Bool):Nat->List Nat->List Nat->Array Bool->Bool
 |0,ri,rj,listed=>ri.isEmpty&&rj.isEmpty&&u 0 listed
 |f+1,ri,rj,listed=>match rj.find? fun j=>(Region.ready .any all.toArray listed).contains j&&Region.free .any all.toArray listed j with
  |some j=> !tails.contains j&&B8d (eP all j) (Bn all (ri++rj))&&A6e all tails u f ri (rm j rj) (listed.setIfInBounds j true)
  |none=>match ri with
   | []=>rj.isEmpty&&u (f+1) listed
   |i0::r0=>(Region.ready .any all.toArray listed==i0::r0)&&(i0::r0).all fun i=> !tails.contains i&&A6e all tails u f (rm i (i0::r0)) rj (listed.setIfInBounds i true)
def Gv (all:List Oper) (f:Nat->Nat->Value) (X:Nat->Obj):List Nat->H0->World->H0×World
 | [],E,w=>(E,w)
 |i::r,E,w=>Gv all f X r (upd E (Gt all i) (f i w.heap.size)) (w.alloc (X i))
def AlV (P:Program) (all:List Oper) (js:List Nat) (F:H0):Prop:=∀j∈js,∃o,all[j]? =some o/\∀w,(execOp (ev F) o).run P w= .ok (.value (F (Gt all j))) w
structure A9t (P:Program) (R:World->World->Prop) (all:List Oper) (is js:List Nat) (f:Nat->Nat->Value) (X:Nat->Obj) (nx:H0->World->Prop) (E:H0) (w:World):Prop where
 one:∀i∈is,∃o,all[i]? =some o/\∀w',(execOp (ev E) o).run P w'= .ok (.value (f i w'.heap.size)) (w'.alloc (X i))
 rel:∀i∈is,∀w',R w w'->R w' (w'.alloc (X i))
 fin:∀l,l.Perm is->∃F,(∀x,x∉Bn all js->F x=(Gv all f X l E w).1 x)/\AlV P all js F/\nx F (Gv all f X l E w).2
def Sf (all:List Oper) (heads tails:List Nat):Pl->Nat->Array Bool->Option (List Nat)->Bool
 | .done,_,listed,al=>al.isNone&&(Region.ready .any all.toArray listed).isEmpty
 | .q i p,fuel,listed,al=>match fuel with
  |0=>false
  |fuel+1=>al.isNone&&heads.contains i&& !tails.contains i&&Region.free .any all.toArray listed i&&(Region.ready .any all.toArray listed).contains i&&Sf all heads tails p fuel (listed.setIfInBounds i true) none
 | .p i p,fuel,listed,al=>match fuel with
  |0=>false
  |fuel+1=>al.isNone&& !tails.contains i&&Region.free .any all.toArray listed i&&(Region.ready .any all.toArray listed).contains i&&Sf all heads tails p fuel (listed.setIfInBounds i true) none
 | .e i p,fuel,listed,al=>match fuel with
  |0=>false
  |fuel+1=>(al.getD (Region.ready .any all.toArray listed)== [i])&&Sf all heads tails p fuel (listed.setIfInBounds i true) none
 | .or i p q,fuel,listed,al=>match fuel with
  |0=>false
  |fuel+1=>match al.getD (Region.ready .any all.toArray listed)with
   | []=>false
   |j::rest=>Nat.beq i j&&Sf all heads tails p fuel (listed.setIfInBounds i true) none&&Sf all heads tails q (fuel+1) listed (some rest)
 | .al is js p,fuel,listed,al=>al.isNone&&A6f all is js&&A6e all tails (fun f l=>Sf all heads tails p f l none) fuel is js listed
def B9g (all:List Oper) (heads tails:List Nat) (p:Pl):Bool:=Region.noSelect all.toArray&&DN all heads tails&&Sf all heads tails p all.length (Array.replicate all.length false) none
def VP (P:Program) (R:World->World->Prop) (all:List Oper) (tails:List Nat) (next:H0->World->Prop):Pl->Bool->H0->World->Prop
 | .done,_=>next
 | .q i p,t=>fun E w=>∃o,all[i]? =some o/\HW P (R w) all o (VP P R all tails next p t) E w
 | .p i p,t=>fun E w=>∃o,all[i]? =some o/\HW P (fun _=>True) all o (VP P R all tails next p t) E w
 | .e i p,t=>fun E w=>∃o,all[i]? =some o/\N4 P all o (fun E' w'=>((t||tails.contains i)=true\/R w w')/\VP P R all tails next p (t||tails.contains i) E' w') E w
 | .or i p q,t=>fun E w=>(∃o,all[i]? =some o/\N4 P all o (fun E' w'=>((t||tails.contains i)=true\/R w w')/\VP P R all tails next p (t||tails.contains i) E' w') E w)/\VP P R all tails next q t E w
 | .al is js p,t=>fun E w=>∃f X,A9t P R all is js f X (VP P R all tails next p t) E w
section
variable {P:Program} {ops:Array Oper} {Q:Exit->Act->World->Prop} {S S':World->Prop} {tails:List Nat}
def Kn (hS:∀w,S w->S' w):∀(fuel:Nat) (listed:Array Bool) (a:Act) (w:World),Z4 P ops Q S tails fuel listed a w->Z4 P ops Q S' tails fuel listed a w
 |0,_,_,_,h=>h
 |fuel+1,_,_,_,h=>⟨h.1,fun i hi=>wpOp_mono (fun a' w' u=>⟨u.1.imp id (hS w'),Kn hS fuel _ a' w' u.2⟩) (h.2 i hi)⟩
def RM:∀(fuel:Nat) (listed:Array Bool) (a:Act) (w:World),G7 tails listed=true->Z4 P ops Q S tails fuel listed a w->Z4 P ops Q S' tails fuel listed a w
 |0,_,_,_,_,h=>h
 |fuel+1,_,_,_,u,h=>⟨h.1,fun i hi=>wpOp_mono (fun a' w' h'=>⟨.inl (Eg u),RM fuel _ a' w' (Eg u) h'.2⟩) (h.2 i hi)⟩
end
def Mh:∀ {l:List Nat},XC l=true->l.Nodup
 | [],_=>yP
 |x::r,h=>by
  simp only[XC,qC,rR]at h;exact sC.2 ⟨U2 h.1,Mh h.2⟩
def iY {i k:Nat} {l:List Nat} :k∈rm i l↔k∈l/\k≠i:=by
 unfold rm;rw[vR];refine and_congr_right fun _=>⟨fun h e=>by subst e;simp at h,fun h=>by rw[E4 h];rfl⟩
def A5r {i:Nat} :∀ {l:List Nat},l.Nodup->i∈l->(i::rm i l).Perm l
 | [],_,h=>by cases h
 |x::r,hn,h=>by
  obtain⟨h1,u⟩:=sC.1 hn;by_cases hx:x=i
  . subst hx;have:rm x (x::r)=r:=by
     unfold rm;rw[g1t,qO (by simp)];exact zA.2 fun k hk=>by rw[E4 (show k≠x from fun e=>h1 (by rw[<-e];exact hk))];rfl
    rw[this]
  . have:rm i (x::r)=x::rm i r:=by
     unfold rm;rw[g1t,qY (by rw[E4 hx];rfl)]
    rw[this];rcases qR.1 h with h|h
    . exact absurd h.symm hx
    . exact(List.Perm.swap x i _).trans ((A5r u h).cons x)
def OY {l u:List Nat} (h:B8d l u=true):∀x∈l,x∉u:=fun x hx=>by
 have:=tS.1 h x hx;simp only[rR]at this;exact U2 this
def AE {all:List Oper} {i:Nat} {o:Oper} (h:jJ all i=true) (ho:all[i]? =some o):o.dst=some (Gt all i)/\o.guard=none/\∀cs b,o.op≠ .select cs b:=by
 unfold jJ at h;rw[ho]at h;simp only[qC,wJ]at h;refine⟨?_,h.1.2,fun cs b e=>by rw[e]at h;simp at h⟩;cases u:o.dst with
 |none=>rw[u]at h;simp at h
 |some d=>simp[Gt,ho,u]
def A7z {all:List Oper} {i:Nat} {o:Oper} {t:Nat} (ho:all[i]? =some o) (h:Operand.tmp t∈o.op.operands):t∈eP all i:=by
 unfold eP;rw[ho];exact g4c.2 ⟨.tmp t,by simpa using h,rfl⟩
def NP {all:List Oper} {i:Nat} {o:Oper} {E E':H0} (ho:all[i]? =some o) (u:∀cs b,o.op≠ .select cs b) (h:∀t∈eP all i,E t=E' t):execOp (ev E) o=execOp (ev E') o:=
 execOp_congr o u fun x hx=>by
  cases x with
  |tmp t=>exact h t (A7z ho hx)
  | _=>rfl
def AI {all:List Oper} {f:Nat->Nat->Value} {X:Nat->Obj} :∀(a b:List Nat) (E:H0) (w:World),Gv all f X (a++b) E w=Gv all f X b (Gv all f X a E w).1 (Gv all f X a E w).2
 | [],_,_,_=>rfl
 |i::a,b,E,w=>AI a b _ _
def Ji {all:List Oper} {f:Nat->Nat->Value} {X:Nat->Obj} {x:Nat} :∀(l:List Nat) (E:H0) (w:World),x∉Bn all l->(Gv all f X l E w).1 x=E x
 | [],_,_,_=>rfl
 |i::l,E,w,h=>by
  simp only[Bn,rU,qR,g5f]at h;simp only[Gv];rw[Ji l _ _ h.2,C6 _ _ _ _ h.1]
def J0 {all:List Oper} {l:List Nat} {x:Nat} :x∈Bn all l↔∃i∈l,Gt all i=x:=by simp[Bn]
def gU {all:List Oper} :∀ {l:List Nat},(Bn all l).Nodup->∀ {i k:Nat},i∈l->k∈l->i≠k->Gt all i≠Gt all k
 | [],_,_,_,h,_,_=>by cases h
 |x::r,hn,i,k,hi,u,a0=>by
  simp only[Bn,rU]at hn;obtain⟨h1,h2⟩:=sC.1 hn;rcases qR.1 hi with hi|hi<;>rcases qR.1 u with u|u
  . exact absurd (hi.trans u.symm) a0
  . rw[hi];exact fun e=>h1 (J0.2 ⟨k,u,e.symm⟩)
  . rw[u];exact fun e=>h1 (J0.2 ⟨i,hi,e⟩)
  . exact gU h2 hi u a0
def B9q {P:Program} {R:World->World->Prop} (am:∀w,R w w) (b4:∀ {a b c},R a b->R b c->R a c) {n:Nat} {all:List Oper} {heads tails is js:List Nat} (hn:mC n all=true) (b1:Region.noSelect all.toArray=true) (hw:DN all heads tails=true) {Q:Exit->Act->World->Prop} (hQ:∀(c:List PanicEntry) (a a':Act) (w:World),Q (.panic c) a' w->Q (.panic c) a w)
 {aa:Nat->Array Bool->Bool} {nx:H0->World->Prop} {t:Bool} {f:Nat->Nat->Value} {X:Nat->Obj} {E:H0} {w:World} (b2:A6f all is js=true) (hs:A9t P R all is js f X nx E w)
 (aj:∀(fuel:Nat) (listed:Array Bool) (a:Act) (E':H0) (w':World),aa fuel listed=true->aP all.toArray heads tails listed->t=G7 tails listed->C7 n a E'->nx E' w'->Z4 P all.toArray Q (R w') tails fuel listed a w'):
 ∀(fuel:Nat) (ri rj:List Nat) (listed:Array Bool),A6e all tails aa fuel ri rj listed=true->aP all.toArray heads tails listed->t=G7 tails listed->∀(a:Act) (Ec:H0) (ex:List Nat),C7 n a Ec->(ex++ri).Perm is->(∀j∈rj,j∈js)->
  (∀r,r.Perm ri->∀F,(∀x,x∉Bn all js->F x=(Gv all f X (ex++r) E w).1 x)->AlV P all js F->∀x,x∉Bn all (ri++rj)->F x=Ec x)->R w (Gv all f X ex E w).2->
  Z4 P all.toArray Q (R (Gv all f X ex E w).2) tails fuel listed a (Gv all f X ex E w).2:=by
 simp only[A6f,qC,tS]at b2;obtain⟨⟨⟨s1,s2⟩,s3⟩,s4⟩:=b2;have s2:=Mh s2;have s3:=Mh s3;have a9:=AP hw;have fin:∀(fuel:Nat) (listed:Array Bool),aa fuel listed=true->aP all.toArray heads tails listed->t=G7 tails listed->∀(a:Act) (Ec:H0) (ex:List Nat),C7 n a Ec->(ex++ []).Perm is->(∀r,r.Perm []->∀F,(∀x,x∉Bn all js->F x=(Gv all f X (ex++r) E w).1 x)->AlV P all js F->∀x,x∉Bn all ([]++ [])->F x=Ec x)->Z4 P all.toArray Q (R (Gv all f X ex E w).2) tails fuel listed a (Gv all f X ex E w).2:=by
  intro fuel listed hl hd ht a Ec ex hr hp a1;obtain⟨F,f1,f2,f3⟩:=hs.fin ex (by simpa using hp);have:F=Ec:=funext fun x=>a1 [] (wS _) F (by simpa using f1) f2 x (by simp[Bn])
  subst this;exact aj fuel listed a F _ hl hd ht hr f3
 intro fuel
 induction fuel with
 |zero=>
  intro ri rj listed a0 hd ht a Ec ex hr hp _ a1 _;simp only[A6e,qC,g4v]at a0;obtain⟨⟨rfl,rfl⟩,a0⟩:=a0;exact fin 0 listed a0 hd ht a Ec ex hr hp a1
 |succ fuel ih=>
  intro ri rj listed a0 hd ht a Ec ex hr hp hj a1 hR;simp only[A6e]at a0;split at a0
  . rename_i j a7;simp only[qC,rR]at a0;obtain⟨⟨k1,k2⟩,k3⟩:=a0;have ah:j∈rj:=List.mem_of_find?_eq_some a7;have ai:=List.find?_some a7;simp only[qC]at ai;have az:j∈Region.ready .any all.toArray listed:=by simpa using ai.1
    have ab:=U2 k1;have b3:=OY k2;obtain⟨F0,f1,f2,_⟩:=hs.fin (ex++ri) hp;obtain⟨o,ho,hv⟩:=f2 j (hj j ah);obtain⟨a6,hg,ak⟩:=AE (s1 j (tJ _ (hj j ah))) ho;have ax:all.toArray[j]? =some o:=by simpa using ho
    have ad:∀r,r.Perm ri->∀F,(∀x,x∉Bn all js->F x=(Gv all f X (ex++r) E w).1 x)->AlV P all js F->execOp (ev F) o=execOp (ev Ec) o:=fun r a3 F g1 g2=>NP ho ak fun u hu=>a1 r a3 F g1 g2 u (b3 u hu)
    have e0:=ad ri (wS _) F0 f1 f2;have ap:t=G7 tails (listed.setIfInBounds j true):=by rw[H9 ab];exact ht
    have a4:E6 all o Ec=true:=by simp[E6,hg]
    refine CE (v:=F0 (Gt all j)) ax ab (Region.noSelect_spec b1) (fun c a w hh=>hQ c a _ w hh) fuel listed a _ (Region.free_spec ax ai.2) az (.inl ⟨by rw[hr.wanted];exact a4,fun w' _=>by rw[hr.ev, <-e0];exact hv w'⟩) (.inr (am _)) ?_;refine ih ri (rm j rj) _ k3 (hd.set a9 az) ap _ (upd Ec (Gt all j) (F0 (Gt all j))) ex ?_ hp (fun k hk=>hj k (iY.1 hk).1) (fun r a3 F g1 g2 x hx=> ?_) hR
    . have:=hr.put o.dst (F0 (Gt all j)) fun d hd=>by
       have:=tS.1 hn o (sO ho);simpa[hd]using this
      rw[a6]at this⊢;exact this
    . by_cases ar:x=Gt all j
      . subst ar;rw[C5];obtain⟨o',ay,bb⟩:=g2 j (hj j ah);rw[ho]at ay;cases ay;have h1:=bb w;rw[ad r a3 F g1 g2, <-e0,hv w]at h1;simp only[Result.ok.injEq,Next.value.injEq,vK]at h1;exact h1.symm
      . rw[C6 _ _ _ _ ar];refine a1 r a3 F g1 g2 x fun hm=>hx ?_
        obtain⟨i,hi,e⟩:=J0.1 hm;refine J0.2 ⟨i, ?_,e⟩;rcases qU.1 hi with hi|hi
        . exact sN _ hi
        . exact tJ _ (iY.2 ⟨hi,fun hh=>ar (by rw[<-e,hh])⟩)
  . split at a0
    . simp only[qC,g4v]at a0;obtain⟨rfl,a0⟩:=a0;exact fin _ listed a0 hd ht a Ec ex hr hp a1
    . rename_i i0 r0;have b9:i0::r0≠ []:=by simp
      generalize i0::r0=ri at*;simp only[qC,tS,g1k,rR]at a0;obtain⟨a5,au⟩:=a0;unfold Z4;refine⟨fun h0=>absurd (a5.symm.trans h0) b9,fun i hi=> ?_⟩;have aw:=hi;rw[a5]at hi;obtain⟨k1,k2⟩:=au i hi;have ab:=U2 k1;have a2:i∈is:=hp.subset (tJ _ hi);have b8:(ex++ri).Nodup:=hp.nodup_iff.2 (sQ.1 s2).1;obtain⟨o,ho,hv⟩:=hs.one i a2;obtain⟨a6,hg,ak⟩:=AE (s1 i (sN _ a2)) ho;obtain⟨F0,f1,f2,_⟩:=hs.fin (ex++ri) hp;have b7:∀x,x∉Bn all (is++js)->Ec x=E x:=fun x hx=>by
       have b5:x∉Bn all is:=fun hm=>hx (by obtain⟨k,hk,e⟩:=J0.1 hm;exact J0.2 ⟨k,sN _ hk,e⟩)
       have b6:x∉Bn all js:=fun hm=>hx (by obtain⟨k,hk,e⟩:=J0.1 hm;exact J0.2 ⟨k,tJ _ hk,e⟩)
       have h1:=a1 ri (wS _) F0 f1 f2 x fun hm=>by
        obtain⟨k,hk,e⟩:=J0.1 hm;rcases qU.1 hk with hk|hk
        . exact b5 (J0.2 ⟨k,hp.subset (tJ _ hk),e⟩)
        . exact b6 (J0.2 ⟨k,hj k hk,e⟩)
       rw[<-h1,f1 x b6];exact Ji _ _ _ fun hm=>by
        obtain⟨k,hk,e⟩:=J0.1 hm;exact b5 (J0.2 ⟨k,hp.subset hk,e⟩)
      have ag:=NP (E:=Ec) (E':=E) ho ak fun u hu=>b7 u (OY (s4 i a2) u hu)
      have ap:t=G7 tails (listed.setIfInBounds i true):=by rw[H9 ab];exact ht
      have a4:E6 all o Ec=true:=by simp[E6,hg]
      have ao:N4 P all o (fun E' w'=>E'=upd Ec (Gt all i) (f i (Gv all f X ex E w).2.heap.size)/\w'=(Gv all f X ex E w).2.alloc (X i)) Ec (Gv all f X ex E w).2:=by
       unfold N4;rw[qY a4,ag,hv,a6];exact⟨rfl,rfl⟩
      have a8:=hs.rel i a2 _ hR;refine IA hn ho (fun a' E' w' hr' hh=> ?_) hr ao;obtain⟨rfl,rfl⟩:=hh;refine⟨.inr a8, ?_⟩;have af:Gv all f X (ex++ [i]) E w=(upd (Gv all f X ex E w).1 (Gt all i) (f i (Gv all f X ex E w).2.heap.size),(Gv all f X ex E w).2.alloc (X i)):=by rw[AI];rfl
      have ac:=A5r (sQ.1 b8).2.1 hi;have:=ih (rm i ri) rj _ k2 (hd.set a9 aw) ap a' _ (ex++ [i]) hr' (by
       rw[uD];exact(g2v ex ac).trans hp) hj (fun r a3 F g1 g2 x hx=> ?_) (by rw[af];exact b4 hR a8)
      . rw[af]at this;exact Kn (fun w2 h2=>b4 a8 h2) fuel _ a' _ this
      . have ae:(i::r).Perm ri:=(a3.cons i).trans ac;rw[uD]at g1;by_cases aq:x=Gt all i
        . subst aq;have ba:Gt all i∉Bn all js:=fun hm=>by
           obtain⟨k,hk,e⟩:=J0.1 hm;exact gU s3 (tJ _ hk) (sN _ a2) (fun hh=>by
            subst hh;exact(sQ.1 s2).2.2 k a2 k hk rfl) e
          rw[g1 _ ba,C5,show ex++([i]++r)=(ex++ [i])++r from(uD _ _ _).symm,AI,af];refine(Ji _ _ _ fun hm=> ?_).trans (C5 _ _ _);obtain⟨k,hk,e⟩:=J0.1 hm;have av:=iY.1 (a3.subset hk);exact gU s3 (sN _ (hp.subset (tJ _ av.1))) (sN _ a2) av.2 e
        . rw[C6 _ _ _ _ aq];refine a1 (i::r) ae F g1 g2 x fun hm=>hx ?_
          obtain⟨k,hk,e⟩:=J0.1 hm;refine J0.2 ⟨k, ?_,e⟩;rcases qU.1 hk with hk|hk
          . exact sN _ (iY.2 ⟨hk,fun hh=>aq (by rw[<-e,hh])⟩)
          . exact tJ _ hk
def B1a {P:Program} {R:World->World->Prop} (a2:∀w,R w w) (am:∀ {a b c},R a b->R b c->R a c) {n:Nat} {all:List Oper} {heads tails:List Nat} (hn:mC n all=true) (a6:Region.noSelect all.toArray=true) (hw:DN all heads tails=true) {Q:Exit->H0->World->Prop} (hQ:∀c E w,¬Q (.panic c) E w):
 ∀(p:Pl) (fuel:Nat) (listed:Array Bool) (al:Option (List Nat)),Sf all heads tails p fuel listed al=true->aP all.toArray heads tails listed->∀(t:Bool),t=G7 tails listed->∀(a:Act) (E:H0) (w:World),C7 n a E->(∀l,al=some l->∀i∈l,i∈Region.ready .any all.toArray listed)->VP P R all tails (Q .normal) p t E w->
  match al with
  |none=>Z4 P all.toArray (HF n Q) (R w) tails fuel listed a w
  |some l=>∃f,fuel=f+1/\∀i∈l,wpOp P all.toArray (HF n Q) i (fun a' w'=>(G7 tails (listed.setIfInBounds i true)=true\/R w w')/\Z4 P all.toArray (HF n Q) (R w) tails f (listed.setIfInBounds i true) a' w') a w:=by
 have a9:∀(c:List PanicEntry) (a a':Act) (w:World),HF n Q (.panic c) a' w->HF n Q (.panic c) a w:=fun c a a' w ⟨E,_,h⟩=>(hQ c E w h).elim
 have a7:∀(i:Nat) (o:Oper),all[i]? =some o->∀d,o.dst=some d->d<n:=fun i o hi d hd=>by
  have:=tS.1 hn o (sO hi);simpa[hd]using this
 have a1:=AP hw;have one:∀(i:Nat) (p:Pl) (fuel:Nat) (listed:Array Bool) (t:Bool) (a:Act) (E:H0) (w:World),(∀(fuel:Nat) (listed:Array Bool) (al:Option (List Nat)),Sf all heads tails p fuel listed al=true->aP all.toArray heads tails listed->∀(t:Bool),t=G7 tails listed->∀(a:Act) (E:H0) (w:World),C7 n a E->(∀l,al=some l->∀i∈l,i∈Region.ready .any all.toArray listed)->VP P R all tails (Q .normal) p t E w->
  match al with
  |none=>Z4 P all.toArray (HF n Q) (R w) tails fuel listed a w
  |some l=>∃f,fuel=f+1/\∀i∈l,wpOp P all.toArray (HF n Q) i (fun a' w'=>(G7 tails (listed.setIfInBounds i true)=true\/R w w')/\Z4 P all.toArray (HF n Q) (R w) tails f (listed.setIfInBounds i true) a' w') a w)->
  Sf all heads tails p fuel (listed.setIfInBounds i true) none=true->aP all.toArray heads tails listed->t=G7 tails listed->C7 n a E->i∈Region.ready .any all.toArray listed->(∃o,all[i]? =some o/\N4 P all o (fun E' w'=>((t||tails.contains i)=true\/R w w')/\VP P R all tails (Q .normal) p (t||tails.contains i) E' w') E w)->
  wpOp P all.toArray (HF n Q) i (fun a' w'=>(G7 tails (listed.setIfInBounds i true)=true\/R w w')/\Z4 P all.toArray (HF n Q) (R w) tails fuel (listed.setIfInBounds i true) a' w') a w:=by
  intro i p fuel listed t a E w ih u hd ht hr a8 ⟨o,hi,h⟩;have a4:(t||tails.contains i)=G7 tails (listed.setIfInBounds i true):=by rw[lF (B4i a8),ht]
  refine IA hn hi (fun a' E' w' hr' hh=>⟨a4▸hh.1, ?_⟩) hr h;have:=ih fuel _ none u (hd.set a1 a8) _ a4 a' E' w' hr' (fun _ hh=>by cases hh) hh.2;simp only at this;rcases hh.1 with g|g
  . exact RM fuel _ a' w' (a4▸g) this
  . exact Kn (fun w2 h2=>am g h2) fuel _ a' w' this
 intro p
 induction p with
 |done=>
  intro fuel listed al u _ t _ a E w hr _ h;simp only[Sf,qC,wJ]at u;obtain⟨rfl,u⟩:=u;have ad:Region.ready .any all.toArray listed= []:=by simpa using u
  cases fuel with
  |zero=>exact⟨ad,E,hr,h⟩
  |succ fuel=>exact⟨fun _=>⟨E,hr,h⟩,by rw[ad];simp⟩
 |q i p ih=>
  intro fuel listed al u hd t ht a E w hr _ h;cases fuel with
  |zero=>simp[Sf]at u
  |succ fuel=>
   simp only[Sf,qC,rR,wJ]at u;obtain⟨⟨⟨⟨⟨rfl,ab⟩,a3⟩,hf⟩,a0⟩,u⟩:=u;have ab:i∈heads:=by simpa using ab
   have a3:=U2 a3;have a0:i∈Region.ready .any all.toArray listed:=by simpa using a0
   obtain⟨o,hi,h⟩:=h;have a5:all.toArray[i]? =some o:=by simpa using hi
   have a4:t=G7 tails (listed.setIfInBounds i true):=by rw[H9 a3];exact ht
   rcases h with⟨hw,v,hv,h⟩ | ⟨hw,h⟩
   . refine MJ (v:=v) a5 ab a3 (Region.noSelect_spec a6) a1 (fun c a w hh=>a9 c a _ w hh) fuel listed a w hd (Region.free_spec a5 hf) a0 (.inl ⟨by rw[hr.wanted];exact hw,fun w' af=>by rw[hr.ev];exact hv w' af⟩) (a2 w) ?_;exact ih fuel _ none u (hd.set a1 a0) t a4 _ _ w (hr.put _ _ (a7 i o hi)) (fun _ hh=>by cases hh) h
   . refine MJ (v:=undef) a5 ab a3 (Region.noSelect_spec a6) a1 (fun c a w hh=>a9 c a _ w hh) fuel listed a w hd (Region.free_spec a5 hf) a0 (.inr ⟨by rw[hr.wanted];exact hw,rfl⟩) (a2 w) ?_;exact ih fuel _ none u (hd.set a1 a0) t a4 _ _ w (hr.put _ _ (a7 i o hi)) (fun _ hh=>by cases hh) h
 |p i p ih=>
  intro fuel listed al u hd t ht a E w hr _ h;cases fuel with
  |zero=>simp[Sf]at u
  |succ fuel=>
   simp only[Sf,qC,rR,wJ]at u;obtain⟨⟨⟨⟨rfl,a3⟩,hf⟩,a0⟩,u⟩:=u;have a3:=U2 a3;have a0:i∈Region.ready .any all.toArray listed:=by simpa using a0
   obtain⟨o,hi,h⟩:=h;have a5:all.toArray[i]? =some o:=by simpa using hi
   have a4:t=G7 tails (listed.setIfInBounds i true):=by rw[H9 a3];exact ht
   rcases h with⟨hw,v,hv,h⟩ | ⟨hw,h⟩
   . refine CE (v:=v) a5 a3 (Region.noSelect_spec a6) (fun c a w hh=>a9 c a _ w hh) fuel listed a w (Region.free_spec a5 hf) a0 (.inl ⟨by rw[hr.wanted];exact hw,fun w' af=>by rw[hr.ev];exact hv w' af⟩) (.inr (a2 w)) ?_;exact ih fuel _ none u (hd.set a1 a0) t a4 _ _ w (hr.put _ _ (a7 i o hi)) (fun _ hh=>by cases hh) h
   . refine CE (v:=undef) a5 a3 (Region.noSelect_spec a6) (fun c a w hh=>a9 c a _ w hh) fuel listed a w (Region.free_spec a5 hf) a0 (.inr ⟨by rw[hr.wanted];exact hw,rfl⟩) (.inr (a2 w)) ?_;exact ih fuel _ none u (hd.set a1 a0) t a4 _ _ w (hr.put _ _ (a7 i o hi)) (fun _ hh=>by cases hh) h
 |e i p ih=>
  intro fuel listed al u hd t ht a E w hr ag h;cases fuel with
  |zero=>simp[Sf]at u
  |succ fuel=>
   simp only[Sf,qC,g1k]at u;obtain⟨a0,u⟩:=u;cases al with
   |none=>
    simp only[g2b]at a0;have a8:i∈Region.ready .any all.toArray listed:=by rw[a0];simp
    refine⟨fun h0=>by rw[a0]at h0;simp at h0, ?_⟩;intro j hj;obtain rfl:j=i:=by rw[a0]at hj;simpa using hj
    exact one j p fuel listed t a E w ih u hd ht hr a8 h
   |some l=>
    simp only[vX]at a0;subst a0;refine⟨fuel,rfl,fun j hj=> ?_⟩;obtain rfl:j=i:=by simpa using hj
    exact one j p fuel listed t a E w ih u hd ht hr (ag _ rfl j (by simp)) h
 |or i p q ar au=>
  intro fuel listed al u hd t ht a E w hr ag h;cases fuel with
  |zero=>simp[Sf]at u
  |succ fuel=>
   simp only[Sf]at u;cases hl:al.getD (Region.ready .any all.toArray listed)with
   |nil=>rw[hl]at u;simp at u
   |cons j rest=>
    rw[hl]at u;simp only[qC]at u;obtain⟨⟨ah,aj⟩,ak⟩:=u;have ah:=qE ah;subst ah;have ai:∀m∈i::rest,m∈Region.ready .any all.toArray listed:=fun m hm=>by
     cases al with
     |none=>rw[g2b]at hl;rw[hl];exact hm
     |some l=>rw[vX]at hl;exact ag l rfl m (by rw[hl];exact hm)
    have h1:=one i p fuel listed t a E w ar aj hd ht hr (ai i (by simp)) h.1;have h2:=au (fuel+1) listed (some rest) ak hd t ht a E w hr (fun l hh m hm=>by cases hh;exact ai m (by simp[hm])) h.2;obtain⟨f,hf,h2⟩:=h2;have hf:f=fuel:=by omega
    subst hf;have ac:∀m∈i::rest,wpOp P all.toArray (HF n Q) m (fun a' w'=>(G7 tails (listed.setIfInBounds m true)=true\/R w w')/\Z4 P all.toArray (HF n Q) (R w) tails f (listed.setIfInBounds m true) a' w') a w:=fun m hm=>by
     rcases qR.1 hm with rfl|hm
     . exact h1
     . exact h2 m hm
    cases al with
    |none=>
     rw[g2b]at hl;exact⟨fun h0=>by rw[hl]at h0;simp at h0,fun m hm=>ac m (by rw[hl]at hm;exact hm)⟩
    |some l=>
     rw[vX]at hl;subst hl;exact⟨f,rfl,ac⟩
 |al is js p ih=>
  intro fuel listed al u hd t ht a E w hr _ h;simp only[Sf,qC,wJ]at u;obtain⟨⟨rfl,ap⟩,u⟩:=u;obtain⟨f,X,hs⟩:=h;refine B9q a2 am hn a6 hw a9 (t:=t) ap hs (fun ae aa a' E' w' hl ao a4 hr' hx=>ih ae aa none hl ao t a4 a' E' w' hr' (fun _ hh=>by cases hh) hx) fuel is js listed u hd ht a E [] hr (wS _) (fun _ hh=>hh) (fun r hrp F g1 g2 x hx=> ?_) (a2 w);have aq:x∉Bn all js:=fun hm=>hx (by obtain⟨k,hk,e⟩:=J0.1 hm;exact J0.2 ⟨k,tJ _ hk,e⟩)
  rw[g1 x aq,wG];exact Ji _ _ _ fun hm=>hx (by obtain⟨k,hk,e⟩:=J0.1 hm;exact J0.2 ⟨k,sN _ (hrp.subset hk),e⟩)
end Go.Gw
namespace Go.Vc
open Go Go.RowKit Go.Gw
open Go.IntKind (i64)
inductive Ty where
 |int (k:IntKind)
 |bool
 |str
 |unit
 |pair (a b:Ty)
 |sl (t:Ty)
 |ptr (t:Ty)
 |mp (ka:Bool) (kt:Ty) (va:Bool) (vt:Ty)
 deriving DecidableEq
@[reducible] def Ty.den:Ty->Type
 | .int _=>Int
 | .bool=>Bool
 | .str=>ByteArray
 | .unit=>Unit
 | .pair a b=>a.den×b.den
 | .sl t=>List t.den
 | .ptr t=>t.den
 | .mp _ kt _ vt=>List (kt.den×vt.den)
def Ty.size:Ty->Nat
 | .unit=>0
 | .pair a b=>a.size+b.size
 | _=>1
def Ty.dflt:(t:Ty)->t.den
 | .int _=>(0:Int)
 | .bool=>false
 | .str=>⟨#[]⟩
 | .unit=>()
 | .pair a b=>(a.dflt,b.dflt)
 | .sl _=> []
 | .ptr t=>t.dflt
 | .mp _ _ _ _=> []
def NU (k:IntKind) (n:Int):Prop:=k.min<=n/\n<=k.max
def Ty.wf:(t:Ty)->t.den->Prop
 | .int k,n=>NU k n
 | .bool,_=>True
 | .str,_=>True
 | .unit,_=>True
 | .pair a b,x=>a.wf x.1/\b.wf x.2
 | .sl t,l=>l.length<=9223372036854775807/\∀x∈l,t.wf x
 | .ptr t,x=>t.wf x
 | .mp _ kt _ vt,l=>∀x∈l,kt.wf x.1/\vt.wf x.2
def G5 {α:Type} (R:List Value->α->Prop):List Value->List α->Prop
 |cs,[]=>cs= []
 |cs,x::l=>∃c1 u,cs=c1++u/\R c1 x/\G5 R u l
def T7 {α:Type} (R:List Value->α->Prop):Bool->Value->α->Prop
 |true,v,x=>∃cs:List Value,v= .agg cs.toArray/\R cs x
 |false,v,x=>R [v] x
def MOk (ents:Array MapEntry) (clock:Nat):Prop:=(∀x∈ents.toList,x.born<clock)/\(ents.toList.map (·.born)).Nodup
def S4 {κ ν:Type} (Rk:Value->κ->Prop) (Rv:Value->ν->Prop):List MapEntry->List (κ×ν)->Prop
 |es,[]=>es= []
 |es,x::l=>∃e u,es=e::u/\Rk e.key x.1/\Rv e.val x.2/\S4 Rk Rv u l
def C7:(t:Ty)->World->(Nat->Prop)->List Value->t.den->Prop
 | .int k,_,_,cs,n=>cs= [.int k n]/\NU k n
 | .bool,_,_,cs,b=>cs= [.bool b]
 | .str,_,_,cs,s=>cs= [.string s]
 | .unit,_,_,cs,_=>cs= []
 | .pair a b,w,Z,cs,x=>∃c1 c2,cs=c1++c2/\C7 a w Z c1 x.1/\C7 b w Z c2 x.2
 | .sl t,w,Z,cs,l=>∃a u,cs= [.slice a l.length u]/\l.length<=u/\u<=maxLen/\(a=none->u=0)/\(l= []\/∃b o ec,a=some ⟨b,o,none⟩/\Z b/\J6 w ⟨b,o,none⟩ ec/\G5 (C7 t w Z) ec l)
 | .ptr t,w,Z,cs,x=>∃b o ec,cs= [.pointer (some ⟨b,o,none⟩)]/\Z b/\J6 w ⟨b,o,none⟩ ec/\C7 t w Z ec x
 | .mp ka kt va vt,w,Z,cs,l=>(cs= [.map none]/\l= [])\/∃b ents clock,cs= [.map (some b)]/\Z b/\w.heap[b]? =some (.map ents clock)/\MOk ents clock/\S4 (T7 (C7 kt w Z) ka) (T7 (C7 vt w Z) va) ents.toList l
def T7.mono {α:Type} {R R':List Value->α->Prop} (h:∀c x,R c x->R' c x):∀ {a:Bool} {v:Value} {x:α},T7 R a v x->T7 R' a v x
 |true,_,_,⟨cs,e,hh⟩=>⟨cs,e,h _ _ hh⟩
 |false,_,_,hh=>h _ _ hh
def S4.mono {κ ν:Type} {Rk Rk':Value->κ->Prop} {Rv Rv':Value->ν->Prop} (h:∀c x,Rk c x->Rk' c x) (h':∀c x,Rv c x->Rv' c x):∀ {l:List (κ×ν)} {es:List MapEntry},S4 Rk Rv es l->S4 Rk' Rv' es l
 | [],_,hh=>hh
 | _:: _,_,⟨e,u,he,h1,h2,h3⟩=>⟨e,u,he,h _ _ h1,h' _ _ h2,S4.mono h h' h3⟩
def S4.mem {κ ν:Type} {Rk:Value->κ->Prop} {Rv:Value->ν->Prop} :∀ {l:List (κ×ν)} {es:List MapEntry} {x:κ×ν},S4 Rk Rv es l->x∈l->∃e∈es,Rk e.key x.1/\Rv e.val x.2
 |y::l,_,x,⟨e,u,he,h1,h2,h3⟩,hx=>by
  rw[he];rcases qR.1 hx with rfl|hx
  . exact⟨e,by simp,h1,h2⟩
  . obtain⟨e',hm,h⟩:=S4.mem h3 hx;exact⟨e',by simp[hm],h⟩
section each
variable {α:Type} {R R':List Value->α->Prop}
def G5.mono (h:∀c x,R c x->R' c x):∀ {l:List α} {cs:List Value},G5 R cs l->G5 R' cs l
 | [],_,hh=>hh
 | _:: _,_,⟨c1,u,e,h1,h2⟩=>⟨c1,u,e,h _ _ h1,G5.mono h h2⟩
def G5.append:∀ {l l':List α} {cs cs':List Value},G5 R cs l->G5 R cs' l'->G5 R (cs++cs') (l++l')
 | [],_,cs,cs',h,u=>by cases h;simpa using u
 | _:: _,_,_,cs',⟨c1,c2,e,h1,h2⟩,u=>⟨c1,c2++cs',by simp[e],h1,G5.append h2 u⟩
def G5.length {s:Nat} (u:∀c x,R c x->c.length=s):∀ {l:List α} {cs:List Value},G5 R cs l->cs.length=l.length*s
 | [],_,h=>by cases h;simp
 | _::l,_,⟨c1,c2,e,h1,h2⟩=>by
  have:=G5.length u h2;rw[e,rM,u _ _ h1,this,rH,uR];omega
def G5.get {s:Nat} (u:∀c x,R c x->c.length=s):∀ {l:List α} {cs:List Value} {i:Nat} {x:α},G5 R cs l->l[i]? =some x->R ((cs.drop (i*s)).take s) x
 | [],_,_,_,_,hi=>by simp at hi
 |y::l,_,i,x,⟨c1,c2,e,h1,h2⟩,hi=>by
  have hl:=u _ _ h1;cases i with
  |zero=>
   simp at hi;subst hi;rw[e,yA,tX,g0s hl];exact h1
  |succ i=>
   simp at hi;have:=G5.get u h2 hi;rw[e,uR,wC, <-vO,zK hl];exact this
def G5.set {s:Nat} (hs:∀c x,R c x->c.length=s):∀ {l:List α} {cs:List Value} {i:Nat} {x:α} {c:List Value},G5 R cs l->R c x->i<l.length->G5 R (cs.take (i*s)++c++cs.drop (i*s+s)) (l.set i x)
 | [],_,_,_,_,_,_,hi=>by simp at hi
 |y::l,_,i,x,c,⟨c1,c2,e,h1,h2⟩,hc,hi=>by
  have hl:=hs _ _ h1;cases i with
  |zero=>
   refine⟨c,c2, ?_,hc,h2⟩;rw[e,yA,sP,g0b,wG,zK hl]
  |succ i=>
   have u:i<l.length:=by simpa using hi
   refine⟨c1,_, ?_,h1,G5.set hs h2 hc u⟩;have e1:(i+1)*s=s+i*s:=by rw[uR,wC]
   rw[e,e1,g0i,qX (by omega),hl,g1x,g4u,sH (by omega),hl];simp[show s+i*s+s-s=i*s+s from by omega]
def G5.take {s:Nat} (u:∀c x,R c x->c.length=s):∀ {l:List α} {cs:List Value} (n:Nat),G5 R cs l->G5 R (cs.take (n*s)) (l.take n)
 | [],_,n,h=>by cases h;simp;rfl
 | _::l,_,n,⟨c1,c2,e,h1,h2⟩=>by
  have hl:=u _ _ h1;cases n with
  |zero=>simp;rfl
  |succ n=>
   refine⟨c1,_, ?_,h1,G5.take u n h2⟩;rw[e,show(n+1)*s=s+n*s from by rw[uR,wC],g0i,qX (by omega),hl,g1x]
def G5.drop {s:Nat} (hs:∀c x,R c x->c.length=s):∀ {l:List α} {cs:List Value} (n:Nat),G5 R cs l->G5 R (cs.drop (n*s)) (l.drop n)
 | [],_,n,h=>by cases h;simp;rfl
 | _::l,_,n,⟨c1,c2,e,h1,u⟩=>by
  have hl:=hs _ _ h1;cases n with
  |zero=>simp;exact⟨c1,c2,e,h1,u⟩
  |succ n=>
   have:=G5.drop hs n u;rw[e,show(n+1)*s=s+n*s from by rw[uR,wC], <-vO,zK hl];exact this
end each
def C7.length:∀ {t:Ty} {w:World} {Z:Nat->Prop} {cs:List Value} {x:t.den},C7 t w Z cs x->cs.length=t.size
 | .int _,_,_,_,_,h=>by rw[h.1];rfl
 | .bool,_,_,_,_,h=>by rw[show _= _ from h];rfl
 | .str,_,_,_,_,h=>by rw[show _= _ from h];rfl
 | .unit,_,_,_,_,h=>by rw[show _= _ from h];rfl
 | .pair a b,_,_,_,_,⟨c1,c2,e,h1,u⟩=>by rw[e,rM,C7.length h1,C7.length u];rfl
 | .sl _,_,_,_,_,⟨_,_,e,_⟩=>by rw[e];rfl
 | .ptr _,_,_,_,_,⟨_,_,_,e,_⟩=>by rw[e];rfl
 | .mp _ _ _ _,_,_,_,_,h=>by
  rcases h with⟨e,_⟩ | ⟨_,_,_,e,_⟩<;>rw[e]<;>rfl
def O6 (Z:Nat->Prop) (w w':World):Prop:=∀b,Z b->w'.heap[b]? =w.heap[b]?
def Yt {Z:Nat->Prop} {w w':World} {b o:Nat} {u:List Value} (h:J6 w ⟨b,o,none⟩ u) (hb:Z b) (hs:O6 Z w w'):J6 w' ⟨b,o,none⟩ u:=fun j v hv=>by
 have:=h j v hv;rw[K7]at this⊢;rw[<-this];exact World.cell?_of_block (hs b hb)
def C7.mono:∀ {t:Ty} {w w':World} {Z Z':Nat->Prop} {cs:List Value} {x:t.den},(∀b,Z b->Z' b)->O6 Z w w'->C7 t w Z cs x->C7 t w' Z' cs x
 | .int _,_,_,_,_,_,_,_,_,h=>h
 | .bool,_,_,_,_,_,_,_,_,h=>h
 | .str,_,_,_,_,_,_,_,_,h=>h
 | .unit,_,_,_,_,_,_,_,_,h=>h
 | .pair a b,_,_,_,_,_,_,hz,u,⟨c1,c2,e,h1,h2⟩=>⟨c1,c2,e,C7.mono hz u h1,C7.mono hz u h2⟩
 | .sl t,_,_,_,_,_,_,hz,u,⟨a,a1,e,hc,hm,hn,h⟩=>⟨a,a1,e,hc,hm,hn,h.imp id fun⟨b,o,ec,ha,hb,a0,he⟩=>⟨b,o,ec,ha,hz b hb,Yt a0 hb u,he.mono fun _ _=>C7.mono hz u⟩⟩
 | .ptr t,_,_,_,_,_,_,hz,u,⟨b,o,ec,e,hb,a0,he⟩=>⟨b,o,ec,e,hz b hb,Yt a0 hb u,C7.mono hz u he⟩
 | .mp ka kt va vt,_,_,_,_,_,_,hz,u,h=>h.imp id fun⟨b,es,cl,e,hb,hh,hm,he⟩=>⟨b,es,cl,e,hz b hb,by rw[u b hb];exact hh,hm,he.mono (fun _ _ h=>h.mono fun _ _=>C7.mono hz u) (fun _ _ h=>h.mono fun _ _=>C7.mono hz u)⟩
def T7.wf' {t:Ty} {R:List Value->t.den->Prop} (u:∀cs x,R cs x->t.wf x):∀ {a:Bool} {v:Value} {x:t.den},T7 R a v x->t.wf x
 |true,_,_,⟨_,_,h⟩=>u _ _ h
 |false,_,_,h=>u _ _ h
def C7.wf:∀ {t:Ty} {w:World} {Z:Nat->Prop} {cs:List Value} {x:t.den},C7 t w Z cs x->t.wf x
 | .int _,_,_,_,_,h=>h.2
 | .bool,_,_,_,_,_=>trivial
 | .str,_,_,_,_,_=>trivial
 | .unit,_,_,_,_,_=>trivial
 | .pair a b,_,_,_,_,⟨c1,c2,e,h1,h2⟩=>⟨C7.wf h1,C7.wf h2⟩
 | .sl t,_,_,_,l,⟨a,a1,e,hc,hm,_,h⟩=>⟨by simp only[maxLen]at hm;omega,by
  rcases h with h| ⟨b,o,ec,_,_,_,u⟩
  . intro x hx;rw[h]at hx;cases hx
  . intro x hx;obtain⟨i,hi,a0⟩:=g3t hx;exact C7.wf (t:=t) (G5.get (R:=C7 t _ _) (s:=t.size) (fun _ _ h=>C7.length h) u (i:=i) (by rw[qM hi,a0]))⟩
 | .ptr t,_,_,_,_,⟨b,o,ec,e,hb,a2,u⟩=>C7.wf (t:=t) u
 | .mp ka kt va vt,_,_,_,l,h=>by
  rcases h with⟨_,e⟩ | ⟨b,es,cl,e,hb,hh,hm,u⟩
  . intro x hx;rw[e]at hx;cases hx
  . intro x hx;obtain⟨m,_,h1,h2⟩:=u.mem hx;exact⟨T7.wf' (fun _ _=>C7.wf) h1,T7.wf' (fun _ _=>C7.wf) h2⟩
def C7.oneCell:∀ {t:Ty} {w:World} {Z:Nat->Prop} {cs:List Value} {x:t.den},C7 t w Z cs x->∀u∈cs,u.oneCell'=true
 | .int _,_,_,_,_,h=>by rw[h.1];exact Mn rfl Ls
 | .bool,_,_,_,_,h=>by rw[show _= _ from h];exact Mn rfl Ls
 | .str,_,_,_,_,h=>by rw[show _= _ from h];exact Mn rfl Ls
 | .unit,_,_,_,_,h=>by rw[show _= _ from h];exact Ls
 | .pair a b,_,_,_,_,⟨c1,c2,e,h1,h2⟩=>by
  rw[e];intro u hu;rcases qU.1 hu with hu|hu
  . exact C7.oneCell h1 u hu
  . exact C7.oneCell h2 u hu
 | .sl _,_,_,_,_,⟨_,_,e,_⟩=>by rw[e];exact Mn rfl Ls
 | .ptr _,_,_,_,_,⟨_,_,_,e,_⟩=>by rw[e];exact Mn rfl Ls
 | .mp _ _ _ _,_,_,_,_,h=>by
  rcases h with⟨e,_⟩ | ⟨_,_,_,e,_⟩<;>rw[e]<;>exact Mn rfl Ls
def G5.oneCell {t:Ty} {w:World} {Z:Nat->Prop} :∀ {l:List t.den} {cs:List Value},G5 (C7 t w Z) cs l->∀u∈cs,u.oneCell'=true
 | [],_,h=>by rw[show _= _ from h];exact Ls
 | _:: _,_,⟨c1,c2,e,h1,h2⟩=>by
  rw[e];intro u hu;rcases qU.1 hu with hu|hu
  . exact C7.oneCell h1 u hu
  . exact G5.oneCell h2 u hu
def S8 {w:World} {b o:Nat} {ec:List Value} (h:J6 w ⟨b,o,none⟩ ec) (i n:Nat):J6 w ⟨b,o+i,none⟩ ((ec.drop i).take n):=fun j v u=>by
 rw[K7];rw[wM]at u;split at u
 . rw[xF]at u;have:=h (i+j) v u;rw[K7]at this;rw[uL];exact this
 . cases u
@[reducible] def Z6:List (Bool×Ty)->Type
 | []=>Unit
 | (_,t)::r=>t.den×Z6 r
inductive C where
 |val (t:Ty) (x:t.den)
 |row (k:Nat)
 |box (k off:Nat)
 |elp (k sz i off:Nat)
 |win (k sz:Nat) (lo hi:Int)
 |pf (t:Ty) (x:t.den) (off:Nat)
 |mp (k:Nat)
 |fn (f:FuncId) (caps:List Nat)
 |fv (P:Program) (as:List (Bool×Ty)) (ra:Bool) (r:Ty) (ok:Z6 as->Prop) (φ:Z6 as->r.den)
 |raw (v:Value)
 |dead
structure SV where
 agg:Bool
 cs:List C
inductive DV where
 |one (v:SV)
 |tup (vs:List SV)
 |cnd (t:Tmp) (b:Bool) (v:SV)
 |dead
inductive LC where
 |none
 |box (ty:TypeId) (cs:List C)
 |row (t:Ty) (e:TypeId) (l:List t.den)
 |map (ka:Bool) (kt:Ty) (va:Bool) (vt:Ty) (es:List (kt.den×vt.den))
 |rows (t:Ty) (e e':TypeId) (ls:List (List t.den)) (al:List (Nat×Nat)) (ho:Option Nat)
 |al (k:Nat)
 |sbox (q:Nat) (t:Ty) (x:t.den)
 |mapE (ka:Bool) (kt:Ty) (va:Bool) (vt:Ty) (es:List (kt.den×vt.den)) (j q:Nat)
 |iter (ka:Bool) (kt:Ty) (va:Bool) (vt:Ty) (left:List (kt.den×vt.den)) (cur:Option (kt.den×vt.den))
 |nest (t:Ty) (e e':TypeId) (ls:List t.den) (bo:List (Nat×Nat)) (dd:List Nat)
 |itM (ka:Bool) (kt:Ty) (va:Bool) (vt:Ty) (es left:List (kt.den×vt.den)) (cur:Option (kt.den×vt.den)) (q:Nat)
structure St where
 sl:List (Nat×Nat×DV)
 lc:List (Nat×Nat×LC)
 nx:Nat
 ct:Nat
 nm:Nat:=0
 fr:List (List (Nat×Nat×DV)):= []
def QH:Option Prop->Prop
 |none=>True
 |some φ=>φ
def aX (φ:Option Prop) (p:Prop):Prop:=match φ with
 |none=>p
 |some φ=>φ/\p
def E1 {φ:Option Prop} {p:Prop} :aX φ p↔QH φ/\p:=by cases φ<;>simp[aX,QH]
def B6r (c:Prop) (φ:Option Prop):Option Prop:=match φ with
 |none=>none
 |some φ=>some (c->φ)
def nG {c:Prop} {φ:Option Prop} :QH (B6r c φ)↔(c->QH φ):=by cases φ<;>simp[B6r,QH]
def L7 {α:Type} (e:Bool) (x y:α):α:=bif e then x else y
def find {α:Type} (d:α) (s:Nat):List (Nat×α)->α
 | []=>d
 | (t,x)::l=>bif Nat.beq t s then x else find d s l
def St.eS (st:St) (s:Nat):Nat×DV:=find (0, .dead) s st.sl
def St.eL (st:St) (k:Nat):Nat×LC:=find (0, .none) k st.lc
def St.S (st:St) (s:Nat):DV:=(st.eS s).2
def St.L (st:St) (k:Nat):LC:=(st.eL k).2
def put {α:Type} (s:Nat) (x:α):List (Nat×α)->List (Nat×α)
 | []=> [(s,x)]
 | (t,y)::l=>bif Nat.beq t s then(t,x)::l else(t,y)::put s x l
def Za {α:Type} (d:α) (s:Nat) (x:α) (q:Nat):∀l:List (Nat×α),find d q (put s x l)=if q=s then x else find d q l
 | []=>by
  simp only[put,find];by_cases h:q=s
  . simp[h]
  . simp[h,E4 (Ne.symm h)]
 | (t,y)::l=>by
  have ih:=Za d s x q l;simp only[put];cases u:Nat.beq t s with
  |true=>
   have a1:=qE u;subst a1;simp only[qV,find];by_cases h:q=t
   . simp[h]
   . simp[h,E4 (Ne.symm h)]
  |false=>
   have a3:t≠s:=vH u;simp only[rG,find,ih];cases a2:Nat.beq t q with
   |true=>
    have a0:=qE a2;subst a0;simp[a3]
   |false=>simp
def FK (t:Nat):DV->Bool
 | .cnd u _ _=>Nat.beq u t
 | _=>false
def unc (t g:Nat):Nat×DV->Nat×DV
 | (n, .cnd u b v)=>bif Nat.beq u t then(g, .dead)else(n, .cnd u b v)
 | (n, .one v)=>(n, .one v)
 | (n, .tup v)=>(n, .tup v)
 | (n, .dead)=>(n, .dead)
def C1z (t g:Nat) (d:Nat×DV):unc t g d=bif FK t d.2 then(g, .dead)else d:=by
 obtain⟨n,d⟩:=d;cases d<;>rfl
def pP (t g:Nat):List (Nat×Nat×DV)->List (Nat×Nat×DV)
 | []=> []
 | (s,d)::l=>(s,unc t g d)::pP t g l
def WB (t g q:Nat):∀l:List (Nat×Nat×DV),find (0, .dead) q (pP t g l)=bif FK t (find (0, .dead) q l).2 then(g, .dead)else find (0, .dead) q l
 | []=>by simp[pP,find,FK]
 | (s,d)::l=>by
  have u:=WB t g q l;simp only[pP,find,C1z];cases Nat.beq s q<;>simp[u]
def St.setS (st:St) (d:Nat) (x:DV):St:=⟨put d (st.ct+1,x) (pP d (st.ct+1) st.sl),st.lc,st.nx,st.ct+1,st.nm,st.fr⟩
def St.setL (st:St) (k:Nat) (x:LC):St:=⟨st.sl,put k (st.ct+1,x) st.lc,st.nx,st.ct+1,st.nm,st.fr⟩
def St.newL (st:St) (x:LC):St:=⟨st.sl,put st.nx (st.ct+1,x) st.lc,st.nx+1,st.ct+1,st.nm,st.fr⟩
def St.eS_setS (st:St) (d s:Nat) (x:DV):(st.setS d x).eS s=if s=d then(st.ct+1,x)else bif FK d (st.S s)then(st.ct+1, .dead)else st.eS s:=by
 unfold St.eS St.setS;simp only;rw[Za,WB];rfl
def St.S_setS (st:St) (d s:Nat) (x:DV):(st.setS d x).S s=if s=d then x else bif FK d (st.S s)then .dead else st.S s:=by
 show((st.setS d x).eS s).2= _;rw[St.eS_setS];split
 . rfl
 . cases FK d (st.S s)<;>rfl
def St.eL_setL (st:St) (k q:Nat) (x:LC):(st.setL k x).eL q=if q=k then(st.ct+1,x)else st.eL q:=Za ..
def St.L_setL (st:St) (k q:Nat) (x:LC):(st.setL k x).L q=if q=k then x else st.L q:=by
 show((st.setL k x).eL q).2= _;rw[St.eL_setL];split<;>rfl
def St.eL_newL (st:St) (q:Nat) (x:LC):(st.newL x).eL q=if q=st.nx then(st.ct+1,x)else st.eL q:=Za ..
def St.L_newL (st:St) (q:Nat) (x:LC):(st.newL x).L q=if q=st.nx then x else st.L q:=by
 show((st.newL x).eL q).2= _;rw[St.eL_newL];split<;>rfl
def O2 (n:Nat):List (Nat×Nat×DV)->List (Nat×Nat×DV)->Prop
 | [],[]=>True
 | (s,e)::l,(s',e')::u=>s'=s/\(e'.1<=n->e'=e)/\O2 n l u
 | _,_=>False
def Bc (n:Nat):List (List (Nat×Nat×DV))->List (List (Nat×Nat×DV))->Prop
 | [],[]=>True
 |f::l,u::l'=>O2 n f u/\Bc n l l'
 | _,_=>False
def O2.refl (n:Nat):∀l,O2 n l l
 | []=>trivial
 | (_,_)::l=>⟨rfl,fun _=>rfl,O2.refl n l⟩
def Bc.refl (n:Nat):∀l,Bc n l l
 | []=>trivial
 |f::l=>⟨O2.refl n f,Bc.refl n l⟩
def O2.trans {n m:Nat} (u:n<=m):∀ {a b c},O2 n a b->O2 m b c->O2 n a c
 | [],[],[],_,_=>trivial
 | (_,_):: _,(_,_):: _,(_,_):: _,⟨e1,h1,r1⟩,⟨e2,h2,r2⟩=>⟨e2.trans e1,fun hh=>by
  have:=h2 (rA hh u);rw[this]at hh⊢;exact h1 hh,O2.trans u r1 r2⟩
 | [],[],_:: _,_,h=>h.elim
 | [],_:: _,_,h,_=>h.elim
 | _:: _,[],_,h,_=>h.elim
 | (_,_):: _,(_,_):: _,[],_,h=>h.elim
def Bc.trans {n m:Nat} (u:n<=m):∀ {a b c},Bc n a b->Bc m b c->Bc n a c
 | [],[],[],_,_=>trivial
 | _:: _,_:: _,_:: _,h,k=>⟨h.1.trans u k.1,Bc.trans u h.2 k.2⟩
 | [],[],_:: _,_,h=>h.elim
 | [],_:: _,_,h,_=>h.elim
 | _:: _,[],_,h,_=>h.elim
 | _:: _,_:: _,[],_,h=>h.elim
def O2.le {n m:Nat} (u:n<=m) {a b} (h:O2 m a b):O2 n a b:=(O2.refl n a).trans u h
def Bc.le {n m:Nat} (u:n<=m) {a b} (h:Bc m a b):Bc n a b:=(Bc.refl n a).trans u h
def O2.find {n:Nat} {d:Nat×DV} (s:Nat):∀ {a b},O2 n a b->(Vc.find d s b).1<=n->Vc.find d s b=Vc.find d s a
 | [],[],_,_=>rfl
 | (t,e)::a,(t',e')::b,⟨e1,h1,u⟩,h=>by
  subst e1;simp only[Vc.find]at h⊢;cases hb:Nat.beq t' s with
  |true=>rw[hb]at h;exact h1 h
  |false=>rw[hb]at h;exact O2.find s u h
 | [],_:: _,h,_=>h.elim
 | _:: _,[],h,_=>h.elim
def C0z (n:Nat) (fr:List (List (Nat×Nat×DV))):Bool:=fr.all fun f=>f.all fun e=>Nat.ble e.2.1 n
def O2.old {n:Nat} :∀ {a b},O2 n a b->(b.all fun e=>Nat.ble e.2.1 n)=true->b=a
 | [],[],_,_=>rfl
 | (t,e)::a,(t',e')::b,⟨e1,h1,u⟩,h=>by
  simp only[tG,qC]at h;rw[e1,h1 (qT h.1),O2.old u h.2]
 | [],_:: _,h,_=>h.elim
 | _:: _,[],h,_=>h.elim
def Bc.old {n:Nat} :∀ {a b},Bc n a b->C0z n b=true->b=a
 | [],[],_,_=>rfl
 |f::a,f'::b,⟨h1,u⟩,h=>by
  simp only[C0z,tG,qC]at h;rw[h1.old h.1,Bc.old u h.2]
 | [],_:: _,h,_=>h.elim
 | _:: _,[],h,_=>h.elim
structure C3 (st st':St):Prop where
 ct:st.ct<=st'.ct
 s:∀s,(st'.eS s).1≠0->(st'.eS s).1<=st.ct->st'.eS s=st.eS s
 l:∀k,(st'.eL k).1≠0->(st'.eL k).1<=st.ct->st'.eL k=st.eL k
 f:Bc st.ct st.fr st'.fr
def C3.refl (st:St):C3 st st:=⟨rC _,fun _ _ _=>rfl,fun _ _ _=>rfl,Bc.refl _ _⟩
def Bm (a:Bool) (t:Ty) (w:World) (Z:Nat->Prop) (v:Value) (x:t.den):Prop:=T7 (C7 t w Z) a v x
def TX (w:World) (Z:Nat->Prop):(as:List (Bool×Ty))->List Value->Z6 as->Prop
 | [],vs,_=>vs= []
 | (a,t)::r,vs,x=>∃v u,vs=v::u/\Bm a t w Z v x.1/\TX w Z r u x.2
def A0b (P:Program) (w:World) (Z:Nat->Prop) (v:Value) (as:List (Bool×Ty)) (ra:Bool) (r:Ty) (ok:Z6 as->Prop) (φ:Z6 as->r.den):Prop:=
 ∃g,∃caps:List Value,v= .func (.func g) #[] caps.toArray/\Gz P g=true/\∀(w':World) (Z':Nat->Prop) (vs:List Value) (x:Z6 as),O6 Z w w'->(∀b,Z b->b<w'.heap.size)->(∀b,Z' b->b<w'.heap.size)->TX w' Z' as vs x->ok x->
  Gw.cG P g (vs++caps) w' fun u a0=>S7 w' a0/\∃Zn:Nat->Prop,(∀b,Zn b->(w'.heap.size<=b/\b<a0.heap.size)\/Z b\/Z' b)/\Bm ra r a0 Zn u (φ x)
def RC (w:World) (Z:Nat->Prop) (B:Nat->Value):C->Value->Prop
 | .val t x,v=>C7 t w Z [v] x
 | .row k,v=>v=B k
 | .box k off,v=>∃b,B k= .pointer (some ⟨b,0,none⟩)/\v= .pointer (some ⟨b,off,none⟩)
 | .elp k sz i off,v=>∃b n u,B k= .slice (some ⟨b,0,none⟩) n u/\i<n/\v= .pointer (some ⟨b,i*sz+off,none⟩)
 | .win k sz lo hi,v=>∃a n u,B k= .slice a n u/\(∀x,a=some x->∃g,x=⟨g,0,none⟩)/\(a=none->u=0)/\0<=lo/\lo<=hi/\hi<=(n:Int)/\n<=u/\u<=maxLen/\v= .slice (if u=lo.toNat then a else a.map (·.add (lo.toNat*sz))) (hi.toNat-lo.toNat) (u-lo.toNat)
 | .pf t x off,v=>∃b o ec,v= .pointer (some ⟨b,o+off,none⟩)/\Z b/\J6 w ⟨b,o,none⟩ ec/\C7 t w Z ec x
 | .mp k,v=>v=B k
 | .fn f caps,v=>v= .func (.func f) #[] (caps.map B).toArray
 | .fv P as ra r ok φ,v=>A0b P w Z v as ra r ok φ
 | .raw v0,v=>v=v0/\v0.oneCell'=true
 | .dead,_=>True
def Ee (w:World) (Z:Nat->Prop) (B:Nat->Value):List C->List Value->Prop
 | [],vs=>vs= []
 |c::cs,vs=>∃v u,vs=v::u/\RC w Z B c v/\Ee w Z B cs u
def RS (w:World) (Z:Nat->Prop) (B:Nat->Value):SV->Value->Prop
 | ⟨true,cs⟩,v=>∃vs:List Value,v= .agg vs.toArray/\Ee w Z B cs vs
 | ⟨false,cs⟩,v=>Ee w Z B cs [v]
def Qy (w:World) (Z:Nat->Prop) (B:Nat->Value):List SV->List Value->Prop
 | [],vs=>vs= []
 |c::cs,vs=>∃v u,vs=v::u/\RS w Z B c v/\Qy w Z B cs u
def RD (w:World) (Z:Nat->Prop) (B:Nat->Value) (E:H0):DV->Value->Prop
 | .one s,v=>RS w Z B s v
 | .tup ss,v=>∃vs:List Value,v= .tuple vs.toArray/\Qy w Z B ss vs
 | .cnd t b s,v=>(E t= .bool b/\RS w Z B s v)\/(E t≠ .bool b/\v=undef)
 | .dead,_=>True
def Ra (w:World) (Z:Nat->Prop) (ka:Bool) (kt:Ty) (va:Bool) (vt:Ty) (es:List MapEntry) (l:List (kt.den×vt.den)):Prop:=S4 (T7 (C7 kt w Z) ka) (T7 (C7 vt w Z) va) es l
def root:Value->Option Nat
 | .pointer (some a)=>some a.block
 | .slice (some a) _ _=>some a.block
 | .map r=>r
 | _=>none
def Kq:Option Nat->Nat->Bool
 |none,_=>false
 |some j,i=>Nat.beq j i
def Ei (bo:List (Nat×Nat)) (dd:List Nat) (i:Nat):Bool:=(bo.any fun p=>Nat.beq p.1 i) ||dd.any fun j=>Nat.beq j i
def R2 (w:World) (v:Value) (H:Nat->Bool) (b:Nat):Prop:=root v=some b\/∃g n u cur e i x,v= .slice (some ⟨g,0,none⟩) n u/\w.heap[g]? =some (.cells cur e (0,0))/\i<n/\H i=false/\cur[i]? =some x/\root x=some b
def A9 (w:World) (v:Value):LC->Nat->Prop
 | .none,_=>False
 | .box _ _,b=>root v=some b
 | .row _ _ _,b=>root v=some b
 | .map _ _ _ _ _,b=>root v=some b
 | .iter _ _ _ _ _ _,b=>root v=some b
 | .mapE _ _ _ _ _ _ _,b=>root v=some b
 | .al _,_=>False
 | .sbox _ _ _,_=>False
 | .nest _ _ _ _ bo dd,b=>R2 w v (Ei bo dd) b
 | .itM _ _ _ _ _ _ _ _,b=>root v=some b\/∃r c s c2,v= .pointer (some ⟨r,0,none⟩)/\w.heap[r]? =some (.mapIter (some b) c s c2)
 | .rows _ _ _ _ _ ho,b=>root v=some b\/∃g n u cur e i x,v= .slice (some ⟨g,0,none⟩) n u/\w.heap[g]? =some (.cells cur e (0,0))/\i<n/\Kq ho i=false/\cur[i]? =some x/\root x=some b
def Inn (w:World) (Z:Nat->Prop) (B:Nat->Value) (t:Ty) (e':TypeId) (ls:List (List t.den)) (al:List (Nat×Nat)) (ho:Option Nat) (xs:List Value):Prop:=
 (∀p∈al,xs[p.1]? =some (B p.2))/\(∀i l x,Kq ho i=false->ls[i]? =some l->xs[i]? =some x->∃u,w.ownsRow 0 e' t.size x l.length u/\G5 (C7 t w Z) u l)/\
  ∀i j x y b,i≠j->Kq ho i=false->Kq ho j=false->xs[i]? =some x->xs[j]? =some y->root x=some b->root y≠some b
def ItR (w:World) (Z:Nat->Prop) (ka:Bool) (kt:Ty) (va:Bool) (vt:Ty) (r:Nat) (left:List (kt.den×vt.den)) (cur:Option (kt.den×vt.den)):Prop:=
 (w.heap[r]? =some (.mapIter none 0 #[] 0)/\left= []/\cur=none)\/
 ∃(m:Nat) (seen:Array Nat) (ents:Array MapEntry) (clock:Nat),w.heap[r]? =some (.mapIter (some m) clock seen clock)/\Z m/\w.heap[m]? =some (.map ents clock)/\MOk ents clock/\Ra w Z ka kt va vt (leftOf ents seen).toList left/\
  ∀x,cur=some x->∃e∈ents.toList,(∃seen':Array Nat,seen=seen'.push e.born)/\T7 (C7 kt w Z) ka e.key x.1/\T7 (C7 vt w Z) va e.val x.2
def RN:(t:Ty)->TypeId->World->(Nat->Prop)->Value->t.den->Prop
 | .sl t,e',w,Z,v,l=>∃u:List Value,w.ownsRow 0 e' t.size v (List.length l) u/\G5 (C7 t w Z) u l
 | .mp ka kt va vt,_,w,Z,v,es=>∃b ents clock,v= .map (some b)/\w.heap[b]? =some (.map ents clock)/\MOk ents clock/\Ra w Z ka kt va vt ents.toList es
 | _,_,_,_,_,_=>False
structure kK (w:World) (Z:Nat->Prop) (B:Nat->Value) (t:Ty) (e e':TypeId) (ls:List t.den) (bo:List (Nat×Nat)) (dd:List Nat) (v:Value) (xs:List Value):Prop where
 own:w.ownsRow 0 e 1 v ls.length xs
 out:∀p∈bo,xs[p.1]? =some (B p.2)
 elt:∀i l x,Ei bo dd i=false->ls[i]? =some l->xs[i]? =some x->RN t e' w Z x l
 dis:∀i j x y b,i≠j->Ei bo dd i=false->Ei bo dd j=false->xs[i]? =some x->xs[j]? =some y->root x=some b->root y≠some b
 top:∀i x b,Ei bo dd i=false->xs[i]? =some x->root x=some b->root v≠some b
structure C2j (w:World) (Z:Nat->Prop) (ka:Bool) (kt:Ty) (va:Bool) (vt:Ty) (es left:List (kt.den×vt.den)) (cur:Option (kt.den×vt.den)) (r m:Nat) (seen:Array Nat) (ents:Array MapEntry) (clock:Nat):Prop where
 it:w.heap[r]? =some (.mapIter (some m) clock seen clock)
 mp:w.heap[m]? =some (.map ents clock)
 ok:MOk ents clock
 all:Ra w Z ka kt va vt ents.toList es
 rest:Ra w Z ka kt va vt (leftOf ents seen).toList left
 cur:∀x,cur=some x->∃e∈ents.toList,(∃seen':Array Nat,seen=seen'.push e.born)/\T7 (C7 kt w Z) ka e.key x.1/\T7 (C7 vt w Z) va e.val x.2
def RL (U:Nat->Prop) (w:World) (Z:Nat->Prop) (B:Nat->Value) (k:Nat):LC->Prop
 | .none=>True
 | .box ty cs=>∃b vs,B k= .pointer (some ⟨b,0,none⟩)/\U b/\¬Z b/\MO w b vs ty/\Ee w Z B cs vs.toList
 | .row t e l=>∃xs,w.ownsRow 0 e t.size (B k) l.length xs/\G5 (C7 t w Z) xs l/\∀b,(B k).ownBlock=some b->U b/\¬Z b
 | .map ka kt va vt es=>∃b ents clock,B k= .map (some b)/\U b/\¬Z b/\w.heap[b]? =some (.map ents clock)/\MOk ents clock/\Ra w Z ka kt va vt ents.toList es
 | .al _=>True
 | .sbox q t x=>q=k/\C7 (.ptr t) w Z [B q] x/\∃b,B q= .pointer (some ⟨b,0,none⟩)
 | .mapE ka kt va vt es j q=>∃b ents clock,B k= .map (some b)/\U b/\¬Z b/\w.heap[b]? =some (.map ents clock)/\(MOk ents clock/\Ra w Z ka kt va vt ents.toList es)/\∃e:MapEntry,ents.toList[j]? =some e/\B q= .int .i64 e.born
 | .iter ka kt va vt left cur=>∃r,B k= .pointer (some ⟨r,0,none⟩)/\U r/\¬Z r/\ItR w Z ka kt va vt r left cur
 | .nest t e e' ls bo dd=>∃xs,kK w Z B t e e' ls bo dd (B k) xs/\∀b,R2 w (B k) (Ei bo dd) b->U b/\¬Z b/\b<w.heap.size
 | .itM ka kt va vt es left cur q=>∃r m seen ents clock,B k= .pointer (some ⟨r,0,none⟩)/\B q= .map (some m)/\C2j w Z ka kt va vt es left cur r m seen ents clock/\U r/\¬Z r/\U m/\¬Z m
 | .rows t e e' ls al ho=>∃xs,w.ownsRow 0 e 1 (B k) ls.length xs/\Inn w Z B t e' ls al ho xs/\(∀i x b,Kq ho i=false->xs[i]? =some x->root x=some b->root (B k)≠some b)/\∀b,A9 w (B k) (.rows t e e' ls al ho) b->U b/\¬Z b/\b<w.heap.size
def live:LC->Prop
 | .none=>False
 | .al _=>False
 | .sbox _ _ _=>False
 | _=>True
def Di (n:Nat):C->Prop
 | .row k=>k<n
 | .box k _=>k<n
 | .elp k _ _ _=>k<n
 | .win k _ _ _=>k<n
 | .mp k=>k<n
 | .fn _ caps=>∀k∈caps,k<n
 | _=>True
def Mr (n:Nat) (s:SV):Prop:=∀c∈s.cs,Di n c
def KX (n:Nat):DV->Prop
 | .one s=>Mr n s
 | .tup ss=>∀s∈ss,Mr n s
 | .cnd _ _ s=>Mr n s
 | .dead=>True
def EP (n:Nat):LC->Prop
 | .box _ cs=>∀c∈cs,Di n c
 | .rows _ _ _ _ al _=>∀p∈al,p.2<n
 | .mapE _ _ _ _ _ _ q=>q<n
 | .sbox q _ _=>q<n
 | .nest _ _ _ _ bo _=>∀p∈bo,p.2<n
 | .itM _ _ _ _ _ _ _ q=>q<n
 | _=>True
structure Zn where
 z:Nat->Prop
 m:Nat->Prop
 n:Nat
 v:Nat->Value
 k0:Nat:=0
 b0:Nat:=0
 f:Nat->Nat->Prop
 fm:∀k b,f k b->m b
 es:List H0:= []
def RF (w:World) (Z:Nat->Prop) (B:Nat->Value):List H0->List (List (Nat×Nat×DV))->Prop
 | [],[]=>True
 |E::es,f::u=>(∀s,RD w Z B E (find (0, .dead) s f).2 (E s))/\RF w Z B es u
 | _,_=>False
def kM (n:Nat) (fr:List (List (Nat×Nat×DV))):Prop:=∀f∈fr,∀s,KX n (find (0, .dead) s f).2
structure Ix (m:Nat->Prop) (w w':World):Prop where
 os:w'.os=w.os
 tape:w'.tape=w.tape
 output:w'.output=w.output
 size:w.heap.size<=w'.heap.size
 block:∀k,k<w.heap.size->¬m k->w'.heap[k]? =w.heap[k]?
 drw:True
def Ix.of {m:Nat->Prop} {w w':World} (h:S7 w w'):Ix m w w':=⟨h.os,h.tape,h.output,h.size,fun k u _=>h.block k u,h.drw⟩
def Ix.ext {m:Nat->Prop} {w w':World} (h:Ix m w w') (hm:∀b,¬m b):S7 w w':=⟨⟨h.os,h.tape,h.output,h.size,fun k u=>h.block k u (hm k)⟩,h.drw⟩
def Ix.trans {m:Nat->Prop} {a b c:World} (h:Ix m a b) (k:S7 b c):Ix m a c:=⟨k.os.trans h.os,k.tape.trans h.tape,k.output.trans h.output,rA h.size k.size,fun i hi u=>(k.block i (rK hi h.size)).trans (h.block i hi u),trivial⟩
def Ix.chg {m:Nat->Prop} {w0 w w':World} {b:Nat} (h:Ix m w0 w) (u:aM b w w') (hb:w0.heap.size<=b\/m b):Ix m w0 w':=
 ⟨u.1.trans h.os,u.2.1.trans h.tape,u.2.2.1.1.trans h.output,by rw[u.2.2.2.1];exact h.size,fun k hk hm=>(u.2.2.2.2 k (fun e=>by subst e;rcases hb with hb|hb;exact absurd hk (by omega);exact hm hb)).trans (h.block k hk hm),trivial⟩
def Ix.grown {m:Nat->Prop} {w0 w w':World} {row:Option Nat} (h:Ix m w0 w) (u:w.grownBy w' row) (hd:w.drawn<=w'.drawn) (hb:∀b,row=some b->w0.heap.size<=b\/m b):Ix m w0 w':=
 ⟨u.os.trans h.os,u.tape.trans h.tape,u.output.trans h.output,rA h.size u.size,fun k hk hm=>(u.block k (rK hk h.size) (fun e=>by rcases hb k e.symm with hb|hb;exact absurd hk (by omega);exact hm hb)).trans (h.block k hk hm),trivial⟩
def up (za:Zn) (w0:World) (k:Nat):Nat->Prop:=fun b=>(za.n<=k/\w0.heap.size<=b)\/(k<za.n/\za.f k b)
def up.m {za:Zn} {w0:World} {k b:Nat} (h:up za w0 k b):w0.heap.size<=b\/za.m b:=h.imp And.right fun h=>za.fm k b h.2
structure C2 (za:Zn) (w0:World) (st:St) (E:H0) (w:World) (Z:Nat->Prop) (B:Nat->Value):Prop where
 ext:Ix za.m w0 w
 zlt:∀b,Z b->b<w.heap.size
 slots:∀s,RD w Z B E (st.S s) (E s)
 locs:∀k,RL (up za w0 k) w Z B k (st.L k)
 disj:∀k k' b,k≠k'->A9 w (B k) (st.L k) b->¬A9 w (B k') (st.L k') b
 refs:∀s,KX st.nx (st.S s)
 refl:∀k,EP st.nx (st.L k)
 fresh:∀k,st.nx<=k->st.L k= .none
 bone:∀k,(B k).oneCell'=true
 zin:∀b,Z b->za.z b\/w0.heap.size<=b
 nms:st.nm=za.n/\za.n<=st.nx
 bfix:∀k,k<za.n->B k=za.v k
 mrk:za.b0<=w.heap.size/\∀k b,za.k0<=k->A9 w (B k) (st.L k) b->za.b0<=b
 frs:RF w Z B za.es st.fr
 frf:kM st.nx st.fr
section mono
variable {w w':World} {Z Z':Nat->Prop} {B B':Nat->Value} {n:Nat}
def RC.mono (hz:∀b,Z b->Z' b) (hs:O6 Z w w') (hB:∀k,k<n->B' k=B k):∀ {c:C} {v:Value},Di n c->RC w Z B c v->RC w' Z' B' c v
 | .val _ _,_,_,h=>C7.mono hz hs h
 | .row k,_,hr,h=>h.trans (hB k hr).symm
 | .box k off,_,hr,⟨b,e,h⟩=>⟨b,(hB k hr).trans e,h⟩
 | .elp k sz i off,_,hr,⟨b,m,a0,e,h⟩=>⟨b,m,a0,(hB k hr).trans e,h⟩
 | .win k sz lo hi,_,hr,⟨a,m,a0,e,h⟩=>⟨a,m,a0,(hB k hr).trans e,h⟩
 | .pf t x off,_,_,⟨b,o,ec,e,hb,hc,h⟩=>⟨b,o,ec,e,hz b hb,Yt hc hb hs,C7.mono hz hs h⟩
 | .mp k,_,hr,h=>h.trans (hB k hr).symm
 | .fn f caps,_,hr,h=>by
  show _= _;rw[show _= _ from h];congr 2;exact g3v fun k hk=>(hB k (hr k hk)).symm
 | .fv P as ra r ok φ,_,_,⟨g,caps,e,he,h⟩=>⟨g,caps,e,he,fun w2 Z2 vs x h1 h2 h3 h4 h5=>(h w2 Z2 vs x (fun b hb=>(h1 b (hz b hb)).trans (hs b hb)) (fun b hb=>h2 b (hz b hb)) h3 h4 h5).mono fun u w3 ⟨g1,Zn,g2,g3⟩=>⟨g1,Zn,fun b hb=>(g2 b hb).imp id (Or.imp (hz b) id),g3⟩⟩
 | .raw _,_,_,h=>h
 | .dead,_,_,_=>trivial
def Ee.mono (hz:∀b,Z b->Z' b) (hs:O6 Z w w') (hB:∀k,k<n->B' k=B k):∀ {cs:List C} {vs:List Value},(∀c∈cs,Di n c)->Ee w Z B cs vs->Ee w' Z' B' cs vs
 | [],_,_,h=>h
 |c::cs,_,hr,⟨v,u,e,h1,h2⟩=>⟨v,u,e,RC.mono hz hs hB (hr c (by simp)) h1,Ee.mono hz hs hB (fun c hc=>hr c (by simp[hc])) h2⟩
def RS.mono (hz:∀b,Z b->Z' b) (hs:O6 Z w w') (hB:∀k,k<n->B' k=B k):∀ {s:SV} {v:Value},Mr n s->RS w Z B s v->RS w' Z' B' s v
 | ⟨true,cs⟩,_,u,⟨vs,e,h⟩=>⟨vs,e,Ee.mono hz hs hB u h⟩
 | ⟨false,cs⟩,_,u,h=>Ee.mono (cs:=cs) hz hs hB u h
def Qy.mono (hz:∀b,Z b->Z' b) (hs:O6 Z w w') (hB:∀k,k<n->B' k=B k):∀ {cs:List SV} {vs:List Value},(∀c∈cs,Mr n c)->Qy w Z B cs vs->Qy w' Z' B' cs vs
 | [],_,_,h=>h
 |c::cs,_,hr,⟨v,u,e,h1,h2⟩=>⟨v,u,e,RS.mono hz hs hB (hr c (by simp)) h1,Qy.mono hz hs hB (fun c hc=>hr c (by simp[hc])) h2⟩
def RD.mono {E:H0} (hz:∀b,Z b->Z' b) (hs:O6 Z w w') (hB:∀k,k<n->B' k=B k):∀ {d:DV} {v:Value},KX n d->RD w Z B E d v->RD w' Z' B' E d v
 | .one _,_,u,h=>RS.mono hz hs hB u h
 | .tup _,_,u,⟨vs,e,h⟩=>⟨vs,e,Qy.mono hz hs hB u h⟩
 | .cnd _ _ _,_,u,h=>h.imp (fun⟨a,b⟩=>⟨a,RS.mono hz hs hB u b⟩) id
 | .dead,_,_,_=>trivial
def RF.mono (hz:∀b,Z b->Z' b) (hs:O6 Z w w') (u:∀k,k<n->B' k=B k):∀ {es:List H0} {fr:List (List (Nat×Nat×DV))},kM n fr->RF w Z B es fr->RF w' Z' B' es fr
 | [],[],_,_=>trivial
 |E::es,f::fs,hr,⟨h1,h2⟩=>⟨fun s=>RD.mono hz hs u (hr f (by simp) s) (h1 s),RF.mono hz hs u (fun g hg=>hr g (by simp[hg])) h2⟩
 | [],_:: _,_,h=>h.elim
 | _:: _,[],_,h=>h.elim
def Bm.mono {a:Bool} {t:Ty} {v:Value} {x:t.den} (hz:∀b,Z b->Z' b) (u:O6 Z w w') (h:Bm a t w Z v x):Bm a t w' Z' v x:=T7.mono (fun _ _=>C7.mono hz u) h
def TX.mono (hz:∀b,Z b->Z' b) (hs:O6 Z w w'):∀ {as:List (Bool×Ty)} {vs:List Value} {x:Z6 as},TX w Z as vs x->TX w' Z' as vs x
 | [],_,_,h=>h
 | _:: _,_,_,⟨v,u,e,h1,h2⟩=>⟨v,u,e,h1.mono hz hs,TX.mono hz hs h2⟩
def Ra.mono {ka va:Bool} {kt vt:Ty} (hz:∀b,Z b->Z' b) (u:O6 Z w w') {l:List (kt.den×vt.den)} {es:List MapEntry} (h:Ra w Z ka kt va vt es l):Ra w' Z' ka kt va vt es l:=
 S4.mono (fun _ _ h=>h.mono fun _ _=>C7.mono hz u) (fun _ _ h=>h.mono fun _ _=>C7.mono hz u) h
def A9.live {v:Value} {l:LC} {b:Nat} (h:A9 w v l b):Vc.live l:=by cases l<;>first|exact h.elim|trivial
def A9.of {v:Value} {l:LC} {b:Nat} (hl:Vc.live l) (h:Vc.root v=some b):A9 w v l b:=by
 cases l<;>first|exact hl.elim|exact h|exact .inl h
def R2.iff {v:Value} {H:Nat->Bool} {b:Nat} (h:∀b,root v=some b->w'.heap[b]? =w.heap[b]?):R2 w' v H b↔R2 w v H b:=by
 refine g3q yH ⟨fun⟨g,n,cap,cur,e,i,x,hv,hg,r⟩=>⟨g,n,cap,cur,e,i,x,hv, ?_,r⟩,fun⟨g,n,cap,cur,e,i,x,hv,hg,r⟩=>⟨g,n,cap,cur,e,i,x,hv, ?_,r⟩⟩
 . rw[<-h g (by rw[hv];rfl)];exact hg
 . rw[h g (by rw[hv];rfl)];exact hg
def A9.iff {v:Value} {l:LC} {b:Nat} (h:∀b,A9 w v l b->w'.heap[b]? =w.heap[b]?):A9 w' v l b↔A9 w v l b:=by
 cases l with
 |rows t e e' ls al ho=>
  refine g3q yH ⟨fun⟨g,n,cap,cur,e,i,x,hv,hg,r⟩=>⟨g,n,cap,cur,e,i,x,hv, ?_,r⟩,fun⟨g,n,cap,cur,e,i,x,hv,hg,r⟩=>⟨g,n,cap,cur,e,i,x,hv, ?_,r⟩⟩
  . rw[<-h g (.inl (by rw[hv];rfl))];exact hg
  . rw[h g (.inl (by rw[hv];rfl))];exact hg
 |nest t e e' ls bo dd=>exact R2.iff fun b hb=>h b (.inl hb)
 |itM ka kt va vt es left cur q=>
  refine g3q yH ⟨fun⟨r,c,s,c2,hv,hg⟩=>⟨r,c,s,c2,hv, ?_⟩,fun⟨r,c,s,c2,hv,hg⟩=>⟨r,c,s,c2,hv, ?_⟩⟩
  . rw[<-h r (.inl (by rw[hv];rfl))];exact hg
  . rw[h r (.inl (by rw[hv];rfl))];exact hg
 | _=>exact yH
def RL.root {U:Nat->Prop} {k:Nat} {l:LC} (h:RL U w Z B k l) {b:Nat} (hb:A9 w (B k) l b):U b/\b<w.heap.size/\¬Z b:=by
 cases l with
 |none=>exact hb.elim
 |al _=>exact hb.elim
 |sbox _ _ _=>exact hb.elim
 |mapE ka kt va vt es j q=>
  obtain⟨b',ents,cl,e,h1,h2,u,_⟩:=h;have hb:Vc.root (B k)=some b:=hb;rw[e]at hb;simp[Vc.root]at hb;subst hb;exact⟨h1,(sA.1 u).1,h2⟩
 |iter ka kt va vt left cur=>
  obtain⟨r,e,h1,h2,u⟩:=h;have hb:Vc.root (B k)=some b:=hb;rw[e]at hb;simp[Vc.root]at hb;subst hb;refine⟨h1, ?_,h2⟩;rcases u with⟨u,_⟩ | ⟨_,_,_,_,u,_⟩<;>exact(sA.1 u).1
 |box ty cs=>
  obtain⟨b',vs,e,h1,h2,u,_⟩:=h;have hb:Vc.root (B k)=some b:=hb;rw[e]at hb;simp[Vc.root]at hb;subst hb;exact⟨h1,u.lt,h2⟩
 |row t e l=>
  obtain⟨xs,h1,h2,u⟩:=h;have hb:Vc.root (B k)=some b:=hb;have a0:(B k).ownBlock=some b:=by
   rcases h1.2 with⟨hv,_⟩ | ⟨g,a1,cur,hv,_⟩
   . rw[hv]at hb;simp[Vc.root]at hb
   . rw[hv]at hb⊢;simpa[Vc.root,Value.ownBlock]using hb
  have:=World.ownsRow.lt h1 b a0;exact⟨(u b a0).1,this.2,(u b a0).2⟩
 |map ka kt va vt es=>
  obtain⟨b',ents,cl,e,h1,h2,u,_⟩:=h;have hb:Vc.root (B k)=some b:=hb;rw[e]at hb;simp[Vc.root]at hb;subst hb;exact⟨h1,(sA.1 u).1,h2⟩
 |rows t e e' ls al ho=>
  obtain⟨xs,_,_,_,h4⟩:=h;exact⟨(h4 b hb).1,(h4 b hb).2.2,(h4 b hb).2.1⟩
 |nest t e e' ls bo dd=>
  obtain⟨xs,_,h4⟩:=h;exact⟨(h4 b hb).1,(h4 b hb).2.2,(h4 b hb).2.1⟩
 |itM ka kt va vt es left cur q=>
  obtain⟨r,m,seen,ents,cl,e1,e2,hi,h1,h2,u,h4⟩:=h;rcases hb with hb| ⟨r',c,s,c2,hv,hg⟩
  . rw[e1]at hb;simp[Vc.root]at hb;subst hb;exact⟨h1,(sA.1 hi.it).1,h2⟩
  . rw[e1]at hv;cases hv;rw[hi.it]at hg;cases hg;exact⟨u,(sA.1 hi.mp).1,h4⟩
def F6 {base e sz m:Nat} {v:Value} {xs:List Value} (h:w.ownsRow base e sz v m xs):root v=v.ownBlock:=by
 rcases h.2 with⟨u,_⟩ | ⟨g,a0,cur,u,_⟩<;>rw[u]<;>rfl
def Hk {base e sz m:Nat} {v:Value} {xs:List Value} (h:w.ownsRow base e sz v m xs) (hb:∀b,v.ownBlock=some b->w'.heap[b]? =w.heap[b]?):w'.ownsRow base e sz v m xs:=by
 refine⟨h.1, ?_⟩;rcases h.2 with h| ⟨g,u,cur,hv,h1,h2,h3⟩
 . exact .inl h
 . exact .inr ⟨g,u,cur,hv,h1,by rw[hb g (by rw[hv];rfl)];exact h2,h3⟩
def R2.own {base e n:Nat} {v:Value} {xs:List Value} {H:Nat->Bool} (h1:w.ownsRow base e 1 v n xs) {i b:Nat} {x:Value} (hi:H i=false) (hx:xs[i]? =some x) (hb:Vc.root x=some b):R2 w v H b:=by
 refine .inr ?_;rcases h1.2 with⟨hv,hn⟩ | ⟨g,u,cur,hv,_,hg,a3,_,a4,a1⟩
 . have:=h1.1;rw[hn]at this;have a2:xs= []:=qQ (by omega);rw[a2]at hx;cases hx
 . have a0:i<n:=by have:=(sG.1 hx).1;have h0:=h1.1;omega
   refine⟨g,_,u,cur,e,i,x,hv,hg,a0,hi, ?_,hb⟩;rw[<-a1,rY (by omega)]at hx;simpa using hx
def R2.cases {base e n:Nat} {v:Value} {xs:List Value} {H:Nat->Bool} (h1:w.ownsRow base e 1 v n xs) {b:Nat} (hf:R2 w v H b):Vc.root v=some b\/∃(i:Nat) (x:Value),H i=false/\xs[i]? =some x/\Vc.root x=some b:=by
 rcases hf with hb| ⟨g,m,a5,cur,e1,i,x,hv,hg,hi,hH,hx,hb⟩
 . exact .inl hb
 . refine .inr ⟨i,x,hH, ?_,hb⟩;rcases h1.2 with⟨u,_⟩ | ⟨g2,a2,a3,u,_,a0,a6,_,a4,a1⟩
   . rw[hv]at u;cases u
   . rw[hv]at u;cases u;rw[hg]at a0;cases a0;rw[<-a1,rY (by omega)];simpa using hx
def RN.mono (hz:∀b,Z b->Z' b) (hs:O6 Z w w'):∀ {t:Ty} {e':TypeId} {v:Value} {x:t.den},(∀b,Vc.root v=some b->w'.heap[b]? =w.heap[b]?)->RN t e' w Z v x->RN t e' w' Z' v x
 | .sl t,_,_,_,hb,⟨ys,u,g2⟩=>⟨ys,Hk u (fun b hq=>hb b ((F6 u).trans hq)),g2.mono fun _ _=>C7.mono hz hs⟩
 | .mp ka kt va vt,_,_,_,hb,⟨b,ents,cl,e,u,g2,g3⟩=>⟨b,ents,cl,e,by rw[hb b (by rw[e];rfl)];exact u,g2,g3.mono hz hs⟩
 | .int _,_,_,_,_,h=>h.elim
 | .bool,_,_,_,_,h=>h.elim
 | .str,_,_,_,_,h=>h.elim
 | .unit,_,_,_,_,h=>h.elim
 | .pair _ _,_,_,_,_,h=>h.elim
 | .ptr _,_,_,_,_,h=>h.elim
def RL.mono {U:Nat->Prop} {k:Nat} {l:LC} (hz:∀b,Z b->Z' b) (hs:O6 Z w w') (hB:∀k,k<n->B' k=B k) (hk:live l->B' k=B k) (u:∀b,A9 w (B k) l b->w'.heap[b]? =w.heap[b]?) (a0:∀b,A9 w (B k) l b->¬Z' b) (hr:EP n l) (h:RL U w Z B k l):RL U w' Z' B' k l:=by
 cases l with
 |none=>trivial
 |al _=>trivial
 |sbox q t x=>
  obtain⟨h0,h1,b,h2⟩:=h;have hq:B' q=B q:=hB q hr;refine⟨h0, ?_,b,hq.trans h2⟩;rw[hq];exact C7.mono hz hs h1
 |mapE ka kt va vt es j q=>
  obtain⟨b,ents,cl,e,h1,h2,h3,⟨hm,h4⟩,en,h5,h6⟩:=h;have hb:Vc.root (B k)=some b:=by rw[e];rfl
  exact⟨b,ents,cl,(hk trivial).trans e,h1,a0 b hb,by rw[u b hb];exact h3,⟨hm,h4.mono hz hs⟩,en,h5,(hB q hr).trans h6⟩
 |iter ka kt va vt left cur=>
  obtain⟨r,e,h1,h2,h3⟩:=h;have hb:Vc.root (B k)=some r:=by rw[e];rfl
  refine⟨r,(hk trivial).trans e,h1,a0 r hb, ?_⟩;have a3:=u r hb;rcases h3 with⟨h3,h4⟩ | ⟨m,seen,ents,cl,h3,h4,h5,h6,h7,h8⟩
  . exact .inl ⟨a3.trans h3,h4⟩
  . exact .inr ⟨m,seen,ents,cl,a3.trans h3,hz m h4,(hs m h4).trans h5,h6,h7.mono hz hs,fun x hx=>(h8 x hx).imp fun e he=>⟨he.1,he.2.1,he.2.2.1.mono fun _ _=>C7.mono hz hs,he.2.2.2.mono fun _ _=>C7.mono hz hs⟩⟩
 |box ty cs=>
  obtain⟨b,vs,e,h1,h2,h3,h4⟩:=h;have hb:Vc.root (B k)=some b:=by rw[e];rfl
  refine⟨b,vs,(hk trivial).trans e,h1,a0 b hb, ?_,Ee.mono hz hs hB hr h4⟩;unfold MO;rw[u b hb];exact h3
 |row t e l=>
  obtain⟨xs,h1,h2,h3⟩:=h;have a2:=F6 h1;refine⟨xs, ?_,h2.mono fun _ _=>C7.mono hz hs,fun b hb=> ?_⟩
  . rw[hk trivial];exact Hk h1 fun b hb=>u b (a2.trans hb)
  . rw[hk trivial]at hb;exact⟨(h3 b hb).1,a0 b (a2.trans hb)⟩
 |map ka kt va vt es=>
  obtain⟨b,ents,cl,e,h1,h2,h3,hm,h4⟩:=h;have hb:Vc.root (B k)=some b:=by rw[e];rfl
  exact⟨b,ents,cl,(hk trivial).trans e,h1,a0 b hb,by rw[u b hb];exact h3,hm,h4.mono hz hs⟩
 |rows t e e' ls al ho=>
  have a1:=fun b=>A9.iff (b:=b) u
  obtain⟨xs,h1,⟨h2,h3,h4⟩,h5,h6⟩:=h;have a2:=F6 h1;have a7:∀i x b,Kq ho i=false->xs[i]? =some x->Vc.root x=some b->A9 w (B k) (.rows t e e' ls al ho) b:=fun i x b hi hx hb=>by
   refine .inr ?_;rcases h1.2 with⟨hv,hn⟩ | ⟨g,a4,cur,hv,_,hg,aa,_,ab,a8⟩
   . have:=h1.1;rw[hn]at this;have a9:xs= []:=qQ (by omega);rw[a9]at hx;cases hx
   . have a6:i<ls.length:=by have:=(sG.1 hx).1;have h0:=h1.1;omega
     refine⟨g,_,a4,cur,e,i,x,hv,hg,a6,hi, ?_,hb⟩;rw[<-a8,rY (by omega)]at hx;simpa using hx
  rw[<-hk trivial]at h1 h5;refine⟨xs,Hk h1 fun b hb=>u b (.inl (by rw[<-hk trivial];exact(F6 h1).trans hb)),⟨fun p hp=>(h2 p hp).trans (by rw[hB _ (hr p hp)]),fun i l x hi hl hx=> ?_,h4⟩,h5,fun b hb=> ?_⟩
  . obtain⟨ys,g1,g2⟩:=h3 i l x hi hl hx;exact⟨ys,Hk g1 fun b hb=>u b (a7 i x b hi hx ((F6 g1).trans hb)),g2.mono fun _ _=>C7.mono hz hs⟩
  . rw[hk trivial]at hb;have hb:=(a1 b).1 hb;obtain⟨g1,_,g3⟩:=h6 b hb;refine⟨g1,a0 b hb, ?_⟩;have:=u b hb;rw[uM g3]at this;exact(sA.1 this).1
 |nest t e e' ls bo dd=>
  obtain⟨xs,hN,h6⟩:=h;have a5:=hk trivial;have a1:∀b,R2 w' (B k) (Ei bo dd) b↔R2 w (B k) (Ei bo dd) b:=fun b=>R2.iff fun b hb=>u b (.inl hb)
  rw[show RL U w' Z' B' k (.nest t e e' ls bo dd)=∃xs,kK w' Z' B' t e e' ls bo dd (B k) xs/\∀b,R2 w' (B k) (Ei bo dd) b->U b/\¬Z' b/\b<w'.heap.size from by rw[<-a5];rfl];refine⟨xs,⟨Hk hN.own fun b hb=>u b (.inl ((F6 hN.own).trans hb)),fun p hp=>(hN.out p hp).trans (by rw[hB _ (hr p hp)]),fun i l x hi hl hx=> ?_,hN.dis,hN.top⟩,fun b hb=> ?_⟩
  . exact(hN.elt i l x hi hl hx).mono hz hs fun b hb=>u b (R2.own hN.own hi hx hb)
  . have hb:=(a1 b).1 hb;obtain⟨g1,_,g3⟩:=h6 b hb;refine⟨g1,a0 b hb, ?_⟩;have:=u b hb;rw[uM g3]at this;exact(sA.1 this).1
 |itM ka kt va vt es left cur q=>
  obtain⟨r,m,seen,ents,cl,e1,e2,hi,h1,h2,h3,h4⟩:=h;have f1:A9 w (B k) (.itM ka kt va vt es left cur q) r:= .inl (by rw[e1];rfl);have f2:A9 w (B k) (.itM ka kt va vt es left cur q) m:= .inr ⟨r,_,_,_,e1,hi.it⟩;exact⟨r,m,seen,ents,cl,(hk trivial).trans e1,(hB q hr).trans e2,⟨(u r f1).trans hi.it,(u m f2).trans hi.mp,hi.ok,hi.all.mono hz hs,hi.rest.mono hz hs,fun x hx=>(hi.cur x hx).imp fun e he=>⟨he.1,he.2.1,he.2.2.1.mono fun _ _=>C7.mono hz hs,he.2.2.2.mono fun _ _=>C7.mono hz hs⟩⟩,h1,a0 r f1,h3,a0 m f2⟩
def Di.le {m:Nat} (u:n<=m):∀ {c:C},Di n c->Di m c
 | .val _ _,h=>h
 | .row _,h=>rK h u
 | .box _ _,h=>rK h u
 | .elp _ _ _ _,h=>rK h u
 | .win _ _ _ _,h=>rK h u
 | .pf _ _ _,h=>h
 | .mp _,h=>rK h u
 | .fn _ _,h=>fun k hk=>rK (h k hk) u
 | .fv _ _ _ _ _ _,h=>h
 | .raw _,h=>h
 | .dead,h=>h
def KX.le {m:Nat} (hm:n<=m):∀ {d:DV},KX n d->KX m d
 | .one _,h=>fun c u=>(h c u).le hm
 | .tup _,h=>fun s hs c u=>(h s hs c u).le hm
 | .cnd _ _ _,h=>fun c u=>(h c u).le hm
 | .dead,h=>h
def EP.le {m:Nat} (u:n<=m):∀ {d:LC},EP n d->EP m d
 | .none,h=>h
 | .box _ _,h=>fun c hc=>(h c hc).le u
 | .row _ _ _,h=>h
 | .map _ _ _ _ _,h=>h
 | .al _,h=>h
 | .sbox _ _ _,h=>rK h u
 | .iter _ _ _ _ _ _,h=>h
 | .mapE _ _ _ _ _ _ _,h=>rK h u
 | .rows _ _ _ _ _ _,h=>fun p hp=>rK (h p hp) u
 | .nest _ _ _ _ _ _,h=>fun p hp=>rK (h p hp) u
 | .itM _ _ _ _ _ _ _ _,h=>rK h u
def kM.le {n m:Nat} {fr:List (List (Nat×Nat×DV))} (h:kM n fr) (hm:n<=m):kM m fr:=fun f u s=>(h f u s).le hm
def RD.upd {E:H0} {d:Nat} {u:Value} :∀ {x:DV} {v:Value},FK d x=false->RD w Z B E x v->RD w Z B (upd E d u) x v
 | .one _,_,_,h=>h
 | .tup _,_,_,h=>h
 | .cnd t b s,v,hc,h=>by
  have ht:t≠d:=vH hc;show(Gw.upd E d u t= _ /\ _)\/(Gw.upd E d u t≠ _ /\ _);rw[C6 _ _ _ _ ht];exact h
 | .dead,_,_,_=>trivial
end mono
section steps
variable {za:Zn} {w0 w w':World} {Z Z':Nat->Prop} {B:Nat->Value} {st:St} {E:H0}
def C2.setS (h:C2 za w0 st E w Z B) (d:Nat) {x:DV} {v:Value} (hx:RD w Z B (upd E d v) x v) (hr:KX st.nx x):C2 za w0 (st.setS d x) (upd E d v) w Z B:=by
 refine⟨h.ext,h.zlt,fun s=> ?_,h.locs,h.disj,fun s=> ?_,h.refl,h.fresh,h.bone,h.zin,h.nms,h.bfix,h.mrk,h.frs,h.frf⟩
 . rw[St.S_setS];by_cases u:s=d
   . subst u;simp only[xO,C5];exact hx
   . rw[qO u,C6 _ _ _ _ u];cases hc:FK d (st.S s)with
     |true=>trivial
     |false=>exact RD.upd hc (h.slots s)
 . rw[St.S_setS];by_cases u:s=d
   . rw[qY u];exact hr
   . rw[qO u];cases hc:FK d (st.S s)with
     |true=>trivial
     |false=>exact h.refs s
def C2.keep (h:C2 za w0 st E w Z B) (he:Ix za.m w0 w') (a2:w.heap.size<=w'.heap.size) (hb:∀b,(Z b\/∃k,A9 w (B k) (st.L k) b)->w'.heap[b]? =w.heap[b]?)
 (hz:∀b,Z b->Z' b) (a1:∀b,Z' b->Z b\/(b<w'.heap.size/\w0.heap.size<=b/\∀k,¬A9 w (B k) (st.L k) b)):C2 za w0 st E w' Z' B:=by
 have hs:O6 Z w w':=fun b u=>hb b (.inl u)
 have a0:∀k b,A9 w' (B k) (st.L k) b↔A9 w (B k) (st.L k) b:=fun k b=>A9.iff fun b hf=>hb b (.inr ⟨k,hf⟩)
 refine⟨he,fun b u=> ?_,fun s=>(h.slots s).mono hz hs (fun _ _=>rfl) (h.refs s),fun k=> ?_,fun k k' b a3 h1 h2=>h.disj k k' b a3 ((a0 k b).1 h1) ((a0 k' b).1 h2),h.refs,h.refl,h.fresh,h.bone,fun b u=> ?_,h.nms,h.bfix,⟨rA h.mrk.1 a2,fun k b hk hf=>h.mrk.2 k b hk ((a0 k b).1 hf)⟩,h.frs.mono hz hs (fun _ _=>rfl) h.frf,h.frf⟩
 . rcases a1 b u with h1|h1
   . exact rK (h.zlt b h1) a2
   . exact h1.1
 . refine(h.locs k).mono hz hs (fun _ _=>rfl) (fun _=>rfl) (fun b hr=>hb b (.inr ⟨k,hr⟩)) (fun b hr u=> ?_) (h.refl k);rcases a1 b u with h1|h1
   . exact((h.locs k).root hr).2.2 h1
   . exact h1.2.2 k hr
 . rcases a1 b u with h1|h1
   . exact h.zin b h1
   . exact .inr h1.2.1
def C2.ft (h:C2 za w0 st E w Z B) (hx:S7 w w') {k b:Nat} (hf:A9 w' (B k) (st.L k) b):A9 w (B k) (st.L k) b:=(A9.iff fun c u=>hx.block c ((h.locs k).root u).2.1).1 hf
def C2.more (h:C2 za w0 st E w Z B) (hx:S7 w w') (hz:∀b,Z b->Z' b) (a0:∀b,Z' b->Z b\/(w.heap.size<=b/\b<w'.heap.size)):C2 za w0 st E w' Z' B:=by
 refine h.keep (h.ext.trans hx) hx.size (fun b hb=>hx.block b ?_) hz (fun b hb=> ?_)
 . rcases hb with hb| ⟨k,u⟩
   . exact h.zlt b hb
   . exact((h.locs k).root u).2.1
 . rcases a0 b hb with h1|h1
   . exact .inl h1
   . exact .inr ⟨h1.2,rA h.ext.size h1.1,fun k u=>by have:=((h.locs k).root u).2.1;omega⟩
def C2.new (h:C2 za w0 st E w Z B) {v:Value} {lc:LC} (hl:RL (up za w0 st.nx) w Z (upd B st.nx v) st.nx lc) (hd:∀k b,A9 w v lc b->¬A9 w (B k) (st.L k) b) (hr:EP (st.nx+1) lc) (a8:v.oneCell'=true) (a7:∀b,za.k0<=st.nx->A9 w v lc b->za.b0<=b):
 C2 za w0 (st.newL lc) E w Z (upd B st.nx v):=by
 have hB:∀k,k<st.nx->(upd B st.nx v) k=B k:=fun k u=>C6 _ _ _ _ (uH u)
 have a1:(upd B st.nx v) st.nx=v:=C5 _ _ _;have a0:∀k,live (st.L k)->k<st.nx:=fun k u=>by
  by_cases a6:k<st.nx
  . exact a6
  . rw[h.fresh k (by omega)]at u;exact u.elim
 have hs:O6 Z w w:=fun _ _=>rfl
 refine⟨h.ext,h.zlt,fun s=>(h.slots s).mono (fun _=>id) hs hB (h.refs s),fun k=> ?_, ?_,fun s=>(h.refs s).le (uT _),fun k=> ?_,fun k u=> ?_,fun k=> ?_,h.zin,⟨h.nms.1,yM h.nms.2⟩,fun k u=>(hB k (rK u h.nms.2)).trans (h.bfix k u),⟨h.mrk.1,fun k b u hl=> ?_⟩,h.frs.mono (fun _=>id) hs hB h.frf,h.frf.le (uT _)⟩
 . rw[St.L_newL];by_cases u:k=st.nx
   . subst u;rw[qY rfl];exact hl
   . rw[qO u];exact(h.locs k).mono (fun _=>id) hs hB (fun a5=>hB k (a0 k a5)) (fun _ _=>rfl) (fun b hb hz=>((h.locs k).root hb).2.2 hz) (h.refl k)
 . intro k k' b a4 h1 h2;rw[St.L_newL]at h1 h2;by_cases u:k=st.nx
   . subst u;rw[qO (Ne.symm a4)]at h2;rw[qY rfl,a1]at h1;rw[hB k' (a0 k' h2.live)]at h2;exact hd k' b h1 h2
   . rw[qO u]at h1;rw[hB k (a0 k h1.live)]at h1;by_cases a2:k'=st.nx
     . subst a2;rw[qY rfl,a1]at h2;exact hd k b h2 h1
     . rw[qO a2]at h2;rw[hB k' (a0 k' h2.live)]at h2;exact h.disj k k' b a4 h1 h2
 . rw[St.L_newL];by_cases u:k=st.nx
   . rw[qY u];exact hr
   . rw[qO u];exact(h.refl k).le (uT _)
 . rw[St.L_newL];have a2:st.nx+1<=k:=u;rw[qO (by omega)];exact h.fresh k (by omega)
 . by_cases u:k=st.nx
   . rw[u,a1];exact a8
   . rw[C6 _ _ _ _ u];exact h.bone k
 . rw[St.L_newL]at hl;by_cases a3:k=st.nx
   . subst a3;rw[qY rfl,a1]at hl;exact a7 b u hl
   . rw[qO a3]at hl;rw[hB k (a0 k hl.live)]at hl;exact h.mrk.2 k b u hl
def C2.drop (h:C2 za w0 st E w Z B) (k:Nat):C2 za w0 (st.setL k .none) E w Z B:=by
 refine⟨h.ext,h.zlt,h.slots,fun q=> ?_,fun q q' b a0 h1 u=> ?_,h.refs,fun q=> ?_,fun q hq=> ?_,h.bone,h.zin,h.nms,h.bfix,⟨h.mrk.1,fun q b hk hl=>(by rw[St.L_setL]at hl;split at hl;exact hl.elim;exact h.mrk.2 q b hk hl)⟩,h.frs,h.frf⟩
 . rw[St.L_setL];split
   . trivial
   . exact h.locs q
 . rw[St.L_setL]at h1 u;split at h1
   . exact h1.elim
   . split at u
     . exact u.elim
     . exact h.disj q q' b a0 h1 u
 . rw[St.L_setL];split
   . trivial
   . exact h.refl q
 . rw[St.L_setL];split
   . rfl
   . exact h.fresh q hq
def C2.chg (h:C2 za w0 st E w Z B) {k b:Nat} {lc:LC} (hk:live (st.L k)) (hb:A9 w (B k) (st.L k) b) (hc:aM b w w') (hl:RL (up za w0 k) w' Z B k lc) (hr:EP st.nx lc) (hf:∀b,A9 w' (B k) lc b->root (B k)=some b\/A9 w (B k) (st.L k) b):C2 za w0 (st.setL k lc) E w' Z B:=by
 have h1:=(h.locs k).root hb;have hf:∀b,A9 w' (B k) lc b->A9 w (B k) (st.L k) b:=fun b hh=>(hf b hh).elim (A9.of hk) id
 have h2:C2 za w0 (st.setL k .none) E w' Z B:=by
  refine(h.drop k).keep (h.ext.chg hc h1.1.m) (by rw[hc.2.2.2.1];exact rC _) (fun q hq=>hc.2.2.2.2 q ?_) (fun _=>id) (fun _=> .inl);rintro rfl;rcases hq with hq| ⟨k',u⟩
  . exact h1.2.2 hq
  . rw[St.L_setL]at u;by_cases a0:k'=k
    . rw[qY a0]at u;exact u.elim
    . rw[qO a0]at u;exact h.disj k' k q a0 u hb
 have a5:k<st.nx:=by
  by_cases a3:k<st.nx
  . exact a3
  . rw[h.fresh k (by omega)]at hk;exact hk.elim
 have hL:∀q,(st.setL k lc).L q=if q=k then lc else(st.setL k .none).L q:=fun q=>by
  rw[St.L_setL,St.L_setL];split<;>simp_all
 have lv:∀q b,A9 w' (B q) ((st.setL k lc).L q) b->A9 w (B q) (st.L q) b:=fun q b' hq=>by
  rw[St.L_setL]at hq;split at hq
  . rename_i e;rw[e]at hq⊢;exact hf b' hq
  . refine(A9.iff fun c a1=>hc.2.2.2.2 c ?_).1 hq;rintro rfl;rename_i e;exact h.disj q k c e a1 hb
 refine⟨h2.ext,h2.zlt,h2.slots,fun q=> ?_,fun q q' b' a4 l1 l2=> ?_,h2.refs,fun q=> ?_,fun q hq=> ?_,h.bone,h.zin,h.nms,h.bfix,⟨h2.mrk.1,fun q b a2 u=>h.mrk.2 q b a2 (lv q b u)⟩,h2.frs,h2.frf⟩
 . rw[hL];split
   . rename_i hq;rw[hq];exact hl
   . exact h2.locs q
 . exact h.disj q q' b' a4 (lv q b' l1) (lv q' b' l2)
 . rw[hL];split
   . exact hr
   . exact h2.refl q
 . rw[hL,qO (by have:st.nx<=q:=hq;omega)];exact h2.fresh q hq
def C2.relc (h:C2 za w0 st E w Z B) {k:Nat} {lc:LC} (hk:live (st.L k)) (hl:RL (up za w0 k) w Z B k lc) (hr:EP st.nx lc) (hf:∀b,A9 w (B k) lc b->root (B k)=some b\/A9 w (B k) (st.L k) b):C2 za w0 (st.setL k lc) E w Z B:=by
 have a4:k<st.nx:=by
  by_cases a2:k<st.nx
  . exact a2
  . rw[h.fresh k (by omega)]at hk;exact hk.elim
 have lv:∀q b,A9 w (B q) ((st.setL k lc).L q) b->A9 w (B q) (st.L q) b:=fun q b' u=>by
  rw[St.L_setL]at u;split at u
  . rename_i e;rw[e]at u⊢;exact(hf b' u).elim (A9.of hk) id
  . exact u
 refine⟨h.ext,h.zlt,h.slots,fun q=> ?_,fun q q' b' a3 l1 l2=> ?_,h.refs,fun q=> ?_,fun q u=> ?_,h.bone,h.zin,h.nms,h.bfix,⟨h.mrk.1,fun q b a0 a1=>h.mrk.2 q b a0 (lv q b a1)⟩,h.frs,h.frf⟩
 . rw[St.L_setL];split
   . rename_i u;rw[u];exact hl
   . exact h.locs q
 . exact h.disj q q' b' a3 (lv q b' l1) (lv q' b' l2)
 . rw[St.L_setL];split
   . exact hr
   . exact h.refl q
 . rw[St.L_setL,qO (by have:st.nx<=q:=u;omega)];exact h.fresh q u
def C2.addL (h:C2 za w0 st E w Z B) {k:Nat} {lc:LC} (hk:k<st.nx) (hl:RL (up za w0 k) w Z B k lc) (hd:∀j b,j≠k->A9 w (B k) lc b->¬A9 w (B j) (st.L j) b) (hr:EP st.nx lc) (a4:∀b,za.k0<=k->A9 w (B k) lc b->za.b0<=b):C2 za w0 (st.setL k lc) E w Z B:=by
 refine⟨h.ext,h.zlt,h.slots,fun q=> ?_,fun q q' b a0 l1 l2=> ?_,h.refs,fun q=> ?_,fun q hq=> ?_,h.bone,h.zin,h.nms,h.bfix,⟨h.mrk.1,fun q b a1 u=>(by
  rw[St.L_setL]at u;by_cases a3:q=k
  . subst a3;rw[qY rfl]at u;exact a4 b a1 u
  . rw[qO a3]at u;exact h.mrk.2 q b a1 u)⟩,h.frs,h.frf⟩
 . rw[St.L_setL];split
   . rename_i hq;rw[hq];exact hl
   . exact h.locs q
 . rw[St.L_setL]at l1 l2;by_cases hq:q=k
   . subst hq;rw[qO (Ne.symm a0)]at l2;rw[qY rfl]at l1;exact hd q' b (Ne.symm a0) l1 l2
   . rw[qO hq]at l1;by_cases a2:q'=k
     . subst a2;rw[qY rfl]at l2;exact hd q b hq l2 l1
     . rw[qO a2]at l2;exact h.disj q q' b a0 l1 l2
 . rw[St.L_setL];split
   . exact hr
   . exact h.refl q
 . rw[St.L_setL,qO (by have:st.nx<=q:=hq;omega)];exact h.fresh q hq
def Ad {v:Value} {t t':Ty} {e e' d d' b:Nat} {ls:List (List t.den)} {a0:List (List t'.den)} {al u:List (Nat×Nat)} {ho:Option Nat} (h:∀g,root v=some g->w'.heap[g]? =w.heap[g]?):A9 w' v (.rows t' d d' a0 u ho) b↔A9 w v (.rows t e e' ls al ho) b:=by
 refine g3q yH ⟨fun⟨g,n,cap,cur,e,i,x,hv,hg,r⟩=>⟨g,n,cap,cur,e,i,x,hv, ?_,r⟩,fun⟨g,n,cap,cur,e,i,x,hv,hg,r⟩=>⟨g,n,cap,cur,e,i,x,hv, ?_,r⟩⟩
 . rw[<-h g (by rw[hv];rfl)];exact hg
 . rw[h g (by rw[hv];rfl)];exact hg
def B4m {U:Nat->Prop} {t:Ty} {k e e' i q b:Nat} {ls:List (List t.den)} {al:List (Nat×Nat)} {l:List t.den} {ys:List Value} (h:RL U w Z B k (.rows t e e' ls al none)) (hq:(i,q)∈al) (hb:root (B q)=some b) (hc:aM b w w') (hz:¬Z b) (a6:w'.ownsRow 0 e' t.size (B q) l.length ys) (he:G5 (C7 t w' Z) ys l):
 RL U w' Z B k (.rows t e e' (ls.set i l) al none)/\A9 w (B k) (.rows t e e' ls al none) b/\root (B k)≠some b:=by
 obtain⟨xs,h1,⟨h2,h3,h4⟩,h5,h6⟩:=h;have hx:=h2 _ hq;have a4:i<ls.length:=by have:=(sG.1 hx).1;have h0:=h1.1;omega
 have a5:root (B k)≠some b:=h5 i _ b rfl hx hb;have a7:O6 Z w w':=fun c hc'=>hc.2.2.2.2 c (fun e=>hz (e▸hc'))
 have a0:∀g,root (B k)=some g->w'.heap[g]? =w.heap[g]?:=fun g hg=>hc.2.2.2.2 g (fun e=>a5 (e▸hg))
 refine⟨⟨xs,by rw[qJ];exact Hk h1 (fun g hg=>a0 g ((F6 h1).trans hg)),⟨h2,fun j l' x _ hl u=> ?_,h4⟩,h5,fun c hf=> ?_⟩, ?_,a5⟩
 . by_cases hj:i=j
   . subst hj;rw[tC a4]at hl;cases hl;rw[hx]at u;cases u;exact⟨ys,a6,he⟩
   . rw[tH hj]at hl;obtain⟨zs,g1,g2⟩:=h3 j l' x rfl hl u;refine⟨zs,Hk g1 (fun g hg=>hc.2.2.2.2 g (fun e=> ?_)),g2.mono fun _ _=>C7.mono (fun _=>id) a7⟩;subst e;exact h4 i j _ _ g hj rfl rfl hx u hb ((F6 g1).trans hg)
 . obtain⟨a1,a2,a3⟩:=h6 c ((Ad a0).1 hf);exact⟨a1,a2,by rw[hc.2.2.2.1];exact a3⟩
 . refine .inr ?_;rcases h1.2 with⟨hv,hn⟩ | ⟨g,a8,cur,hv,_,hg,aa,_,a7,a9⟩
   . omega
   . refine⟨g,_,a8,cur,e,i,_,hv,hg,a4,rfl, ?_,hb⟩;rw[<-a9,rY (by omega)]at hx;simpa using hx
def Kz (w:World) (Z:Nat->Prop) (t:Ty) (e e':TypeId) (v:Value) (ls:List (List t.den)):Prop:=
 ∃xs:List Value,w.ownsRow 0 e 1 v ls.length xs/\(∀(i:Nat) (l:List t.den) (x:Value),ls[i]? =some l->xs[i]? =some x->∃u,w.ownsRow 0 e' t.size x l.length u/\G5 (C7 t w Z) u l)/\
  (∀(i j:Nat) (x y:Value) (b:Nat),i≠j->xs[i]? =some x->xs[j]? =some y->root x=some b->root y≠some b)/\∀(i:Nat) (x:Value) (b:Nat),xs[i]? =some x->root x=some b->root v≠some b
def RL.rowsR {U:Nat->Prop} {t:Ty} {k e e':Nat} {ls:List (List t.den)} {al:List (Nat×Nat)} (h:RL U w Z B k (.rows t e e' ls al none)):Kz w Z t e e' (B k) ls:=by
 obtain⟨xs,h1,⟨h2,h3,h4⟩,h5,h6⟩:=h;exact⟨xs,h1,fun i l x hl hx=>h3 i l x rfl hl hx,fun i j x y b u hx hy hb=>h4 i j x y b u rfl rfl hx hy hb,fun i x b hx hb=>h5 i x b rfl hx hb⟩
def Kz.rl {U:Nat->Prop} {t:Ty} {k e e':Nat} {ls:List (List t.den)} (h:Kz w Z t e e' (B k) ls) (hf:∀b,A9 w (B k) (.rows t e e' ls [] none) b->U b/\¬Z b/\b<w.heap.size):RL U w Z B k (.rows t e e' ls [] none):=by
 obtain⟨xs,h1,u,h4,h5⟩:=h;exact⟨xs,h1,⟨fun p hp=>(by cases hp),fun i l x _ hl hx=>u i l x hl hx,fun i j x y b hij _ _ hx hy hb=>h4 i j x y b hij hx hy hb⟩,fun i x b _ hx hb=>h5 i x b hx hb,hf⟩
def Kz.mono {t:Ty} {e e':Nat} {v:Value} {ls:List (List t.den)} (hz:∀b,Z b->Z' b) (h:Kz w Z t e e' v ls):Kz w Z' t e e' v ls:=by
 obtain⟨xs,h1,h3,h4,h5⟩:=h;exact⟨xs,h1,fun i l x hl hx=>(h3 i l x hl hx).imp fun ys u=>⟨u.1,u.2.mono fun _ _=>C7.mono hz (fun _ _=>rfl)⟩,h4,h5⟩
end steps
def iL (P:Program) (r:TypeId->Ty->Bool):List Field->Nat->Ty->Bool
 | [],_, .unit=>true
 | [f],off,ty=>Nat.beq f.offset off&&r f.type ty&&Nat.beq (P.cellsOf f.type) ty.size
 |f::g::u,off, .pair a b=>Nat.beq f.offset off&&r f.type a&&Nat.beq (P.cellsOf f.type) a.size&&iL P r (g::u) (off+a.size) b
 | _,_,_=>false
def iJ (r:Ty->Bool) (sz:Nat):Nat->Ty->Bool
 |0, .unit=>true
 |1,ty=>r ty&&Nat.beq ty.size sz
 |n+2, .pair a b=>r a&&Nat.beq a.size sz&&iJ r sz (n+1) b
 | _,_=>false
def mN (P:Program):Nat->TypeId->Ty->Bool
 |0,_,_=>false
 |n+1,T,ty=>match P.underlying T with
  |some (.int k)=>(match ty with| .int k'=>decide (k=k') | _=>false)
  |some .bool=>(match ty with| .bool=>true| _=>false)
  |some (.struct u)=>iL P (mN P n) u.toList 0 ty&&Nat.beq (P.cellsOf T) ty.size&&u.all (·.name != "_")
  |some (.array m e)=>iJ (mN P n e) (P.cellsOf e) m ty&&Nat.beq (P.cellsOf T) ty.size
  | _=>false
def Mg:(t:Ty)->t.den->List Lit
 | .int k,n=> [.int k n]
 | .bool,b=> [.bool b]
 | .pair a b,x=>Mg a x.1++Mg b x.2
 | _,_=> []
def Hm:Ty->Bool
 | .int _=>true
 | .bool=>true
 | .unit=>true
 | .pair a b=>Hm a&&Hm b
 | _=>false
def FH:(t:Ty)->t.den->t.den->Bool
 | .int _,a,b=>decide ((show Int from a)=b)
 | .bool,a,b=>(show Bool from a)==b
 | .pair a b,x,y=>FH a x.1 y.1&&FH b x.2 y.2
 | _,_,_=>true
def WN:∀ {t:Ty} {x y:t.den},(Mg t x).length=(Mg t y).length
 | .int _,_,_=>rfl
 | .bool,_,_=>rfl
 | .pair a b,x,y=>by simp only[Mg,rM];rw[WN (t:=a) (x:=x.1) (y:=y.1),WN (t:=b) (x:=x.2) (y:=y.2)]
 | .str,_,_=>rfl
 | .unit,_,_=>rfl
 | .sl _,_,_=>rfl
 | .ptr _,_,_=>rfl
 | .mp _ _ _ _,_,_=>rfl
def WM:∀ {t:Ty} {x y:t.den},Hm t=true->(Mg t x=Mg t y↔x=y)
 | .int _,x,y,_=>by simp[Mg]
 | .bool,x,y,_=>by simp[Mg]
 | .unit,x,y,_=>by simp[Mg]
 | .pair a b,x,y,h=>by
  simp only[Hm,qC]at h;simp only[Mg];constructor
  . intro e;have:=List.append_inj e WN;exact g4q ((WM h.1).1 this.1) ((WM h.2).1 this.2)
  . rintro rfl;rfl
 | .str,_,_,h=>by cases h
 | .sl _,_,_,h=>by cases h
 | .ptr _,_,_,h=>by cases h
 | .mp _ _ _ _,_,_,h=>by cases h
def TF:∀ {t:Ty} {x y:t.den},Hm t=true->(FH t x y=true↔x=y)
 | .int _,x,y,_=>by simp[FH]
 | .bool,x,y,_=>by simp[FH]
 | .unit,x,y,_=>by simp[FH]
 | .pair a b,x,y,h=>by
  simp only[Hm,qC]at h;simp only[FH,qC,TF h.1,TF h.2];exact⟨fun⟨a,b⟩=>g4q a b,fun e=>by rw[e];exact⟨rfl,rfl⟩⟩
 | .str,_,_,h=>by cases h
 | .sl _,_,_,h=>by cases h
 | .ptr _,_,_,h=>by cases h
 | .mp _ _ _ _,_,_,h=>by cases h
def Pb:∀ {t:Ty} {w w':World} {Z Z':Nat->Prop} {cs cs':List Value} {x:t.den},Hm t=true->C7 t w Z cs x->C7 t w' Z' cs' x->cs=cs'
 | .int _,_,_,_,_,_,_,_,_,h,u=>h.1.trans u.1.symm
 | .bool,_,_,_,_,_,_,_,_,h,u=>(show _= _ from h).trans (show _= _ from u).symm
 | .unit,_,_,_,_,_,_,_,_,h,u=>(show _= _ from h).trans (show _= _ from u).symm
 | .pair a b,_,_,_,_,_,_,_,hp,⟨c1,c2,e,h1,h2⟩,⟨a2,a3,e',a0,a1⟩=>by
  simp only[Hm,qC]at hp;rw[e,e',Pb hp.1 h1 a0,Pb hp.2 h2 a1]
 | .str,_,_,_,_,_,_,_,h,_,_=>by cases h
 | .sl _,_,_,_,_,_,_,_,h,_,_=>by cases h
 | .ptr _,_,_,_,_,_,_,_,h,_,_=>by cases h
 | .mp _ _ _ _,_,_,_,_,_,_,_,h,_,_=>by cases h
section
variable {P:Program} {w:World} {Z:Nat->Prop}
def cY {n:Nat} {r:TypeId->Ty->Bool} {cs:List Value} (hr:∀ {T:TypeId} {ty:Ty} {cs:List Value} {x:ty.den},r T ty=true->C7 ty w Z cs x->P.keyLits n T cs=some (Mg ty x)):
 ∀ {fs:List Field} {off:Nat} {ty:Ty} {x:ty.den},iL P r fs off ty=true->C7 ty w Z (cs.drop off) x->∃ls,fs.mapM (fun f=>P.keyLits n f.type ((cs.drop f.offset).take (P.cellsOf f.type)))=some ls/\ls.flatten=Mg ty x
 | [],off,ty,x,h,hx=>by
  cases ty<;>simp[iL]at h;exact⟨[],rfl,rfl⟩
 | [f],off,ty,x,h,hx=>by
  have u:(Nat.beq f.offset off&&r f.type ty&&Nat.beq (P.cellsOf f.type) ty.size)=true:=by cases ty<;>exact h
  simp only[qC]at u;have e1:=qE u.1.1;have e2:=qE u.2;have hl:=C7.length hx;refine⟨[Mg ty x], ?_,by simp⟩;rw[wT,e1,e2,qX (by omega),hr u.1.2 hx];rfl
 |f::g::fs,off,ty,x,h,hx=>by
  cases ty<;>simp only[iL]at h<;>try cases h
  rename_i a b;simp only[qC]at h;obtain⟨⟨⟨h1,h2⟩,h3⟩,h4⟩:=h;obtain⟨c1,c2,e,r1,r2⟩:=hx;have l1:=C7.length r1;have e1:=qE h1;have e3:=qE h3;obtain⟨ls,a1,a0⟩:=cY (cs:=cs) (off:=off+a.size) (x:=x.2) hr h4 (by rw[<-vO,e,zK l1];exact r2);refine⟨Mg a x.1::ls, ?_,by simp[Mg,a0]⟩;rw[wT,e1,e3,e,g0s l1,hr h2 r1,a1];rfl
def cX {n e sz:Nat} {r:Ty->Bool} (hr:∀ {ty:Ty} {cs:List Value} {x:ty.den},r ty=true->C7 ty w Z cs x->P.keyLits n e cs=some (Mg ty x)):
 ∀ {m i:Nat} {ty:Ty} {cs:List Value} {x:ty.den},iJ r sz m ty=true->C7 ty w Z (cs.drop (i*sz)) x->∃ls,(List.range' i m).mapM (fun i=>P.keyLits n e ((cs.drop (i*sz)).take sz))=some ls/\ls.flatten=Mg ty x
 |0,i,ty,cs,x,h,hx=>by
  cases ty<;>simp[iJ]at h;exact⟨[],rfl,rfl⟩
 |1,i,ty,cs,x,h,hx=>by
  have u:(r ty&&Nat.beq ty.size sz)=true:=by cases ty<;>exact h
  simp only[qC]at u;have e2:=qE u.2;have hl:=C7.length hx;refine⟨[Mg ty x], ?_,by simp⟩;rw[List.range'_one,wT,qX (by omega),hr u.1 hx];rfl
 |m+2,i,ty,cs,x,h,hx=>by
  cases ty<;>simp only[iJ]at h<;>try cases h
  rename_i a b;simp only[qC]at h;obtain⟨⟨h1,h2⟩,h3⟩:=h;obtain⟨c1,c2,e,r1,r2⟩:=hx;have l1:=C7.length r1;have e2:=qE h2;obtain⟨ls,a1,a0⟩:=cX (cs:=cs) (i:=i+1) (x:=x.2) hr h3 (by rw[uR, <-vO,e,zK (by omega)];exact r2);refine⟨Mg a x.1::ls, ?_,by simp[Mg,a0]⟩;rw[g4w,wT,e,g0s (by omega),hr h1 r1,a1];rfl
def TG:∀ {n:Nat} {T:TypeId} {ty:Ty} {cs:List Value} {x:ty.den},mN P n T ty=true->C7 ty w Z cs x->P.keyLits n T cs=some (Mg ty x)
 |0,_,_,_,_,h,_=>by cases h
 |n+1,T,ty,cs,x,h,hx=>by
  unfold mN at h;unfold Program.keyLits;split at h
  . rename_i k u;cases ty<;>simp only at h<;>try cases h
    have:=qA h;subst this;obtain⟨e,hi⟩:=hx;simp only[u,e];rw[qY ⟨trivial,by simp only[Lit.wf,qC,rT];exact hi⟩];rfl
  . rename_i u;cases ty<;>simp only at h<;>try cases h
    simp only[u,show cs= _ from hx];rfl
  . rename_i fs u;simp only[qC]at h;have hl:=C7.length hx;obtain⟨ls,h1,h2⟩:=cY (n:=n) (cs:=cs) (off:=0) (fun hh hx=>TG hh hx) h.1.1 (by simpa using hx);simp only[u];rw[qY ⟨by rw[hl,qE h.1.2],h.2⟩,h1];simp[h2]
  . rename_i m e u;simp only[qC]at h;have hl:=C7.length hx;obtain⟨ls,h1,h2⟩:=cX (n:=n) (e:=e) (sz:=P.cellsOf e) (i:=0) (cs:=cs) (fun hh hx=>TG hh hx) h.1 (by simpa using hx);simp only[u];rw[qY (by rw[hl,qE h.2]),g3f,h1];simp[h2]
  . cases h
def EJ (P:Program) (T:TypeId) (a:Bool) (ty:Ty):Bool:=mN P 20 T ty&&P.keyTypeAt 20 T&&Hm ty&& !(P.eqGuardType P.depth T)&&(match P.underlying T with|some (.struct _)=>a|some (.array _ _)=>a| _=> !a)
def HC {T:TypeId} {a:Bool} {ty:Ty} {v:Value} {x:ty.den} (h:EJ P T a ty=true) (hv:T7 (C7 ty w Z) a v x):v.formed P T=true/\P.keyLits 20 T v.cells.toList=some (Mg ty x):=by
 simp only[EJ,qC]at h;obtain⟨⟨⟨⟨h1,h2⟩,h3⟩,_⟩,h4⟩:=h;cases a with
 |true=>
  obtain⟨cs,e,hr⟩:=hv;subst e;have h5:=TG h1 hr;have hl:=C7.length hr;refine⟨?_,h5⟩;unfold mN at h1;split at h1
  . rename_i u;simp[u]at h4
  . rename_i u;simp[u]at h4
  . rename_i u;simp only[qC]at h1;simp only[Value.formed,u];have:=qE h1.1.2;simp[this,hl]
  . rename_i u;simp only[qC]at h1;simp only[Value.formed,u];have:=qE h1.2;simp[this,hl]
  . cases h1
 |false=>
  have hr:C7 ty w Z [v] x:=hv;have h5:=TG h1 hr;unfold mN at h1;split at h1
  . rename_i k u;cases ty<;>simp only at h1<;>try cases h1
    have e:=hr.1;simp only[sM,vK]at e;subst e;exact⟨by simp[Value.formed,u],h5⟩
  . rename_i u;cases ty<;>simp only at h1<;>try cases h1
    have e: [v]= [.bool x]:=hr;simp only[sM,vK]at e;subst e;exact⟨by simp[Value.formed,u],h5⟩
  . rename_i u;simp[u]at h4
  . rename_i u;simp[u]at h4
  . cases h1
def HB {T:TypeId} {a:Bool} {ty:Ty} (h:EJ P T a ty=true):Hm ty=true:=by
 simp only[EJ,qC]at h;exact h.1.1.2
def dM {T:TypeId} {a:Bool} {ty:Ty} {v v':Value} {x y:ty.den} (h:EJ P T a ty=true) (hv:T7 (C7 ty w Z) a v x) (a0:T7 (C7 ty w Z) a v' y) (w':World):(Op.equalIn 10000 T v v').run P w'= .ok (FH ty x y) w':=by
 obtain⟨f1,l1⟩:=HC h hv;obtain⟨f2,l2⟩:=HC h a0;have hp:=HB h;simp only[EJ,qC]at h;obtain⟨r,hr,u⟩:=run_equalIn_deep (P:=P) 9980 20 T h.1.1.1.2 w' 20 20 v v' _ _ f1 f2 l1 l2;rw[hr];have:r=FH ty x y:=by
  rw[WM hp, <-TF hp]at u;cases r<;>cases he:FH ty x y<;>simp_all
 rw[this]
def Rl {T:TypeId} {a:Bool} {ty:Ty} {v:Value} {x:ty.den} (h:EJ P T a ty=true) (hv:T7 (C7 ty w Z) a v x) (w':World) (u:Bool):(Instr.checkKey u 10000 T v).run P w'= .ok () w':=by
 obtain⟨f1,l1⟩:=HC h hv;simp only[EJ,qC]at h;exact run_checkKey_deep (P:=P) u 9980 20 T h.1.1.1.2 w' 20 v _ f1 l1
def N8 {α:Type} (t:Ty) (k:t.den):List (t.den×α)->Nat->Option Nat
 | [],_=>none
 |x::l,i=>bif FH t k x.1 then some i else N8 t k l (i+1)
def L2 {α:Type} (t:Ty) (k:t.den):List (t.den×α)->Option α
 | []=>none
 |x::l=>bif FH t k x.1 then some x.2 else L2 t k l
def Fz {α:Type} (t:Ty) (k:t.den) (v:α):List (t.den×α)->List (t.den×α)
 | []=> [(k,v)]
 |x::l=>bif FH t k x.1 then(k,v)::l else x::Fz t k v l
def Zf {T:TypeId} {ka:Bool} {kt:Ty} {ν:Type} {Rv:Value->ν->Prop} {v:Value} {k:kt.den} (h:EJ P T ka kt=true) (hv:T7 (C7 kt w Z) ka v k) (w':World):
 ∀ {l:List (kt.den×ν)} {es:List MapEntry},S4 (T7 (C7 kt w Z) ka) Rv es l->(Instr.findKey T v es).run P w'= .ok ((N8 kt k l 0).bind fun j=>(es[j]?).map fun e=>(j,e.val)) w':=by
 have a3:∀ {l:List (kt.den×ν)} {es:List MapEntry} (i:Nat),S4 (T7 (C7 kt w Z) ka) Rv es l->(Instr.findAsking T v es i).run P w'= .ok ((N8 kt k l i).bind fun j=>(es[j-i]?).map fun e=>(j,e.val)) w':=by
  intro l
  induction l with
  |nil=>intro es i he;rw[show es= []from he];rfl
  |cons x l ih=>
   intro es i he;obtain⟨e,a5,rfl,h1,h2,h3⟩:=he;have hq:=dM h hv h1 w';unfold Instr.findAsking N8;simp only[Sem.run_bind,Op.equal,Op.maxDepth,hq,Result.andThen_ok];cases FH kt k x.1 with
   |true=>simp
   |false=>
    simp only[vT,yU,rG];rw[ih (i+1) h3];cases hm:N8 kt k l (i+1)with
    |none=>rfl
    |some j=>
     have hj:i+1<=j:=by
      have:∀(l:List (kt.den×ν)) (i j:Nat),N8 kt k l i=some j->i<=j:=by
       intro l
       induction l with
       |nil=>intro i j hh;cases hh
       |cons y l ih=>
        intro i j hh;unfold N8 at hh;cases hb:FH kt k y.1 with
        |true=>simp[hb]at hh;omega
        |false=>simp[hb]at hh;have:=ih _ _ hh;omega
      exact this _ _ _ hm
     simp only[vW];rw[show j-i=(j-(i+1))+1 from by omega];simp
 intro l es he;have a1:=a3 0 he;by_cases u:(match P.underlying T with|some (.array _ _) |some (.struct _)=>true| _=>false)=true
 . rw[run_findKey_eq w' u];exact a1
 . have a2:=h;simp only[EJ,qC]at a2;obtain⟨⟨⟨⟨g1,_⟩,_⟩,_⟩,g4⟩:=a2;have a4:∀(d:TypeDesc),P.underlying T=some d->(∀(v v':Value) (x y:kt.den),T7 (C7 kt w Z) ka v x->T7 (C7 kt w Z) ka v' y->Instr.sameNow d v v'=some (FH kt x y))->∀ {l:List (kt.den×ν)} {es:List MapEntry} (i:Nat),S4 (T7 (C7 kt w Z) ka) Rv es l->Instr.findNow d v es i=some ((N8 kt k l i).bind fun j=>(es[j-i]?).map fun e=>(j,e.val)):=by
    intro d hd a0 l
    induction l with
    |nil=>intro es i he;rw[show es= []from he];rfl
    |cons x l ih=>
     intro es i he;obtain⟨e,a5,rfl,h1,h2,h3⟩:=he;unfold Instr.findNow N8;rw[a0 _ _ _ _ hv h1];cases hb:FH kt k x.1 with
     |true=>simp
     |false=>
      simp only[rG];rw[ih (i+1) h3];cases hm:N8 kt k l (i+1)with
      |none=>rfl
      |some j=>
       have hj:i+1<=j:=by
        have:∀(l:List (kt.den×ν)) (i j:Nat),N8 kt k l i=some j->i<=j:=by
         intro l
         induction l with
         |nil=>intro i j hh;cases hh
         |cons y l ih=>
          intro i j hh;unfold N8 at hh;cases hb:FH kt k y.1 with
          |true=>simp[hb]at hh;omega
          |false=>simp[hb]at hh;have:=ih _ _ hh;omega
        exact this _ _ _ hm
       simp only[vW];rw[show j-i=(j-(i+1))+1 from by omega];simp
   unfold mN at g1;split at g1
   . rename_i q hu;simp only[hu,rR]at g4;subst g4;cases kt<;>simp only at g1<;>try cases g1
     have:=qA g1;subst this;have:=a4 _ hu (fun v v' x y h1 h2=>by
      have e1:=h1.1;have e2:=h2.1;simp only[sM,vK]at e1 e2;rw[e1,e2];simp[Instr.sameNow,FH,BEq.beq]) 0 he
     simp[Instr.findKey,run_underlying hu,this]
   . rename_i hu;simp only[hu,rR]at g4;subst g4;cases kt<;>simp only at g1<;>try cases g1
     have:=a4 _ hu (fun v v' x y h1 h2=>by
      have e1: [v]= [.bool x]:=h1;have e2: [v']= [.bool y]:=h2;simp only[sM,vK]at e1 e2;rw[e1,e2];simp[Instr.sameNow,FH]) 0 he
     simp[Instr.findKey,run_underlying hu,this]
   . rename_i hu;simp[hu]at u
   . rename_i hu;simp[hu]at u
   . cases g1
end
def Oc (k:IntKind) (n:Int):NU k (k.wrap n):=by
 unfold NU;cases k<;>simp only[IntKind.wrap,IntKind.min,IntKind.max,IntKind.signed,IntKind.bits]<;>simp<;>(try split)<;>omega
def nI (k:IntKind):NU k 0:=by unfold NU;cases k<;>decide
def B3d (k:IntKind):k.min<=0/\0<=k.max:=nI k
def B4y {k:IntKind} {a b:Int} (ha:NU k a):NU k (a.tmod b):=by
 have h0:=B3d k;unfold NU at*;rcases g2h 0 a with h|h
 . have h1:=zJ b h;have h2:a.tmod b<=a:=by
    rw[tW h];by_cases hb:b=0
    . subst hb;simp
    . have e1:=yD a b;rcases g2h 0 b with u|u
      . have:=tK u (g0r h u);omega
      . have:=zR u (zI h u);omega
   omega
 . have h1:0<=(-a).tmod b:=zJ b (by omega);have h2:(-a).tmod b<= -a:=by
    rw[tW (by omega)];by_cases hb:b=0
    . subst hb;simp
    . have e1:=yD (-a) b;rcases g2h 0 b with u|u
      . have:=tK u (g0r (show 0<= -a by omega) u);omega
      . have:=zR u (zI (show 0<= -a by omega) u);omega
   rw[Int.neg_tmod]at h1 h2;omega
def B1i {k:IntKind} {a:Int} (n:Nat) (ha:NU k a):NU k (a.fdiv (2^n)):=by
 have h0:=B3d k;have u:(0:Int)<2^n:=Int.pow_pos (by decide);have h1:(1:Int)<=2^n:=u;unfold NU at*;rw[sJ _ (by omega)];constructor
 . rw[g2g u];have:k.min*2^n<=k.min*1:=Int.mul_le_mul_of_nonpos_left h0.1 h1;omega
 . have:a/2^n<k.max+1:=by
    rw[g2f u];have:(k.max+1)*1<=(k.max+1)*2^n:=tV h1 (by omega);omega
   omega
structure TI where
 ty:Ty
 agg:Bool
 elem:TypeId:=0
 fields:List (Nat×Nat×Bool):= []
 arr:Nat:=0
 bytes:Nat:=0
 eq:Bool:=false
 key:TypeId:=0
 rows:Bool:=false
 nest:List Nat:= []
def zc (t:Ty) (vs:List Value):Option (List Value):=
 match t with
 | .int k=>(match vs with| .int k' n::r=>bif decide (k=k')&&decide (n=0)then some r else none| _=>none)
 | .bool=>(match vs with| .bool b::r=>bif b then none else some r| _=>none)
 | .str=>(match vs with| .string s::r=>bif s.data.isEmpty then some r else none| _=>none)
 | .unit=>some vs
 | .pair a b=>(zc a vs).bind (zc b)
 | .sl _=>(match vs with| .slice none 0 0::r=>some r| _=>none)
 | .ptr _=>(match vs with| .pointer none::r=>some r| _=>none)
 | .mp _ _ _ _=>(match vs with| .map none::r=>some r| _=>none)
def Es:Ty->List Value
 | .int k=> [.int k 0]
 | .bool=> [.bool false]
 | .str=> [.string ⟨#[]⟩]
 | .unit=> []
 | .pair a b=>Es a++Es b
 | .sl _=> [.slice none 0 0]
 | .ptr _=> [.pointer none]
 | .mp _ _ _ _=> [.map none]
def kF:∀ {t:Ty} {vs r:List Value},zc t vs=some r->vs=Es t++r
 | .int k,vs,r,h=>by
  simp only[zc]at h;split at h
  . rename_i k' n r';cases u:decide (k=k')<;>simp[u]at h;cases hn:decide (n=0)<;>simp at hn u<;>simp[hn]at h;subst hn u h;rfl
  . cases h
 | .bool,vs,r,h=>by
  simp only[zc]at h;split at h
  . rename_i b r';cases b<;>simp at h;subst h;rfl
  . cases h
 | .str,vs,r,h=>by
  simp only[zc]at h;split at h
  . rename_i s r';cases hs:s.data.isEmpty<;>simp[hs]at h;subst h;have:s=⟨#[]⟩:=by cases s;simp at hs;simp[hs]
    rw[this];rfl
  . cases h
 | .unit,vs,r,h=>by simp[zc]at h;subst h;rfl
 | .pair a b,vs,r,h=>by
  simp only[zc]at h;cases h1:zc a vs with
  |none=>simp[h1]at h
  |some r1=>
   simp[h1]at h;rw[kF h1,kF h];simp[Es]
 | .sl t,vs,r,h=>by
  simp only[zc]at h;split at h
  . cases h;rfl
  . cases h
 | .ptr t,vs,r,h=>by
  simp only[zc]at h;split at h
  . cases h;rfl
  . cases h
 | .mp _ _ _ _,vs,r,h=>by
  simp only[zc]at h;split at h
  . cases h;rfl
  . cases h
def isB (P:Program) (T:TypeId):Bool:=match P.underlying T with|some .bool=>true| _=>false
def A1j (P:Program) (T:TypeId) (f sz:Nat) (agg:Bool):Bool:=
 match P.underlying T with
 |some (.struct u)=>(match u[f]? with|some x=>bif agg then kO P x.type sz else(Jq P x.type&&Nat.beq sz 1) |none=>false)
 | _=>false
def Yy (P:Program) (T:TypeId):Nat->List (Nat×Nat×Bool)->Bool
 | _,[]=>true
 |f,(off,sz,agg)::r=>NS P T f off&&A1j P T f sz agg&&Yy P T (f+1) r
def Qw (P:Program) (T:TypeId) (t:Ty):Bool:=match Hz P T with|some z=>(match zc t z.cells.toList with|some []=>true| _=>false) |none=>false
def MK (P:Program) (T:TypeId) (va:Bool):Bool:=match Hz P T with|some (.agg _)=>va|some (.tuple _)=>false|some _=> !va|none=>false
def Vu (P:Program) (T:TypeId) (ti:TI):Bool:=
 Ta P T ti.ty.size&&(bif ti.agg then kO P T ti.ty.size else(Jq P T&&Nat.beq ti.ty.size 1))&&Qw P T ti.ty&&
 (match ti.ty with
  | .bool=>isB P T
  | .str=>(match P.underlying T with|some .string=>true| _=>false)
  | .sl t=>Ht P T ti.elem t.size&&Qw P ti.elem t&&(match P.info? ti.elem with|some i=>Nat.beq i.bytes ti.bytes|none=>false)
  | .int k=>(match P.underlying T with|some (.int k')=>decide (k=k') | _=>false)
  | .mp ka kt va vt=>(match P.underlying T with|some (.map k e)=>Nat.beq k ti.key&&Nat.beq e ti.elem| _=>false)&&EJ P ti.key ka kt&&Qw P ti.elem vt&&MK P ti.elem va
  | _=>true)&&
 (bif ti.fields.isEmpty then true else(Yy P T 0 ti.fields&&(match DH P T with|some pl=>decide (pl=ti.fields.map fun x=>(x.1,x.2.1)) |none=>false)))&&
 (bif Nat.beq ti.arr 0 then true else(match P.underlying T with|some (.array n e)=>Nat.beq n ti.arr&&Nat.beq e ti.elem| _=>false))&&
 (bif ti.eq then EJ P T ti.agg ti.ty else true)
def Qd:Value->C
 | .int k n=>bif decide (k.min<=n)&&decide (n<=k.max)then .val (.int k) n else .raw (.int k n)
 | .bool b=> .val .bool b
 | .string s=> .val .str s
 |v=>bif v.oneCell' then .raw v else .dead
def gR:Value->SV
 | .agg cs=>⟨true,cs.toList.map Qd⟩
 |v=>⟨false,[Qd v]⟩
def CS {w:World} {Z:Nat->Prop} {B:Nat->Value} {n:Nat} (v:Value):RC w Z B (Qd v) v/\Di n (Qd v):=by
 cases v with
 |int k m=>
  simp only[Qd];cases h:decide (k.min<=m)&&decide (m<=k.max)with
  |true=>simp at h;simp only[qV];exact⟨⟨rfl,h⟩,trivial⟩
  |false=>simp only[rG];exact⟨⟨rfl,rfl⟩,trivial⟩
 | _=>exact⟨by first|rfl|exact⟨rfl,rfl⟩ |trivial,by first|trivial|rfl⟩
def Cw {w:World} {Z:Nat->Prop} {B:Nat->Value} {n:Nat} :∀vs:List Value,Ee w Z B (vs.map Qd) vs/\∀c∈vs.map Qd,Di n c
 | []=>⟨rfl,by simp⟩
 |v::vs=>⟨⟨v,vs,rfl,(CS (n:=n) v).1,(Cw (n:=n) vs).1⟩,fun c u=>by
  simp only[rU,qR]at u;rcases u with rfl|u
  . exact(CS (w:=w) (Z:=Z) (B:=B) v).2
  . exact(Cw (w:=w) (Z:=Z) (B:=B) vs).2 c u⟩
def A1f {w:World} {Z:Nat->Prop} {B:Nat->Value} {n:Nat} (v:Value):RS w Z B (gR v) v/\Mr n (gR v):=by
 have base:∀v,RS w Z B ⟨false,[Qd v]⟩ v/\Mr n ⟨false,[Qd v]⟩:=fun v=>⟨⟨v,[],rfl,(CS (n:=n) v).1,rfl⟩,fun c hc=>by simp at hc;rw[hc];exact(CS (w:=w) (Z:=Z) (B:=B) v).2⟩
 cases v with
 |agg cs=>exact⟨⟨cs.toList,by simp,(Cw (n:=n) cs.toList).1⟩,(Cw (w:=w) (Z:=Z) (B:=B) cs.toList).2⟩
 | _=>exact base _
abbrev Ky:=List (Tmp×Bool)
def nH (t:Tmp) (b:Bool):Ky->Bool
 | []=>false
 | (t',u)::r=>(Nat.beq t' t&&(b==u)) ||nH t b r
def St.ev (st:St) (ctx:Ky):Operand->Option SV
 | .tmp t=>match st.S t with
  | .one v=>some v
  | .cnd u b v=>bif nH u b ctx then some v else none
  | _=>none
 | .const v=>some (gR v)
 | .func f=>some ⟨false,[.fn f []]⟩
 | .global _=>none
def gctx (st:St):Nat->Tmp->Bool->Ky
 |0,t,b=> [(t,b)]
 |n+1,t,b=>(t,b)::match st.S t with
  | .cnd t' u _=>gctx st n t' u
  | _=> []
def PQ:SV->Option Bool
 | ⟨false,[.val .bool e]⟩=>some e
 | _=>none
def gval (st:St) (t:Tmp):Option Bool:=match st.S t with
 | .one v=>PQ v
 | .cnd _ _ v=>PQ v
 | _=>none
def ctxP (st:St):Ky->Prop
 | []=>True
 | (t,b)::r=>match gval st t with
  |some e=>match r with
   | []=>e=b
   |r=>e=b/\ctxP st r
  |none=>ctxP st r
def NI {st:St} {t:Tmp} {b e:Bool} {r:Ky} (u:gval st t=some e):ctxP st ((t,b)::r)↔e=b/\ctxP st r:=by
 simp only[ctxP,u];cases r with
 |nil=>simp[ctxP]
 |cons _ _=>rfl
def Q4 (E:H0) (ctx:Ky):Prop:=∀t b,(t,b)∈ctx->E t= .bool b
def dI {t:Tmp} {b:Bool} :∀ {ctx:Ky},nH t b ctx=true->(t,b)∈ctx
 | (t',b')::r,h=>by
  simp only[nH,uO,qC]at h;rcases h with⟨h1,u⟩ |h
  . have:=qE h1;simp at u;subst this u;simp
  . simp[dI h]
def FU (b:Bool):undef≠ .bool b:=by simp[undef]
section
variable {za:Zn} {w0 w:World} {Z:Nat->Prop} {B:Nat->Value} {st:St} {E:H0}
def C2.ev (h:C2 za w0 st E w Z B) {ctx:Ky} (hc:Q4 E ctx) {x:Operand} {v:SV} (hv:st.ev ctx x=some v):RS w Z B v (Gw.ev E x)/\Mr st.nx v:=by
 cases x with
 |tmp t=>
  have hs:=h.slots t;have hr:=h.refs t;simp only[St.ev]at hv;cases hd:st.S t with
  |one u=>rw[hd]at hs hr hv;cases hv;exact⟨hs,hr⟩
  |tup _=>rw[hd]at hv;cases hv
  |dead=>rw[hd]at hv;cases hv
  |cnd t' b u=>
   rw[hd]at hs hr hv;cases hi:nH t' b ctx with
   |false=>simp[hi]at hv
   |true=>
    simp[hi]at hv;subst hv;rcases hs with⟨_,hs⟩ | ⟨hs,_⟩
    . exact⟨hs,hr⟩
    . exact absurd (hc t' b (dI hi)) hs
 |const u=>cases hv;exact A1f u
 |func f=>cases hv;exact⟨⟨_,[],rfl,by show _= _;rfl,rfl⟩,fun c hc=>by simp at hc;subst hc;exact fun k hk=>by cases hk⟩
 |global g=>cases hv
def C2.gctx (h:C2 za w0 st E w Z B):∀ {n:Nat} {t:Tmp} {b:Bool},E t= .bool b->Q4 E (gctx st n t b)
 |0,t,b,he=>fun t' b' hm=>by simp[Vc.gctx]at hm;rw[hm.1,hm.2];exact he
 |n+1,t,b,he=>fun t' b' hm=>by
  unfold Vc.gctx at hm;rcases qR.1 hm with hm|hm
  . cases hm;exact he
  . have hs:=h.slots t;cases hd:st.S t with
    |cnd t1 b1 u=>
     rw[hd]at hs hm;rcases hs with⟨h1,_⟩ | ⟨_,h1⟩
     . exact h.gctx h1 t' b' hm
     . rw[he]at h1;exact absurd h1.symm (FU b)
    |one _=>rw[hd]at hm;cases hm
    |tup _=>rw[hd]at hm;cases hm
    |dead=>rw[hd]at hm;cases hm
def Rh {v:SV} {e:Bool} {u:Value} (h:RS w Z B v u) (hb:PQ v=some e):u= .bool e:=by
 unfold PQ at hb;split at hb
 . cases hb;obtain⟨_,_,e1,h1,_⟩:=h;cases e1;simpa[RC,C7]using h1
 . cases hb
def C2.gval (h:C2 za w0 st E w Z B) {t:Tmp} {b e:Bool} (he:E t= .bool b) (hg:gval st t=some e):e=b:=by
 have hs:=h.slots t;unfold Vc.gval at hg;cases hd:st.S t with
 |one u=>rw[hd]at hs hg;have:=Rh hs hg;rw[he]at this;cases this;rfl
 |tup _=>rw[hd]at hg;cases hg
 |dead=>rw[hd]at hg;cases hg
 |cnd t' b' u=>
  rw[hd]at hs hg;rcases hs with⟨_,hs⟩ | ⟨_,hs⟩
  . have:=Rh hs hg;rw[he]at this;cases this;rfl
  . rw[he]at hs;exact absurd hs.symm (FU b)
def C2.ctxP (h:C2 za w0 st E w Z B):∀ {ctx:Ky},Q4 E ctx->ctxP st ctx
 | [],_=>trivial
 | (t,b)::r,hc=>by
  have ih:=h.ctxP (ctx:=r) fun t b hm=>hc t b (qL _ hm)
  cases u:Vc.gval st t with
  |none=>simp only[Vc.ctxP,u];exact ih
  |some e=>exact(NI u).2 ⟨h.gval (hc t b (by simp)) u,ih⟩
end
def explode:(t:Ty)->t.den->List C
 | .pair a b,x=>explode a x.1++explode b x.2
 | .unit,_=> []
 | .int k,x=> [.val (.int k) x]
 | .bool,x=> [.val .bool x]
 | .str,x=> [.val .str x]
 | .sl t,x=> [.val (.sl t) x]
 | .ptr t,x=> [.pf t x 0]
 | .mp ka kt va vt,x=> [.val (.mp ka kt va vt) x]
def UU (t:Ty):C->Option t.den
 | .val u x=>if h:u=t then some (h▸x)else none
 | .raw (.slice none 0 0)=>match t with
  | .sl _=>some []
  | _=>none
 | .raw (.map none)=>match t with
  | .mp _ _ _ _=>some []
  | _=>none
 | .pf u x 0=>if h:Ty.ptr u=t then some (h▸(show(Ty.ptr u).den from x))else none
 | _=>none
def Mo:(t:Ty)->List C->Option (t.den×List C)
 | .pair a b,cs=>(Mo a cs).bind fun x=>(Mo b x.2).map fun y=>((x.1,y.1),y.2)
 | .unit,cs=>some ((),cs)
 | .int k,c::r=>(UU (.int k) c).map fun x=>(x,r)
 | .bool,c::r=>(UU .bool c).map fun x=>(x,r)
 | .str,c::r=>(UU .str c).map fun x=>(x,r)
 | .sl t,c::r=>(UU (.sl t) c).map fun x=>(x,r)
 | .ptr t,c::r=>(UU (.ptr t) c).map fun x=>(x,r)
 | .mp ka kt va vt,c::r=>(UU (.mp ka kt va vt) c).map fun x=>(x,r)
 | _,_=>none
def Sd (agg:Bool) (t:Ty) (s:SV):Option t.den:=
 bif s.agg==agg then(match Mo t s.cs with|some (x,[])=>some x| _=>none)else none
section
variable {w:World} {Z:Nat->Prop} {B:Nat->Value} {n:Nat}
def Ee.append:∀ {cs cs':List C} {vs u:List Value},Ee w Z B cs vs->Ee w Z B cs' u->Ee w Z B (cs++cs') (vs++u)
 | [],_,_,_,h,h'=>by rw[show _= _ from h];exact h'
 | _:: _,_,_,u,⟨v,a0,e,h1,h2⟩,h'=>⟨v,a0++u,by rw[e];rfl,h1,Ee.append h2 h'⟩
def U3:∀ {t:Ty} {cs:List Value} {x:t.den},C7 t w Z cs x->Ee w Z B (explode t x) cs
 | .int k,_,_,h=>⟨_,[],h.1,⟨rfl,h.2⟩,rfl⟩
 | .bool,_,_,h=>⟨_,[],h,rfl,rfl⟩
 | .str,_,_,h=>⟨_,[],h,rfl,rfl⟩
 | .unit,_,_,h=>h
 | .pair a b,_,_,⟨c1,c2,e,h1,h2⟩=>by rw[e];exact(U3 h1).append (U3 h2)
 | .sl t,_,_,h=>by
  obtain⟨a,u,e,r⟩:=h;exact⟨_,[],e,⟨a,u,rfl,r⟩,rfl⟩
 | .ptr t,_,_,h=>by
  obtain⟨b,o,ec,e,r⟩:=h;exact⟨_,[],e,⟨b,o,ec,rfl,r⟩,rfl⟩
 | .mp ka kt va vt,_,_,h=>by
  rcases h with⟨e,h⟩ | ⟨b,es,cl,e,h⟩
  . exact⟨_,[],e, .inl ⟨rfl,h⟩,rfl⟩
  . exact⟨_,[],e, .inr ⟨b,es,cl,rfl,h⟩,rfl⟩
def E3:∀ {t:Ty} {x:t.den},∀c∈explode t x,Di n c
 | .int k,_,c,h=>by simp[explode]at h;subst h;trivial
 | .bool,_,c,h=>by simp[explode]at h;subst h;trivial
 | .str,_,c,h=>by simp[explode]at h;subst h;trivial
 | .unit,_,c,h=>by simp[explode]at h
 | .pair a b,x,c,h=>by
  simp only[explode,qU]at h;rcases h with h|h
  . exact E3 c h
  . exact E3 c h
 | .sl t,_,c,h=>by simp[explode]at h;subst h;trivial
 | .ptr t,_,c,h=>by simp[explode]at h;subst h;trivial
 | .mp _ _ _ _,_,c,h=>by simp[explode]at h;subst h;trivial
def gB {t:Ty} {c:C} {x:t.den} {v:Value} (h:RC w Z B c v) (u:UU t c=some x):C7 t w Z [v] x:=by
 unfold UU at u;split at u
 . rename_i t' x';split at u
   . rename_i e;subst e;cases u;exact h
   . cases u
 . split at u
   . cases u;rw[show v= _ from h.1];exact⟨none,0,rfl,rC _,rP _,fun _=>rfl, .inl rfl⟩
   . cases u
 . split at u
   . cases u;rw[show v= _ from h.1];exact .inl ⟨rfl,rfl⟩
   . cases u
 . rename_i t' x';split at u
   . rename_i e;subst e;cases u;obtain⟨b,o,ec,e,hb,hc,hr⟩:=h;exact⟨b,o,ec,by rw[e];rfl,hb,hc,hr⟩
   . cases u
 . cases u
def B7n:∀ {t:Ty} {cs r:List C} {vs:List Value} {x:t.den},Ee w Z B cs vs->Mo t cs=some (x,r)->∃v1 v2,vs=v1++v2/\C7 t w Z v1 x/\Ee w Z B r v2:=by
 have one:∀(t:Ty) {cs r:List C} {vs:List Value} {x:t.den} (c:C),Ee w Z B (c::cs) vs->(UU t c).map (fun x=>(x,cs))=some (x,r)->∃v1 v2,vs=v1++v2/\C7 t w Z v1 x/\Ee w Z B r v2:=by
  intro t cs r vs x c h u;obtain⟨v,a2,e,h1,h2⟩:=h;cases ha:UU t c with
  |none=>simp[ha]at u
  |some y=>
   simp[ha]at u;obtain⟨rfl,rfl⟩:=u;exact⟨[v],a2,e,gB h1 ha,h2⟩
 intro t
 induction t with
 |pair a b a0 a1=>
  intro cs r vs x h u;simp only[Mo]at u;cases h1:Mo a cs with
  |none=>simp[h1]at u
  |some y=>
   simp only[h1,vW]at u;cases h2:Mo b y.2 with
   |none=>simp[h2]at u
   |some z=>
    simp[h2]at u;obtain⟨rfl,rfl⟩:=u;obtain⟨v1,v2,e,r1,r2⟩:=a0 h (by rw[h1]);obtain⟨v3,v4,e',r3,r4⟩:=a1 r2 (by rw[h2]);exact⟨v1++v3,v4,by rw[e,e'];simp,⟨v1,v3,rfl,r1,r3⟩,r4⟩
 |unit=>intro cs r vs x h u;simp[Mo]at u;subst u;exact⟨[],vs,rfl,rfl,h⟩
 |int k=>intro cs r vs x h u;cases cs with
  |nil=>simp[Mo]at u
  |cons c cs=>exact one _ c h u
 |bool=>intro cs r vs x h u;cases cs with
  |nil=>simp[Mo]at u
  |cons c cs=>exact one _ c h u
 |str=>intro cs r vs x h u;cases cs with
  |nil=>simp[Mo]at u
  |cons c cs=>exact one _ c h u
 |sl t _=>intro cs r vs x h u;cases cs with
  |nil=>simp[Mo]at u
  |cons c cs=>exact one _ c h u
 |ptr t _=>intro cs r vs x h u;cases cs with
  |nil=>simp[Mo]at u
  |cons c cs=>exact one _ c h u
 |mp ka kt va vt _ _=>intro cs r vs x h u;cases cs with
  |nil=>simp[Mo]at u
  |cons c cs=>exact one _ c h u
def Hl {t:Ty} {cs:List C} {vs:List Value} {x:t.den} (h:Ee w Z B cs vs) (hp:Mo t cs=some (x,[])):C7 t w Z vs x:=by
 obtain⟨v1,v2,e,h1,u⟩:=B7n h hp;rw[show v2= []from u,vQ]at e;rw[e];exact h1
def Ey {a:Bool} {t:Ty} {s:SV} {v:Value} {x:t.den} (h:RS w Z B s v) (u:Sd a t s=some x):Bm a t w Z v x:=by
 obtain⟨sa,cs⟩:=s;unfold Sd at u;cases he:(sa==a)with
 |false=>simp[he]at u
 |true=>
  simp only[he,qV]at u;have:sa=a:=by simpa using he
  subst this;split at u
  . rename_i y hy;cases u;cases sa with
    |true=>obtain⟨vs,e,h⟩:=h;exact⟨vs,e,Hl h hy⟩
    |false=>exact Hl (vs:= [v]) h hy
  . cases u
def Bm.explode {a:Bool} {t:Ty} {v:Value} {x:t.den} (h:Bm a t w Z v x):RS w Z B ⟨a,explode t x⟩ v:=by
 cases a with
 |true=>obtain⟨cs,e,h⟩:=h;exact⟨cs,e,U3 h⟩
 |false=>exact U3 (cs:= [v]) h
def Ee.len:∀ {cs:List C} {vs:List Value},Ee w Z B cs vs->cs.length=vs.length
 | [],_,h=>by rw[show _= _ from h];rfl
 | _:: _,_,⟨v,a0,e,_,u⟩=>by rw[e,rH,rH,Ee.len u]
def Ee.drop:∀ {cs:List C} {vs:List Value} (i:Nat),Ee w Z B cs vs->Ee w Z B (cs.drop i) (vs.drop i)
 |cs,vs,0,h=>h
 | [],_,i+1,h=>by rw[show _= _ from h];simp;rfl
 | _:: _,_,i+1,⟨v,a0,e,_,u⟩=>by rw[e];simp only[List.drop_succ_cons];exact Ee.drop i u
def Ee.take:∀ {cs:List C} {vs:List Value} (i:Nat),Ee w Z B cs vs->Ee w Z B (cs.take i) (vs.take i)
 |cs,vs,0,h=>by simp;rfl
 | [],_,i+1,h=>by rw[show _= _ from h];simp;rfl
 | _:: _,_,i+1,⟨v,a0,e,h1,u⟩=>by rw[e];simp only[List.take_succ_cons];exact⟨v,_,rfl,h1,Ee.take i u⟩
end
def A1s (op:BinOp) (k:IntKind) (a b:Int):Option (Option Prop×C):=
 match op with
 | .add=>some (none, .val (.int k) (k.wrap (a+b)))
 | .sub=>some (none, .val (.int k) (k.wrap (a-b)))
 | .mul=>some (none, .val (.int k) (k.wrap (a*b)))
 | .quo=>some (some (b≠0), .val (.int k) (k.wrap (a.tdiv b)))
 | .rem=>some (some (b≠0), .val (.int k) (a.tmod b))
 | .and=>some (none, .val (.int k) (k.wrap (BitVec.ofInt k.bits a&&&BitVec.ofInt k.bits b).toNat))
 | .or=>some (none, .val (.int k) (k.wrap (BitVec.ofInt k.bits a|||BitVec.ofInt k.bits b).toNat))
 | .xor=>some (none, .val (.int k) (k.wrap (BitVec.ofInt k.bits a^^^BitVec.ofInt k.bits b).toNat))
 | .eql=>some (none, .val .bool (decide (a=b)))
 | .neq=>some (none, .val .bool (decide (a≠b)))
 | .lss=>some (none, .val .bool (decide (a<b)))
 | .leq=>some (none, .val .bool (decide (a<=b)))
 | .gtr=>some (none, .val .bool (decide (b<a)))
 | .geq=>some (none, .val .bool (decide (b<=a)))
 | _=>none
def B9u (op:BinOp):C->C->Option (Option Prop×C)
 | .val (.int k) a, .val (.int k') b=>
  match op with
  | .shl=>some (some (0<=b), .val (.int k) (k.wrap (a*2^(min b.toNat k.bits))))
  | .shr=>some (some (0<=b), .val (.int k) (a.fdiv (2^(min b.toNat k.bits))))
  |op=>bif decide (k=k')then A1s op k a b else none
 | .val .bool a, .val .bool b=>
  match op with
  | .eql=>some (none, .val .bool (a==b))
  | .neq=>some (none, .val .bool (a !=b))
  | _=>none
 | _,_=>none
section
variable {za:Zn} {w0 w:World} {Z:Nat->Prop} {B:Nat->Value} {P:Program} {E:H0}
def C5p {ty:TypeId} {T T':TypeId} {x y:Operand} {a b:Bool} (hx:Gw.ev E x= .bool a) (hy:Gw.ev E y= .bool b) (hT:P.underlying T=some .bool):Gw.E7 P E ty (.binOp .eql T x y T') w (.bool (a==b)) w:=fun _ _ _ _=>by
 have h1:=run_equalIn_bool' (P:=P) w 9999 T a b hT;have hg:(eqGuard .eql T x y (.bool a) (.bool b)).run P w= .ok () w:=rfl;have u:(binOp .eql T (.bool a) (.bool b)).run P w= .ok (.bool (a==b)) w:=by
  show((Op.equal T (.bool a) (.bool b))>>=fun r=>pure (Value.bool r)).run P w= _;unfold Op.equal Op.maxDepth;rw[Sem.run_bind,h1];rfl
 simp only[execOp,hx,hy];simp[hg,u]
def B2e {T:TypeId} (h:isB P T=true):P.underlying T=some .bool:=by
 unfold isB at h;split at h
 . assumption
 . cases h
def A7h {op:BinOp} {k:IntKind} {a b:Int} {φ:Option Prop} {c:C} (h:A1s op k a b=some (φ,c)) (u:QH φ) (ha:NU k a):∃v,(∀(w':World) (T:TypeId),(binOp op T (.int k a) (.int k b)).run P w'= .ok v w')/\RC w Z B c v/\∀n,Di n c:=by
 cases op<;>simp only[A1s,rE,Prod.mk.injEq,reduceCtorEq]at h<;>(try exact h.elim)<;>obtain⟨rfl,rfl⟩:=h
 case rem=>exact⟨_,fun w' T=>by simp[binOp,Op.intDiv,show b≠0 from u,go_sem],⟨rfl,B4y ha⟩,fun _=>trivial⟩
 case quo=>exact⟨_,fun w' T=>by simp[binOp,Op.intDiv,show b≠0 from u,go_sem],⟨rfl,Oc _ _⟩,fun _=>trivial⟩
 case add|sub|mul=>exact⟨_,fun w' T=>by simp[binOp,Op.intArith,go_sem],⟨rfl,Oc _ _⟩,fun _=>trivial⟩
 case and|or|xor=>exact⟨_,fun w' T=>by simp[binOp,Op.intBits,go_sem],⟨rfl,Oc _ _⟩,fun _=>trivial⟩
 all_goals exact⟨.bool _,fun w' T=>by simp[binOp,Op.intCmp,go_sem];try rfl,rfl,fun _=>trivial⟩
def B5w {op:BinOp} {x y:Operand} {cx cy c:C} {φ:Option Prop} {T T' ty:TypeId} (h:B9u op cx cy=some (φ,c)) (a1:QH φ) (hx:RC w Z B cx (Gw.ev E x)) (u:RC w Z B cy (Gw.ev E y)) (hT:isB P T=true\/∀e,cx≠ .val .bool e):
 ∃v,(∀w',Gw.E7 P E ty (.binOp op T x y T') w' v w')/\RC w Z B c v/\∀n,Di n c:=by
 unfold B9u at h;split at h
 . rename_i k a k' b;obtain⟨hx,ha⟩:=hx;obtain⟨u,hb⟩:=u;simp only[sM,vK]at hx u;split at h
   . cases h;have a0:¬b<0:=Int.not_lt.2 a1;have hv:∀w',Gw.E7 P E ty (.binOp .shl T x y T') w' (.int k (k.wrap (a*2^(min b.toNat k.bits)))) w':=fun w'=>B5j hx u (by simp[binOp,Op.shift,a0,go_sem])
     exact⟨_,hv,⟨rfl,Oc _ _⟩,fun _=>trivial⟩
   . cases h;have a0:¬b<0:=Int.not_lt.2 a1;have hv:∀w',Gw.E7 P E ty (.binOp .shr T x y T') w' (.int k (a.fdiv (2^(min b.toNat k.bits)))) w':=fun w'=>B5j hx u (by simp[binOp,Op.shift,a0,go_sem])
     exact⟨_,hv,⟨rfl,B1i _ ha⟩,fun _=>trivial⟩
   . cases hk:decide (k=k')with
     |false=>simp[hk]at h
     |true=>
      simp only[hk,qV]at h;have:=qA hk;subst this;obtain⟨v,h1,h2⟩:=A7h (P:=P) (w:=w) (Z:=Z) (B:=B) h a1 ha;exact⟨v,fun w'=>B5j hx u (h1 w' T),h2⟩
 . rename_i a b;have hx:Gw.ev E x= .bool a:=by simpa[RC,C7]using hx
   have u:Gw.ev E y= .bool b:=by simpa[RC,C7]using u
   have hu:P.underlying T=some .bool:=by
    rcases hT with hT|hT
    . exact B2e hT
    . exact absurd rfl (hT a)
   split at h
   . cases h;exact⟨_,fun w'=>C5p hx u hu,rfl,fun _=>trivial⟩
   . cases h;exact⟨_,fun w'=>C5s hx u hu,rfl,fun _=>trivial⟩
   . cases h
 . cases h
end
structure Cx where
 P:Program
 tys:List (Nat×TI)
def Ha {α:Type} (s:Nat):List (Nat×α)->Option α
 | []=>none
 | (t,x)::l=>bif Nat.beq t s then some x else Ha s l
def Cx.ti (cx:Cx) (T:TypeId):Option TI:=Ha T cx.tys
def H6 (P:Program):List (Nat×TI)->Bool
 | []=>true
 | (T,ti)::l=>Vu P T ti&&H6 P l
def C0 {P:Program} :∀ {l:List (Nat×TI)},H6 P l=true->∀ {T:TypeId} {ti:TI},Ha T l=some ti->Vu P T ti=true
 | (T',a0)::l,h,T,ti,u=>by
  simp only[H6,qC]at h;simp only[Ha]at u;cases hb:Nat.beq T' T with
  |true=>simp[hb]at u;have:=qE hb;subst u this;exact h.1
  |false=>simp[hb]at u;exact C0 h.2 u
def c1:SV->Option C
 | ⟨false,[c]⟩=>some c
 | _=>none
def faC (off:Nat):C->Option C
 | .box k o=>some (.box k (o+off))
 | .elp k sz i o=>some (.elp k sz i (o+off))
 | .pf t x o=>some (.pf t x (o+off))
 | _=>none
def cut (off n:Nat) (cs:List C):Option (List C):=(fun s=>bif Nat.beq s.length n then some s else none) ((cs.drop off).take n)
def QA (q:Nat):List (Nat×Nat)->Option Nat
 | []=>none
 | (i,p)::r=>bif Nat.beq p q then some i else QA q r
def B7t (st:St) (k:Nat):Option ((t:Ty)×List t.den):=match st.L k with
 | .row t _ l=>some ⟨t,l⟩
 | .al j=>match st.L j with
  | .rows t _ _ ls al none=>(QA k al).map fun i=>⟨t,ls.getD i []⟩
  | _=>none
 | _=>none
def hdC (st:St) (k:Nat):Option ((t:Ty)×List t.den):=match st.L k with
 | .rows t _ _ ls _ _=>some ⟨.sl t,ls⟩
 | .nest t _ _ ls _ _=>bif Nat.beq t.size 1 then some ⟨t,ls⟩else none
 | _=>B7t st k
def B2t (st:St) (n:Nat):C->Option (List C)
 | .box k off=>match st.L k with
  | .box _ cs=>cut off n cs
  | .sbox q t x=>bif Nat.beq q k then cut off n (explode t x)else none
  | _=>none
 | .pf t x off=>cut off n (explode t x)
 | .elp k sz i off=>match B7t st k with
  |some ⟨t,l⟩=>bif Nat.beq sz t.size then cut off n (explode t (l.getD i t.dflt))else none
  |none=>none
 | _=>none
def gx {α:Type} (d:α) (l:List α) (i:Int):α:=l.getD i.toNat d
def C0m (st:St) (i:Int):C->Option (Option Prop×C)
 | .val (.sl t) l=>some (some (0<=i/\i<(l.length:Int)), .pf t (gx t.dflt l i) 0)
 | .row k=>match hdC st k with
  |some ⟨t,l⟩=>some (some (0<=i/\i<(l.length:Int)), .elp k t.size i.toNat 0)
  |none=>none
 | .win k sz lo hi=>some (some (0<=i/\i<hi-lo), .elp k sz (lo+i).toNat 0)
 | _=>none
def C0s (st:St):C->Option Int
 | .val (.sl _) l=>some (l.length:Int)
 | .row k=>match hdC st k with
  |some ⟨_,l⟩=>some (l.length:Int)
  |none=>none
 | .mp k=>match st.L k with
  | .map _ _ _ _ es=>some (es.length:Int)
  | _=>none
 | .raw (.slice none 0 0)=>some 0
 | .win _ _ lo hi=>some (hi-lo)
 | _=>none
def iH:SV->Option Int
 | ⟨false,[.val (.int _) n]⟩=>some n
 | _=>none
def A3a (st:St) (lo hi:Option Int):C->Option (Option Prop×C)
 | .val (.sl t) l=>some (some (0<=lo.getD 0/\lo.getD 0<=hi.getD (l.length:Int)/\hi.getD (l.length:Int)<=(l.length:Int)), .val (.sl t) ((l.take (hi.getD (l.length:Int)).toNat).drop (lo.getD 0).toNat))
 | .row k=>match st.L k with
  | .row t _ l=>some (some (0<=lo.getD 0/\lo.getD 0<=hi.getD (l.length:Int)/\hi.getD (l.length:Int)<=(l.length:Int)), .win k t.size (lo.getD 0) (hi.getD (l.length:Int)))
  | _=>none
 | _=>none
def B3c:Op->Bool
 | .load _ _=>true
 | .lookup _ _ _ _=>true
 | _=>false
section
variable {za:Zn} {w0 w:World} {Z:Nat->Prop} {B:Nat->Value} {st:St} {E:H0} {P:Program}
def Ye (P:Program) (st:St) (E:H0) (w:World) (Z:Nat->Prop) (B:Nat->Value) (ty:TypeId) (op:Op) (d:DV):Prop:=
 ∃v,(∀w',(B3c op=true->S7 w w')->Gw.E7 P E ty op w' v w')/\(∀E',RD w Z B E' d v)/\KX st.nx d
def Je {ty:TypeId} {op:Op} {c:C} {v:Value} (hy:∀w',(B3c op=true->S7 w w')->Gw.E7 P E ty op w' v w') (u:RC w Z B c v) (hr:Di st.nx c):Ye P st E w Z B ty op (.one ⟨false,[c]⟩):=
 ⟨v,hy,fun _=>⟨v,[],rfl,u,rfl⟩,fun c' hc'=>by simp at hc';subst hc';exact hr⟩
def lJ {s:SV} {c:C} {v:Value} (h:RS w Z B s v) (hr:Mr st.nx s) (u:c1 s=some c):RC w Z B c v/\Di st.nx c:=by
 unfold c1 at u;split at u
 . cases u;obtain⟨_,_,e,h1,_⟩:=h;cases e;exact⟨h1,hr _ (by simp)⟩
 . cases u
def B6t {s:SV} {n:Int} {v:Value} (h:RS w Z B s v) (u:iH s=some n):∃k,v= .int k n/\NU k n:=by
 unfold iH at u;split at u
 . cases u;obtain⟨_,_,e,h1,_⟩:=h;cases e;obtain⟨h1,h2⟩:=h1;simp only[sM,vK]at h1;exact⟨_,h1,h2⟩
 . cases u
def C2s {T ty:TypeId} {x:Operand} {c c':C} {f off:Nat} (hf:NS P T f off=true) (hx:RC w Z B c (Gw.ev E x)) (hr:Di st.nx c) (h:faC off c=some c'):Ye P st E w Z B ty (.fieldAddr T x f) (.one ⟨false,[c']⟩):=by
 unfold faC at h;split at h<;>cases h
 . obtain⟨b,e,hv⟩:=hx;exact Je (fun w' _=>CF hv hf) ⟨b,e,rfl⟩ hr
 . obtain⟨b,m,u,e,hi,hv⟩:=hx;exact Je (fun w' _=>CF hv hf) ⟨b,m,u,e,hi,by rw[uL]⟩ hr
 . obtain⟨b,o,ec,e,hz,hc,hx⟩:=hx;exact Je (fun w' _=>CF e hf) ⟨b,o,ec,by rw[uL],hz,hc,hx⟩ hr
def VE {cs cs':List C} {vs:List Value} {off n:Nat} (h:Ee w Z B cs vs) (u:cut off n cs=some cs'):Ee w Z B cs' ((vs.drop off).take n)/\((vs.drop off).take n).length=n/\∀c∈cs',c∈cs:=by
 unfold cut at u;have h1:=(h.drop off).take n;cases hb:Nat.beq ((cs.drop off).take n).length n with
 |false=>simp only[hb,rG]at u;cases u
 |true=>
  simp only[hb,qV,rE]at u;subst u;exact⟨h1,by rw[<-h1.len];exact qE hb,fun c u=>vE (rV u)⟩
def KE {T ty:TypeId} {x:Operand} {b o:Nat} {cs:List C} {vs:List Value} {agg:Bool} (hv:Gw.ev E x= .pointer (some ⟨b,o,none⟩)) (hb:b<w.heap.size) (hc:J6 w ⟨b,o,none⟩ vs) (hr:Ee w Z B cs vs) (hn:∀c∈cs,Di st.nx c)
 (u:(agg=true/\kO P T vs.length=true)\/(agg=false/\Jq P T=true/\vs.length=1)):Ye P st E w Z B ty (.load T x) (.one ⟨agg,cs⟩):=by
 have hc':∀w',S7 w w'->J6 w' ⟨b,o,none⟩ vs:=fun w' hx j v hj=>by
  have:=hc j v hj;rw[K7]at this⊢;rw[<-this];exact World.cell?_of_block (hx.block b hb)
 rcases u with⟨rfl,u⟩ | ⟨rfl,u,hl⟩
 . exact⟨.agg vs.toArray,fun w' hx=>A3q hv u rfl (hc' w' (hx rfl)),fun _=>⟨vs,rfl,hr⟩,hn⟩
 . match vs,hl with
   | [v],_=>
    refine⟨v,fun w' hx=>A3p hv u ?_,fun _=>hr,hn⟩;have:=hc' w' (hx rfl) 0 v rfl;rwa[K7]at this
def Ro {q i:Nat} :∀ {al:List (Nat×Nat)},QA q al=some i->(i,q)∈al
 | [],h=>by cases h
 | (j,p)::r,h=>by
  simp only[QA]at h;cases hb:Nat.beq p q with
  |true=>simp only[hb,qV,rE]at h;have:=qE hb;subst this;subst h;simp
  |false=>simp only[hb,rG]at h;exact qL _ (Ro h)
def A5v {U:Nat->Prop} {t:Ty} {k e e' i q:Nat} {ls:List (List t.den)} {al:List (Nat×Nat)} (h:RL U w Z B k (.rows t e e' ls al none)) (hq:QA q al=some i):
 ∃xs ys,w.ownsRow 0 e 1 (B k) ls.length xs/\xs[i]? =some (B q)/\ls[i]? =some (ls.getD i [])/\w.ownsRow 0 e' t.size (B q) (ls.getD i []).length ys/\G5 (C7 t w Z) ys (ls.getD i []):=by
 obtain⟨xs,h1,⟨h2,h3,h4⟩,h5,h6⟩:=h;have hx:=h2 _ (Ro hq);have a0:i<ls.length:=by have:=(sG.1 hx).1;have h0:=h1.1;omega
 have u:ls[i]? =some (ls.getD i []):=by rw[qF,qM a0];rfl
 obtain⟨ys,g1,g2⟩:=h3 i _ _ rfl u hx;exact⟨xs,ys,h1,hx,u,g1,g2⟩
def A5t (h:C2 za w0 st E w Z B) {k:Nat} {t:Ty} {l:List t.den} (u:B7t st k=some ⟨t,l⟩):∃e xs,w.ownsRow 0 e t.size (B k) l.length xs/\G5 (C7 t w Z) xs l:=by
 unfold B7t at u;split at u
 . rename_i t' e l' hk;cases u;have hL:=h.locs k;rw[hk]at hL;obtain⟨xs,a1,a0,_⟩:=hL;exact⟨e,xs,a1,a0⟩
 . rename_i j hk;split at u
   . rename_i t' e e' ls al hj;simp only[qN]at u;obtain⟨i,hi,u⟩:=u;cases u;have hL:=h.locs j;rw[hj]at hL;obtain⟨_,ys,_,_,_,g1,g2⟩:=A5v hL hi;exact⟨e',ys,g1,g2⟩
   . cases u
 . cases u
def B1v (h:C2 za w0 st E w Z B) {k:Nat} {t:Ty} {l:List t.den} (hr:hdC st k=some ⟨t,l⟩):∃e xs,w.ownsRow 0 e t.size (B k) l.length xs:=by
 unfold hdC at hr;split at hr
 . rename_i t' e e' ls al ho hk;cases hr;have hL:=h.locs k;rw[hk]at hL;obtain⟨xs,u,_⟩:=hL;exact⟨e,xs,u⟩
 . rename_i t' e e' ls bo dd hk;cases hb:Nat.beq t'.size 1 with
   |false=>simp only[hb,rG]at hr;cases hr
   |true=>
    simp only[hb,qV]at hr;cases hr;have hL:=h.locs k;rw[hk]at hL;obtain⟨xs,hN,_⟩:=hL;exact⟨e,xs,by rw[qE hb];exact hN.own⟩
 . obtain⟨e,xs,u,_⟩:=A5t h hr;exact⟨e,xs,u⟩
def B6y (h:C2 za w0 st E w Z B) {T ty:TypeId} {x:Operand} {c:C} {cs:List C} {n:Nat} {agg:Bool} (hx:RC w Z B c (Gw.ev E x)) (hl:B2t st n c=some cs)
 (ht:(agg=true/\kO P T n=true)\/(agg=false/\Jq P T=true/\n=1)):Ye P st E w Z B ty (.load T x) (.one ⟨agg,cs⟩):=by
 unfold B2t at hl;split at hl
 . rename_i k off;split at hl
   . rename_i af ae hk;have hL:=h.locs k;have hR:=h.refl k;rw[hk]at hL hR;obtain⟨b,vs,e,_,_,a3,a2⟩:=hL;obtain⟨b',e',hv⟩:=hx;rw[e]at e';cases e';obtain⟨h1,h2,h3⟩:=VE a2 hl;have:=S8 a3.cellsAt off n;rw[sP]at this;exact KE hv a3.lt this h1 (fun c hc=>hR c (h3 c hc)) (by rw[h2];exact ht)
   . rename_i q t y hk;cases a6:Nat.beq q k with
     |false=>simp only[a6,rG]at hl;cases hl
     |true=>
      simp only[a6,qV]at hl;have:=qE a6;subst this;have hL:=h.locs q;rw[hk]at hL;obtain⟨_,⟨b,o,ec,e1,hz,hc,a0⟩,_⟩:=hL;simp only[sM,vK]at e1;obtain⟨b',e',hv⟩:=hx;rw[e1]at e';cases e';obtain⟨h1,h2,h3⟩:=VE (U3 (B:=B) a0) hl;have a2:=S8 hc off n;rw[sP]at a2;exact KE hv (h.zlt _ hz) a2 h1 (fun c hc=>E3 c (h3 c hc)) (by rw[h2];exact ht)
   . cases hl
 . rename_i t y off;obtain⟨b,o,ec,hv,hz,hc,a0⟩:=hx;obtain⟨h1,h2,h3⟩:=VE (U3 (B:=B) a0) hl;exact KE hv (h.zlt b hz) (S8 hc off n) h1 (fun c hc=>E3 c (h3 c hc)) (by rw[h2];exact ht)
 . rename_i k sz i off;split at hl
   . rename_i t l hk;cases a7:Nat.beq sz t.size with
     |false=>simp[a7]at hl
     |true=>
      simp only[a7,qV]at hl;have hs:=qE a7;subst hs;obtain⟨e,xs,u,a5⟩:=A5t h hk;obtain⟨b,m,ad,hB,hi,hv⟩:=hx;rw[hB]at u;have hm:m=l.length:=by
       rcases u.2 with⟨hh,_⟩ | ⟨_,_,_,hh,_⟩<;>cases hh
       rfl
      subst hm;have a9:=G5.get (fun _ _ h=>C7.length h) a5 (qM hi);have aa:l.getD i t.dflt=l[i]:=by rw[qF,qM hi];rfl
      rw[aa]at hl;obtain⟨h1,h2,h3⟩:=VE (U3 (B:=B) a9) hl;have a8:=(World.ownsRow.lt u b rfl).2;have a1:J6 w ⟨b,0,none⟩ xs:=fun j v hj=>by
       rcases u.2 with⟨hh,_⟩ | ⟨g,ac,cur,hh,_,hg,_,_,_,ab⟩
       . cases hh
       . cases hh;rw[K7,sP];simp only[World.cell?,hg];rw[<-ab,wM]at hj;split at hj
         . simpa using hj
         . cases hj
      have a4:=S8 (S8 a1 (i*t.size) t.size) off n;rw[sP]at a4;exact KE hv a8 a4 h1 (fun c hc=>E3 c (h3 c hc)) (by rw[h2];exact ht)
   . cases hl
 . cases hl
def G9 {α:Type} {d:α} {l:List α} {i:Int} (h0:0<=i) (h1:i<(l.length:Int)):l[i.toNat]? =some (gx d l i):=by
 have u:i.toNat<l.length:=by omega
 rw[gx,qF,qM u];rfl
def B1z (h:C2 za w0 st E w Z B) {T ty e:TypeId} {x ix:Operand} {c c':C} {i:Int} {φ:Option Prop} {kd:IntKind} (hx:RC w Z B c (Gw.ev E x)) (a3:Gw.ev E ix= .int kd i) (hc:C0m st i c=some (φ,c')) (a5:QH φ)
 (hT:∀s,(∃t y,c'= .pf t y 0/\s=t.size)\/(∃k j,c'= .elp k s j 0)->Ht P T e s=true) (hr:Di st.nx c):Ye P st E w Z B ty (.indexAddr T x ix) (.one ⟨false,[c']⟩):=by
 unfold C0m at hc;split at hc
 . rename_i t l;cases hc;obtain⟨h0,h1⟩:=a5;have a0:=hT t.size (.inl ⟨t,_,rfl,rfl⟩);obtain⟨a,u,he,a9,aa,ab,hh⟩:=hx;simp only[sM,vK]at he;have hg:=G9 (d:=t.dflt) h0 h1;rcases hh with hh| ⟨b,o,ec,ha,hz,a1,a2⟩
   . subst hh;simp at h1;omega
   . subst ha;have a6:=G5.get (fun _ _ h=>C7.length h) a2 hg;refine Je (v:= .pointer (some ⟨b,o+i.toNat*t.size+0,none⟩)) (fun w' _=> ?_) ⟨b,o+i.toNat*t.size,_,rfl,hz,S8 a1 _ t.size,a6⟩ trivial;have:=B5k (P:=P) (w:=w') (ty:=ty) (sz:=t.size) he a3 a0 h0 h1;rwa[K7]at this
 . rename_i k;split at hc
   . rename_i t l hk;cases hc;obtain⟨h0,h1⟩:=a5;have a0:=hT t.size (.inr ⟨_,_,rfl⟩);obtain⟨e',xs,a7⟩:=B1v h hk;rcases a7.2 with⟨_,hn⟩ | ⟨g,u,cur,hB,_⟩
     . rw[hn]at h1;omega
     . have a4:Gw.ev E x= .slice (some ⟨g,0,none⟩) l.length u:=(show Gw.ev E x=B k from hx).trans hB;refine Je (v:= .pointer (some ⟨g,i.toNat*t.size+0,none⟩)) (fun w' _=> ?_) ⟨g,l.length,u,hB,by omega,rfl⟩ hr;have:=B5k (P:=P) (w:=w') (ty:=ty) (sz:=t.size) a4 a3 a0 h0 h1;rwa[K7,sP]at this
   . cases hc
 . rename_i k sz lo hi;cases hc;obtain⟨h0,h1⟩:=a5;have a0:=hT sz (.inr ⟨_,_,rfl⟩);obtain⟨a,n,u,hB,ga,gn,g0,g1,g2,g3,g4,hv⟩:=hx;have a8:¬u=lo.toNat:=by omega
   rw[qO a8]at hv;obtain⟨g,rfl⟩:∃g,a=some ⟨g,0,none⟩:=by
    cases a with
    |none=>have:=gn rfl;omega
    |some x=>obtain⟨g,rfl⟩:=ga x rfl;exact⟨g,rfl⟩
   have a4:Gw.ev E x= .slice (some ⟨g,lo.toNat*sz,none⟩) (hi.toNat-lo.toNat) (u-lo.toNat):=by
    rw[hv,vS,K7,sP]
   refine Je (v:= .pointer (some ⟨g,(lo+i).toNat*sz+0,none⟩)) (fun w' _=> ?_) ⟨g,n,u,hB,by omega,rfl⟩ hr;have:=B5k (P:=P) (w:=w') (ty:=ty) (sz:=sz) a4 a3 a0 h0 (by omega);rw[K7]at this;rw[show(lo+i).toNat*sz+0=lo.toNat*sz+i.toNat*sz by rw[<-uQ,show(lo+i).toNat=lo.toNat+i.toNat by omega,tD]];exact this
 . cases hc
def C0t (h:C2 za w0 st E w Z B) {T ty e:TypeId} {s:Nat} {x:Operand} {c:C} {n:Int} (hx:RC w Z B c (Gw.ev E x)) (hn:C0s st c=some n) (ht:Ht P T e s=true) (a3:∀k,c≠ .mp k):
 Ye P st E w Z B ty (.call ⟨.builtin .len, #[x], #[T]⟩) (.one ⟨false,[.val (.int .i64) n]⟩):=by
 have mk:∀(a:Option Addr) (m u:Nat),Gw.ev E x= .slice a m u->m<=maxLen->Ye P st E w Z B ty (.call ⟨.builtin .len, #[x], #[T]⟩) (.one ⟨false,[.val (.int .i64) (m:Int)]⟩):=fun a m u hv hm=>
  Je (fun w' _=>C5q hv ht) ⟨rfl,by
   unfold NU;have h1:i64.min= -9223372036854775808:=by decide
   have h2:i64.max=9223372036854775807:=by decide
   simp only[maxLen]at hm;omega⟩ trivial
 unfold C0s at hn;split at hn
 . cases hn;obtain⟨a,u,he,a0,a2,_⟩:=hx;simp only[sM,vK]at he;exact mk a _ u he (rA a0 a2)
 . rename_i k;split at hn
   . rename_i t l hk;cases hn;obtain⟨e',xs,a1⟩:=B1v h hk;have hx:Gw.ev E x=B k:=hx;rcases a1.2 with⟨hv,hn⟩ | ⟨g,u,cur,hB,_,_,h3,h4,_⟩
     . rw[hn];exact mk none 0 0 (hx.trans hv) (rP _)
     . exact mk _ _ u (hx.trans hB) (rA h3 h4)
   . cases hn
 . exact absurd rfl (a3 _)
 . cases hn;exact mk none 0 0 (show _= _ from hx.1) (rP _)
 . rename_i k sz lo hi;cases hn;obtain⟨a,n,u,hB,ga,gn,g0,g1,g2,g3,g4,hv⟩:=hx;have:=mk _ _ _ hv (by omega);rwa[show((hi.toNat-lo.toNat:Nat):Int)=hi-lo by omega]at this
 . cases hn
end
section
variable {za:Zn} {w0 w:World} {Z:Nat->Prop} {B:Nat->Value} {st:St} {E:H0} {P:Program}
def A6b {T e ty:TypeId} {x:Operand} {lo hi:Option Operand} {a:Option Addr} {len u size l h:Nat} (hx:Gw.ev E x= .slice a len u) (ht:Ht P T e size=true)
 (a0:match lo with|none=>l=0|some o=>∃k,Gw.ev E o= .int k (l:Int)) (hhi:match hi with|none=>h=len|some o=>∃k,Gw.ev E o= .int k (h:Int)) (hlh:l<=h) (hhc:h<=u) (w:World):
 Gw.E7 P E ty (.slice T x lo hi none) w (.slice (if u=l then a else a.map (·.add (l*size))) (h-l) (u-l)) w:=fun _ _ _ _=>by
 obtain⟨hu,hz⟩:=Kf ht;have h3:=Gw.Gb (P:=P) (w:=w) hz;have b1:(l:Int)<=(h:Int):=by omega
 have b2:(h:Int)<=(u:Int):=by omega
 have hb:(Instr.sliceBounds true len u (lo.map (Gw.ev E)) (hi.map (Gw.ev E)) none).run P w= .ok (l,h,u) w:=by
  unfold Instr.sliceBounds;cases hi with
  |none=>
   simp only at hhi;subst hhi;cases lo with
   |none=>simp only at a0;subst a0;simp[go_sem]
   |some o=>obtain⟨k,ho⟩:=a0;simp[Instr.sliceBound,asIntOf,ho,b1,hlh,go_sem]
  |some o'=>
   obtain⟨k',a1⟩:=hhi;cases lo with
   |none=>simp only at a0;subst a0;simp[Instr.sliceBound,asIntOf,a1,b2,hhc,go_sem]
   |some o=>obtain⟨k,ho⟩:=a0;simp[Instr.sliceBound,asIntOf,ho,a1,b1,b2,hlh,hhc,go_sem]
 simp only[execOp,hx];unfold Instr.sliceAt Instr.slice;simp only[Sem.run_bind,run_underlying hu,Result.andThen_ok,Option.map_none,hb,h3,Sem.run_pure]
def A9y (E:H0):Option Operand->Option Int->Prop
 |none,i=>i=none
 |some o,i=>∃k j,i=some j/\Gw.ev E o= .int k j
def A5p {t:Ty} {a:Option Addr} {n a0:Nat} {l:List t.den} {L H:Int} (h:C7 (.sl t) w Z [.slice a n a0] l) (h0:0<=L) (h1:L<=H) (h2:H<=(n:Int)):
 C7 (.sl t) w Z [.slice (if a0=L.toNat then a else a.map (·.add (L.toNat*t.size))) (H.toNat-L.toNat) (a0-L.toNat)] ((l.take H.toNat).drop L.toNat):=by
 obtain⟨a',a6,he,a7,a9,a4,hh⟩:=h;simp only[sM,vK,Value.slice.injEq]at he;obtain⟨rfl,rfl,rfl⟩:=he;have a2:((l.take H.toNat).drop L.toNat).length=H.toNat-L.toNat:=by simp;omega
 refine⟨_,_,by rw[a2],by rw[a2];omega,by omega,fun hz=> ?_, ?_⟩
 . split at hz
   . omega
   . have:=a4 (by simpa using hz);omega
 by_cases a8:H.toNat=L.toNat
 . left;exact qQ (by rw[a2];omega)
 . right;rcases hh with hh| ⟨b,o,ec,ha,hz,u,a1⟩
   . subst hh;simp at h2;omega
   . subst ha;have e1:=G5.drop (fun _ _ h=>C7.length h) L.toNat (G5.take (fun _ _ h=>C7.length h) H.toNat a1);refine⟨b,o+L.toNat*t.size,(ec.take (H.toNat*t.size)).drop (L.toNat*t.size), ?_,hz, ?_,e1⟩
     . rw[qO (by omega),vS,K7]
     . have a3:=S8 u 0 (H.toNat*t.size);rw[tX,tD]at a3;have a5:=S8 a3 (L.toNat*t.size) ((ec.take (H.toNat*t.size)).drop (L.toNat*t.size)).length;rwa[tT]at a5
def pC (h:C2 za w0 st E w Z B) {T ty e:TypeId} {x:Operand} {lo hi:Option Operand} {a1 a0:Option Int} {c c':C} {φ:Option Prop} (hx:RC w Z B c (Gw.ev E x)) (hc:A3a st a1 a0 c=some (φ,c')) (hr:Di st.nx c) (ac:QH φ)
 (a6:A9y E lo a1) (a5:A9y E hi a0)
 (ht:∀s,(∃t y,c'= .val (.sl t) y/\s=t.size)\/(∃k lo hi,c'= .win k s lo hi)->Ht P T e s=true):Ye P st E w Z B ty (.slice T x lo hi none) (.one ⟨false,[c']⟩):=by
 unfold A3a at hc;split at hc
 . rename_i t l;cases hc;have a9:=ht t.size (.inl ⟨t,_,rfl,rfl⟩);obtain⟨h0,h1,h2⟩:=ac;obtain⟨a,u,he,ai,ak,ag,hh⟩:=hx;simp only[sM,vK]at he;generalize hL:a1.getD 0=L at*;generalize hH:a0.getD (l.length:Int)=H at*;have a8:((l.take H.toNat).drop L.toNat).length=H.toNat-L.toNat:=by simp;omega
   refine Je (fun w' _=>A6b (l:=L.toNat) (h:=H.toNat) he a9 ?_ ?_ (by omega) (by omega) w') ?_ trivial
   . cases lo with
     |none=>rw[show a1=none from a6]at hL;simp at hL;simp only;omega
     |some o=>obtain⟨k,i,e1,e2⟩:=a6;subst e1;simp at hL;subst hL;exact⟨k,by rw[e2];congr 1;omega⟩
   . cases hi with
     |none=>rw[show a0=none from a5]at hH;simp at hH;simp only;omega
     |some o=>obtain⟨k,i,e1,e2⟩:=a5;subst e1;simp at hH;subst hH;exact⟨k,by rw[e2];congr 1;omega⟩
   . refine⟨_,_,by rw[a8],by rw[a8];omega,by omega,fun hz=> ?_, ?_⟩
     . split at hz
       . omega
       . have:=ag (by simpa using hz);omega
     by_cases aj:H.toNat=L.toNat
     . left;exact qQ (by rw[a8];omega)
     . right;rcases hh with hh| ⟨b,o,ec,ha,hz,a4,a7⟩
       . subst hh;simp at h2;omega
       . subst ha;have e1:=G5.drop (fun _ _ h=>C7.length h) L.toNat (G5.take (fun _ _ h=>C7.length h) H.toNat a7);refine⟨b,o+L.toNat*t.size,(ec.take (H.toNat*t.size)).drop (L.toNat*t.size), ?_,hz, ?_,e1⟩
         . rw[qO (by omega),vS,K7]
         . have ab:=S8 a4 0 (H.toNat*t.size);rw[tX,tD]at ab;have ah:=S8 ab (L.toNat*t.size) ((ec.take (H.toNat*t.size)).drop (L.toNat*t.size)).length;rwa[tT]at ah
 . rename_i k;split at hc
   . rename_i t e' l hk;cases hc;have a9:=ht t.size (.inr ⟨_,_,_,rfl⟩);obtain⟨h0,h1,h2⟩:=ac;have hL:=h.locs k;rw[hk]at hL;obtain⟨xs,aa,_,_⟩:=hL;have ad:Gw.ev E x=B k:=hx;generalize a3:a1.getD 0=L at*;generalize a2:a0.getD (l.length:Int)=H at*;obtain⟨a,u,hB,ga,gn,gc,gm⟩:∃a u,B k= .slice a l.length u/\(∀x,a=some x->∃g,x=⟨g,0,none⟩)/\(a=none->u=0)/\l.length<=u/\u<=maxLen:=by
      rcases aa.2 with⟨hv,hn⟩ | ⟨g,u,cur,hv,_,_,af,ae,_⟩
      . exact⟨none,0,by rw[hv,hn],fun x hx=>(by cases hx),fun _=>rfl,by omega,rP _⟩
      . exact⟨some ⟨g,0,none⟩,u,hv,fun x hx=>⟨g,by cases hx;rfl⟩,fun hx=>(by cases hx),af,ae⟩
     refine Je (fun w' _=>A6b (l:=L.toNat) (h:=H.toNat) (ad.trans hB) a9 ?_ ?_ (by omega) (by omega) w') ⟨a,l.length,u,hB,ga,gn,h0,h1,h2,gc,gm,rfl⟩ hr
     . cases lo with
       |none=>rw[show a1=none from a6]at a3;simp at a3;simp only;omega
       |some o=>obtain⟨k,i,e1,e2⟩:=a6;subst e1;simp at a3;subst a3;exact⟨k,by rw[e2];congr 1;omega⟩
     . cases hi with
       |none=>rw[show a0=none from a5]at a2;simp at a2;simp only;omega
       |some o=>obtain⟨k,i,e1,e2⟩:=a5;subst e1;simp at a2;subst a2;exact⟨k,by rw[e2];congr 1;omega⟩
   . cases hc
 . cases hc
def B6u (P:Program) (T:TypeId) (k:IntKind):Bool:=match P.underlying T with|some (.int k')=>decide (k=k') | _=>false
def dJ {T:TypeId} {k:IntKind} (h:B6u P T k=true):P.underlying T=some (.int k):=by
 unfold B6u at h;split at h
 . rename_i k' u;have:=qA h;subst this;exact u
 . cases h
def B6b {T T' ty:TypeId} {x:Operand} {k k':IntKind} {a:Int} (hx:RC w Z B (.val (.int k) a) (Gw.ev E x)) (h1:∃d,P.underlying T=some d) (u:B6u P T' k'=true):Ye P st E w Z B ty (.convert T T' x) (.one ⟨false,[.val (.int k') (k'.wrap a)]⟩):=by
 obtain⟨hx,_⟩:=hx;simp only[sM,vK]at hx;obtain⟨d,hd⟩:=h1;have hu:=dJ u;refine Je (v:= .int k' (k'.wrap a)) (fun w' _=> ?_) ⟨rfl,Oc _ _⟩ trivial;intro _ _ _ _;simp[execOp,convert,hx,run_underlying hd,run_underlying hu,Conv.intToInt,go_sem]
def unC (op:UnOp):C->Option C
 | .val .bool b=>match op with
  | .not=>some (.val .bool (!b))
  | _=>none
 | .val (.int k) a=>match op with
  | .neg=>some (.val (.int k) (k.wrap (-a)))
  | .xor=>some (.val (.int k) (k.wrap (BitVec.ofInt k.bits (if k.signed then -1 else k.max)^^^BitVec.ofInt k.bits a).toNat))
  | _=>none
 | _=>none
def C5k {op:UnOp} {T ty:TypeId} {x:Operand} {c c':C} (hx:RC w Z B c (Gw.ev E x)) (h:unC op c=some c'):Ye P st E w Z B ty (.unOp op T x) (.one ⟨false,[c']⟩):=by
 unfold unC at h;split at h
 . split at h
   . cases h;rename_i b _;have hx:Gw.ev E x= .bool b:=by simpa[RC,C7]using hx
     exact Je (fun w' _=>C5u hx) rfl trivial
   . cases h
 . obtain⟨hx,_⟩:=hx;simp only[sM,vK]at hx;split at h
   . cases h;exact Je (fun w' _=>C5t hx) ⟨rfl,Oc _ _⟩ trivial
   . cases h;refine Je (v:= .int _ _) (fun w' _ _ _ _ _=>by simp[execOp,hx,Op.unary,Op.intBits,go_sem]) ⟨rfl,Oc _ _⟩ trivial
   . cases h
 . cases h
def Yz (place:Nat->Option (Nat×Nat)):List C->List (Nat×List C)->Option (List C)
 |cs,[]=>some cs
 |cs,(i,u)::r=>match place i with
  |none=>none
  |some (off,sz)=>bif Nat.beq u.length sz&&Nat.ble (off+sz) cs.length then Yz place (cs.take off++u++cs.drop (off+sz)) r else none
def Fv:C->Bool
 | .dead=>false
 | _=>true
def C7.one1 {t:Ty} {v:Value} {x:t.den} (h:C7 t w Z [v] x):v.oneCell'=true:=C7.oneCell h v (by simp)
def RC.one (h:C2 za w0 st E w Z B) {c:C} {v:Value} (hd:Fv c=true) (u:RC w Z B c v):v.oneCell'=true:=by
 cases c with
 |val t x=>exact C7.one1 u
 |row k=>rw[show v= _ from u];exact h.bone k
 |box k off=>obtain⟨b,_,e⟩:=u;rw[e];rfl
 |elp k sz i off=>obtain⟨b,_,_,_,_,e⟩:=u;rw[e];rfl
 |win k sz lo hi=>obtain⟨_,_,_,_,_,_,_,_,_,_,_,e⟩:=u;rw[e];rfl
 |pf t x off=>obtain⟨b,_,_,e,_⟩:=u;rw[e];rfl
 |mp k=>rw[show v= _ from u];exact h.bone k
 |fn f caps=>rw[show v= _ from u];rfl
 |fv _ _ _ _ _ _=>obtain⟨_,_,e,_⟩:=u;rw[e];rfl
 |raw v0=>rw[u.1];exact u.2
 |dead=>cases hd
end
end Go.Vc
