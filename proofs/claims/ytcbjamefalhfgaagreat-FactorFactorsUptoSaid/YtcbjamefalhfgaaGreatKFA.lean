/- Part. -/
import Derived.Orders
import Derived.OrdersHeld
import Derived.Below
import Derived.KernelRfl
import Derived.Deep.LoopGhost
import Derived.WalkKit
import Derived.OwnWalk
import Derived.Maps.RangeRun
import Derived.DeepKeys3
import Derived.Laws.Strings
set_option linter.all false
namespace Go
theorem ω {p:Prop} (h:p:=by omega):p:=h
theorem δ {p:Prop} (h:p:=by decide):p:=h
def qA:=@of_decide_eq_true
def qB:=@of_decide_eq_false
def qC:=@Bool.and_eq_true
def qD:=@Nat.eq_of_beq_eq_true
def qE:=@List.getD_eq_getElem?_getD
def qF:=@Int.natCast_nonneg
def qG:=@if_neg
def qH:=@Int.le_refl
def qI:=@Option.bind_eq_bind
def qJ:=@List.mem_cons_of_mem
def qK:=@if_pos
def qL:=@Option.map_eq_some_iff
def qM:=@Decidable.byContradiction
def qN:=@Int.toNat_natCast
def qO:=@List.mem_singleton
def qP:=@List.length_set
def qQ:=@List.getElem?_eq_getElem
def qR:=@List.eq_nil_of_length_eq_zero
def qS:=@Nat.le_of_ble_eq_true
def qT:=@Nat.le_refl
def qU:=@List.take_of_length_le
def qV:=@List.mem_cons
def qW:=@cond_true
def qX:=@decide_eq_false
def qY:=@Nat.le_trans
def qZ:=@List.mem_append
def rA:=@List.length_take
def rB:=@decide_eq_true
def rC:=@List.length_singleton
def rD:=@List.mem_cons_self
def rE:=@Bool.or_eq_false_iff
def rF:=@Option.some.injEq
def rG:=@Nat.mul_le_mul_right
def rH:=@List.length_cons
def rI:=@Nat.lt_of_lt_of_le
def rJ:=@cond_false
def rK:=@Rat.add_zero
def rL:=@List.length_replicate
def rM:=@decide_eq_false_iff_not
def rN:=@Nat.lt_succ_self
def rO:=@Bool.not_eq_true'
def rP:=@List.take_add_one
def rQ:=@Nat.zero_le
def rR:=@decide_eq_true_eq
def rS:=@List.length_append
def rT:=@List.map_cons
def rU:=@List.mem_of_mem_take
def rV:=@Rat.zero_mul
def rW:=@List.getElem?_eq_none
def rX:=@Array.getElem?_eq_some_iff
def rY:=@Nat.pow_le_pow_right
def rZ:=@Nat.zero_add
def sA:=@congrArg
def sB:=@Nat.mul_le_mul_left
def sC:=@List.getElem?_take_of_lt
def sD:=@Nat.pow_succ
def sE:=@Array.length_toList
def sF:=@List.drop_of_length_le
def sG:=@Int.ofNat_lt
def sH:=@Nat.mul_comm
def sI:=@Nat.lt_or_ge
def sJ:=@List.mem_append_left
def sK:=@Nat.mul_assoc
def sL:=@List.getElem?_set_self
def sM:=@Rat.mul_zero
def sN:=@List.cons.injEq
def sO:=@List.length_map
def sP:=@Int.fdiv_eq_ediv_of_nonneg
def sQ:=@Int.mul_le_mul_of_nonneg_right
def sR:=@Rat.zero_add
def sS:=@List.nodup_cons
def sU:=@List.getElem?_eq_some_iff
def sV:=@List.mem_map
def sW:=@List.length_drop
def sX:=@List.getElem?_set_ne
def sY:=@List.mem_of_getElem?
def sZ:=@Nat.mul_add
def tA:=@Decidable.not_not
def tC:=@List.pairwise_iff_getElem
def tD:=@Nat.add_zero
def tF:=@Int.toNat_of_nonneg
def tG:=@List.pairwise_append
def tH:=@Nat.pos_of_ne_zero
def tI:=@List.all_eq_true
def tJ:=@Nat.min_eq_left
def tK:=@Rat.sub_eq_add_neg
def tL:=@List.nodup_append
def tN:=@List.mem_append_right
def tO:=@Array.getElem?_setIfInBounds
def tP:=@List.all_cons
def tS:=@Rat.div_def
def tT:=@Nat.lt_irrefl
def tU:=@Rat.mul_assoc
def tV:=@Int.mul_nonneg
def tW:=@List.getElem?_append_right
def tX:=@Nat.not_lt_zero
def tY:=@Nat.pow_pos
def tZ:=@Nat.succ_mul
def uA:=@Nat.div_lt_iff_lt_mul
def uB:=@Rat.one_mul
def uC:=@Nat.mod_eq_of_lt
def uD:=@Bool.or_eq_true
def uE:=@Nat.ne_of_lt
def uF:=@Array.toArray_toList
def uG:=@Int.mul_le_mul_of_nonneg_left
def uH:=@List.drop_zero
def uI:=@Nat.le_succ
def uJ:=@Rat.mul_one
def uK:=@Int.sign_eq_one_of_pos
def uL:=@Nat.ne_of_beq_eq_false
def uM:=@Nat.add_assoc
def uN:=@Nat.pow_add
def uO:=@Nat.div_eq_of_lt
def uP:=@List.append_assoc
def uQ:=@Nat.lt_succ_of_lt
def uR:=@Int.natAbs_natCast
def uS:=@Int.tmod_eq_emod_of_nonneg
def uT:=@List.take_append_drop
def uU:=@Int.eq_ofNat_of_zero_le
def uV:=@List.getElem?_cons_succ
def uW:=@List.getElem?_replicate
def uX:=@List.length_pos_iff
def uY:=@Int.natCast_mul
def uZ:=@List.map_append
def vA:=@Nat.add_mul
def vB:=@Nat.mul_le_mul
def vC:=@Bool.false_or
def vD:=@Int.dvd_mul_of_dvd_right
def vE:=@beq_eq_false_iff_ne
def vF:=@Int.natAbs_mul
def vG:=@List.take_length
def vH:=@List.getElem?_map
def vJ:=@List.mem_iff_getElem
def vK:=@Array.getElem?_eq_getElem
def vL:=@List.getElem?_append_left
def vM:=@Option.isNone_iff_eq_none
def vN:=@Nat.eq_zero_or_pos
def vO:=@Nat.le_div_iff_mul_le
def vP:=@List.mem_of_mem_drop
def vQ:=@Rat.mul_inv_cancel
def vR:=@and_true
def vS:=@Nat.add_comm
def vT:=@Nat.div_div_eq_div_mul
def vV:=@Nat.le_of_lt
def vW:=@Option.getD_some
def vX:=@List.drop_eq_getElem_cons
def vY:=@List.mem_map_of_mem
def vZ:=@if_true
def wA:=@List.drop_drop
def wB:=@List.append_nil
def wC:=@Bool.false_eq_true
def wD:=@List.getElem?_take
def wE:=@List.getElem_mem
def wF:=@Nat.mul_one
def wG:=@Option.bind_some
def wH:=@decide_eq_decide
def wI:=@Bool.true_and
def wJ:=@Int.sign_eq_neg_one_of_neg
def wK:=@List.pairwise_map
def wL:=@Nat.mod_lt
def wM:=@Rat.neg_zero
def wN:=@List.getElem?_range
def wO:=@Int.natCast_add
def wP:=@List.nil_append
def wQ:=@Option.map_some
def wR:=@Array.getElem?_toList
def wS:=@Bool.and_eq_false_iff
def wT:=@List.not_mem_nil
def wU:=@Rat.inv_mul_cancel
def wV:=@Nat.mul_zero
def wW:=@Rat.mul_comm
def wX:=@List.Perm.refl
def wY:=@List.mapM_cons
def wZ:=@List.pairwise_singleton
def xA:=@Nat.le_succ_of_le
def xB:=@Nat.div_add_mod
def xC:=@Nat.div_le_self
def xD:=@Option.some.inj
def xE:=@Rat.mul_eq_zero
def xF:=@Int.le_of_lt
def xG:=@Nat.gcd_comm
def xH:=@Nat.mul_lt_mul_of_pos_right
def xI:=@Nat.one_mul
def xJ:=@List.any_eq_true
def xK:=@List.getElem_inj
def xL:=@List.getElem?_drop
def xM:=@List.mem_range
def xN:=@Nat.lt_of_le_of_lt
def xO:=@Nat.lt_of_mul_lt_mul_right
def xP:=@Rat.num_divInt_den
def xQ:=@Int.natAbs_ediv_le_natAbs
def xR:=@Int.sign_eq_zero_iff_zero
def xS:=@Int.natCast_pow
def xT:=@List.ext_getElem?
def xU:=@List.getElem?_set
def xV:=@Nat.add_le_add_right
def xW:=@Nat.zero_mul
def xX:=@Int.mul_ediv_cancel_left
def xY:=@Nat.lt_succ_iff_lt_or_eq
def xZ:=@Rat.add_assoc
def yA:=@Iff.rfl
def yB:=@Int.natAbs_neg
def yC:=@List.cons_append
def yD:=@List.nodup_nil
def yE:=@Nat.mul_div_cancel_left
def yF:=@if_false
def yG:=@BitVec.toNat_ofInt
def yH:=@Int.ofNat_dvd_left
def yI:=@Nat.beq_refl
def yJ:=@Nat.sub_self
def yK:=@Rat.add_comm
def yL:=@List.length_nil
def yM:=@Rat.num_eq_zero
def yN:=@Bool.not_true
def yO:=@List.any_cons
def yP:=@Int.mul_ediv_add_emod
def yQ:=@List.getElem?_toArray
def yR:=@Nat.add_mul_div_right
def yS:=@Array.getD_eq_getD_getElem?
def yT:=@List.flatMap_cons
def yU:=@List.idxOf_lt_length_of_mem
def yV:=@Nat.gcd_dvd_right
def yW:=@Bool.false_and
def yX:=@Int.tdiv_eq_ediv_of_nonneg
def yY:=@Nat.pow_mul
def yZ:=@Rat.mkRat_zero
def zA:=@Array.toList_inj
def zB:=@Rat.mkRat_eq_div
def zC:=@Array.mapM_eq_mapM_toList
def zD:=@Int.mul_neg_of_pos_of_neg
def zE:=@Nat.add_mul_mod_self_left
def zF:=@List.drop_set_of_lt
def zG:=@List.take_set_of_le
def zH:=@List.toList_toArray
def zI:=@Nat.div_mul_le_self
def zJ:=@Array.getElem?_replicate
def zK:=@Array.setIfInBounds_comm
def zL:=@Int.ediv_nonpos_of_nonneg_of_nonpos
def zM:=@List.length_erase_of_mem
def zN:=@Option.isSome_iff_exists
def zO:=@Int.tmod_nonneg
def zP:=@List.drop_left'
def zQ:=@List.mem_filter
def zR:=@Nat.mul_ne_zero
def zS:=@Rat.intCast_mul
def zT:=@Int.emod_lt_of_pos
def zU:=@Int.mul_nonneg_of_nonpos_of_nonpos
def zV:=@List.mem_replicate
def zW:=@List.pairwise_cons
def zX:=@Nat.mul_right_comm
def zY:=@Option.toList_some
def zZ:=@List.findIdx?_eq_some_iff_getElem
def g0a:=@Int.gcd_dvd_right
def g0b:=@Int.lt_trichotomy
def g0c:=@Int.natAbs_add_le
def g0d:=@List.any_eq_false
def g0e:=@List.length_pos_of_mem
def g0f:=@List.length_range
def g0g:=@List.size_toArray
def g0h:=@List.take_zero
def g0i:=@Nat.mul_left_comm
def g0j:=@Nat.pow_zero
def g0k:=@Nat.mul_div_mul_right
def g0l:=@Int.gcd_dvd_left
def g0m:=@List.isEmpty_iff
def g0n:=@List.take_append
def g0o:=@Rat.divInt_ofNat
def g0p:=@Prod.mk.injEq
def g0q:=@List.mem_erase_of_ne
def g0r:=@Nat.pow_lt_pow_right
def g0s:=@Nat.shiftLeft_add_eq_or_of_lt
def g0t:=@Int.ediv_nonneg
def g0u:=@List.take_left'
def g0v:=@Array.toList_filter
def g0w:=@Array.toList_modify
def g0x:=@List.filter_eq_self
def g0y:=@List.getElem_of_mem
def g0z:=@List.mergeSort_perm
def g1a:=@Rat.mkRat_mul_mkRat
def g1b:=@Bool.true_or
def g1c:=@List.map_nil
def g1d:=@decide_false
def g1e:=@getElem!_pos
def g1f:=@Bool.not_eq_false'
def g1g:=@Bool.not_false
def g1h:=@Int.natAbs_sign_of_ne_zero
def g1i:=@List.Pairwise.imp₂
def g1j:=@List.Pairwise.take
def g1k:=@List.drop_take
def g1l:=@List.getElem_idxOf
def g1m:=@List.take_take
def g1n:=@Nat.gcd_zero_right
def g1o:=@Rat.mkRat_self
def g1p:=@beq_iff_eq
def g1q:=@or_false
def g1r:=@List.findIdx?_eq_none_iff
def g1s:=@List.mem_or_eq_of_mem_set
def g1t:=@Array.toList_push
def g1u:=@List.getElem_take
def g1v:=@Nat.lt_trichotomy
def g1w:=@Int.ofNat.inj
def g1x:=@Nat.gcd_pos_of_pos_right
def g1y:=@Nat.le_of_dvd
def g1z:=@Array.toList_map
def g2a:=@Classical.axiomOfChoice
def g2b:=@List.ext_getElem
def g2c:=@List.filter_cons
def g2d:=@List.getElem?_cons_zero
def g2e:=@List.zipIdx_cons
def g2f:=@Nat.add_sub_cancel_left
def g2g:=@Nat.gcd_pos_of_pos_left
def g2h:=@Nat.le_mul_of_pos_right
def g2i:=@Nat.le_of_not_lt
def g2j:=@Option.bind_eq_some_iff
def g2k:=@Option.bind_none
def g2l:=@Option.getD_none
def g2m:=@Array.getElem?_eq_none
def g2n:=@Bool.or_true
def g2o:=@Int.ediv_lt_iff_lt_mul
def g2p:=@Int.le_ediv_iff_mul_le
def g2q:=@Int.le_trans
def g2r:=@Int.mul_comm
def g2s:=@List.length_eq_one_iff
def g2t:=@Nat.sub_zero
def g2u:=@Int.emod_nonneg
def g2v:=@List.range_succ
def g2w:=@Nat.le_add_left
def g2x:=@Nat.le_max_left
def g2y:=@Nat.min_le_left
def g2z:=@Nat.mul_add_div
def g3a:=@Nat.mul_add_mod
def g3b:=@Rat.den_intCast
def g3c:=@Rat.natCast_mul
def g3d:=@Rat.num_intCast
def g3e:=@and_congr_right
def g3f:=@Array.getElem?_modify
def g3g:=@List.Perm.append_left
def g3h:=@List.set_append_right
def g3i:=@Rat.divInt_mul_divInt
def g3j:=@Array.toList_extract
def g3k:=@Decidable.of_not_not
def g3l:=@Int.dvd_add
def g3m:=@Int.ediv_emod_unique
def g3n:=@List.drop_left
def g3o:=@List.range_eq_range'
def g3p:=@List.take_left
def g3q:=@Nat.add_le_add
def g3r:=@Nat.add_mul_div_left
def g3s:=@Nat.div_one
def g3t:=@Nat.gcd_rec
def g3u:=@Nat.mul_pos
def g3v:=@Rat.add_mul
def g3w:=@Rat.den_pos
def g3x:=@Rat.neg_den
def g3y:=@Rat.neg_num
def g3z:=@decide_true
def g4a:=@or_congr
def g4b:=@Int.natCast_eq_zero
def g4c:=@Int.neg_ediv_of_dvd
def g4d:=@List.map_congr_left
def g4e:=@Nat.pos_iff_ne_zero
def g4f:=@Bool.and_true
def g4g:=@Bool.or_false
def g4h:=@Int.toNat_mul
def g4i:=@List.cons.inj
def g4j:=@List.sum_cons
def g4k:=@ne_eq
def g4l:=@Array.foldl_toList
def g4m:=@Int.lt_or_eq_of_le
def g4n:=@Int.lt_or_gt_of_ne
def g4o:=@List.set_cons_succ
def g4p:=@Nat.lt_of_le_of_ne
def g4q:=@Nat.lt_or_eq_of_le
def g4r:=@Nat.lt_or_gt_of_ne
def g4s:=@Nat.mul_div_cancel
def g4t:=@Rat.add_neg_cancel
def g4u:=@decide_eq_true_iff
def g4v:=@Decidable.em
def g4w:=@Int.le_total
def g4x:=@Int.lt_or_le
def g4y:=@Int.sign_mul
def g4z:=@List.map_map
def g5a:=@List.set_set
def g5b:=@Nat.le_of_eq
def g5c:=@Nat.le_of_lt_succ
def g5d:=@Nat.zero_div
def g5e:=@Int.natCast_ediv
def g5f:=@List.drop_append
def g5g:=@List.getElem_set
def g5h:=@List.range'_succ
def g5i:=@Nat.gcd_dvd_left
def g5j:=@Nat.le_add_right
def g5k:=@Nat.le_max_right
def g5l:=@Nat.shiftLeft_eq
def g5m:=@not_or
def g5n:=@Nat.le_zero
def g5o:=@Nat.mod_one
def g5p:=@Rat.mul_add
def g5q:=@Rat.neg_mul
def g5r:=@and_congr
def g5s:=@not_congr
end Go
namespace Go.Gw
open Go Go.RowKit
open Go.IntKind (i64)
abbrev H5:=Nat->Value
def upd (E:H5) (d:Nat) (v:Value):H5:=λt=>bif Nat.beq t d then v else E t
def bX (E:H5):Option Tmp->Value->H5
 |some d,v=>upd E d v
 |none,_=>E
def ev (E:H5):Operand->Value
 | .tmp t=>E t
 | .const v=>v
 | .global g=> .pointer (some ⟨g,0,none⟩)
 | .func f=> .func (.func f) #[] #[]
def F1 {t d:Nat} (h:t≠d):Nat.beq t d=false:=by
 cases a:Nat.beq t d with
 |false=>rfl
 |true=>exact absurd (qD a) h
def C2 (E:H5) (d:Nat) (v:Value):upd E d v d=v:=by simp[upd]
def C5 (E:H5) (d t:Nat) (v:Value) (h:t≠d):upd E d v t=E t:=by
 have:Nat.beq t d=false:=F1 h;simp[upd,this]
structure C9 (n:Nat) (a:Act) (E:H5):Prop where
 size:a.tmps.size=n
 get:∀t,a.tmps.getD t undef=E t
 defers:a.defers= []
def C9.ev {n:Nat} {a:Act} {E:H5} (h:C9 n a E):a.eval=Gw.ev E:=by
 funext x;cases x with
 |tmp t=>exact h.get t
 | _=>rfl
def pV (n:Nat) (l:List Oper):Bool:=l.all λo=>match o.dst with|some d=>decide (d<n) |none=>true
def C9.put {n:Nat} {a:Act} {E:H5} (h:C9 n a E) (o:Option Tmp) (v:Value) (g:∀d,o=some d->d<n):C9 n (a.put o v) (bX E o v):=by
 cases o with
 |none=>exact h
 |some d=>
  have c:=g d rfl;refine⟨by simp[Act.put,h.size],λt=>?_,h.defers⟩;have i:=h.size;have f:=h.get t;by_cases b:t=d
  . subst b;simp[Act.put,bX,C2,tO,i,c]
  simp only[bX,C5 _ _ _ _ b];rw[<-f];simp[Act.put,tO,Ne.symm b]
def Ba (all:List Oper) (E:H5) (j:Nat):Option Bool:=
 match(all[j]?).bind (·.dst)with
 |some t=>match E t with| .bool b=>some b| _=>none
 |none=>none
def E1 (all:List Oper) (o:Oper) (E:H5):Bool:=
 match o.guard with
 |none=>true
 |some (j,a)=>Ba all E j==some a
def C9.yielded {n:Nat} {a:Act} {E:H5} (h:C9 n a E) (all:List Oper) (j:Nat):yielded all.toArray a.tmps j=Ba all E j:=by
 unfold Go.yielded Ba;rw[yQ];cases d:(all[j]?).bind (·.dst)with
 |none=>simp
 |some t=>
  simp only[wG];have b:=h.get t;cases c:a.tmps[t]? with
  |none=>
   have:a.tmps.getD t undef=undef:=by simp[c]
   rw[this]at b;simp[<-b,undef]
  |some v=>
   have:a.tmps.getD t undef=v:=by simp[c]
   rw[this]at b;rw[<-b];cases v<;>rfl
def C9.wanted {n:Nat} {a:Act} {E:H5} (h:C9 n a E) (all:List Oper) (o:Oper):Region.wanted o (Go.yielded all.toArray a.tmps)=E1 all o E:=by
 unfold Region.wanted E1;cases o.guard with
 |none=>rfl
 |some g=>simp only[h.yielded]
def K3 (P:Program) (all:List Oper) (o:Oper) (next:H5->World->Prop) (E:H5) (w:World):Prop:=
 if E1 all o E=true then
  match(execOp (ev E) o).run P w with
  | .ok (.value v) a=>next (bX E o.dst v) a
  | .ok .skip a=>next (bX E o.dst undef) a
  | .ok (.enter f a) b=>Calls P f a b λe c=>∃v,e= .returned v/\next (bX E o.dst v) c
  | _=>False
 else next (bX E o.dst undef) w
def C2b (P:Program) (all:List Oper) (next:H5->World->Prop):List Oper->H5->World->Prop
 | []=>next
 |o::r=>K3 P all o (C2b P all next r)
def GA (n:Nat) (Q:Exit->H5->World->Prop):Exit->Act->World->Prop:=λe a w=>∃E,C9 n a E/\Q e E w
def J2 {P:Program} {all:List Oper} {o:Oper} {next b:H5->World->Prop} (h:∀E w,next E w->b E w) {E:H5} {w:World} (hs:K3 P all o next E w):K3 P all o b E w:=by
 unfold K3 at*;split
 . rename_i a;simp only[a,vZ]at hs;generalize (execOp (ev E) o).run P w=r at*;cases r with
   |ok m c=>
    cases m<;>simp only at hs|-
    case value v=>exact h _ _ hs
    case skip=>exact h _ _ hs
    case enter f args=>exact hs.mono λe d ⟨v,he,hn⟩=>⟨v,he,h _ _ hn⟩
   |halt x c=>exact hs
 rename_i a;simp only[a]at hs;exact h _ _ hs
def JQ {P:Program} {n:Nat} {all:List Oper} (g:pV n all=true) {i:Nat} {o:Oper} (k:all[i]? =some o) {Q:Exit->Act->World->Prop} {K:Act->World->Prop} {next:H5->World->Prop}
 (c:∀a E w,C9 n a E->next E w->K a w) {a:Act} {E:H5} {w:World} (hr:C9 n a E) (h:K3 P all o next E w):wpOp P all.toArray Q i K a w:=by
 have b:∀d,o.dst=some d->d<n:=λd b=>by
  have:=tI.1 g o (sY k);simpa[b]using this
 unfold wpOp;simp only[yQ,k];rw[hr.wanted];unfold K3 at h;split
 . rename_i j;simp only[j,vZ]at h;refine .inl ?_;unfold Oper.wp;rw[hr.ev];generalize (execOp (ev E) o).run P w=r at*;cases r with
   |ok m l=>
    cases m<;>simp only at h
    case value v=>exact c _ _ _ (hr.put _ _ b) h
    case skip=>exact c _ _ _ (hr.put _ _ b) h
    case enter f args=>
     refine h.mono λe s ⟨v,he,g⟩=>?_
     subst he;exact c _ _ _ (hr.put _ _ b) g
   |halt x l=>exact h.elim
 rename_i j;simp only[j]at h;exact c _ _ _ (hr.put _ _ b) h
def aQ {P:Program} {n:Nat} {all:List Oper} (d:pV n all=true) {Q:Exit->H5->World->Prop} :
 ∀(b:List Oper) (k:Nat),(∀j,b[j]? =all[k+j]?)->∀(a:Act) (E:H5) (w:World),C9 n a E->C2b P all (Q .normal) b E w->
  wpOps P all.toArray (GA n Q) (List.range' k b.length) a w
 | [],_,_,a,E,w,c,h=>⟨E,c,h⟩
 |o::b,k,c,a,E,w,l,h=>by
  have g:all[k]? =some o:=by simpa using(c 0).symm
  rw[rH,g5h,wpOps_cons];refine JQ d g (λf E' s r i=>?_) l h;exact aQ d b (k+1) (λj=>by have:=c (j+1);simpa[uM,vS 1 j]using this) f E' s r i
inductive kD where
 |done
 |q (i:Nat) (p:kD)
 |p (i:Nat) (p:kD)
 |e (i:Nat) (p:kD)
 |br (i:Nat) (p:kD) (j:Nat) (p':kD)
def H6 (tails:List Nat) (listed:Array Bool):Bool:=tails.any λi=>listed.getD i false
inductive Reach (ops:Array Oper) (j:Nat):Nat->Prop
 |one {oj:Oper} {e:Edge} :ops[j]? =some oj->e∈oj.after->Region.binds .any e=true->Reach ops j e.on
 |more {i:Nat} {oi:Oper} {e:Edge} :Reach ops j i->ops[i]? =some oi->e∈oi.after->Region.binds .any e=true->Reach ops j e.on
def A7r (all:List Oper) (i:Nat):List Nat:=match all[i]? with
 |some o=>(o.after.toList.filter λe=>Region.binds .any e).map (·.on)
 |none=> []
def A6r (all:List Oper):List Nat->List Nat->List Nat
 | [],s=>s
 |i::r,s=>A6r all r (bif s.contains i then s++(A7r all i).filter (λx=> !(s.contains x))else s)
def FC (all:List Oper) (a tails:List Nat):Bool:=
 tails.all λj=>(λs=>a.all λi=>s.contains i) (A6r all (List.range j).reverse (A7r all j))
def oK {all:List Oper} {i x:Nat} (h:x∈A7r all i):∃a e,all.toArray[i]? =some a/\e∈a.after/\Region.binds .any e=true/\e.on=x:=by
 unfold A7r at h;split at h
 . rename_i o f;obtain⟨e,d,rfl⟩:=sV.1 h;obtain⟨b,c⟩:=zQ.1 d;exact⟨o,e,by rw[yQ];exact f,by simpa using b,c,rfl⟩
 cases h
def jC {all:List Oper} {j:Nat} :∀ {r s:List Nat},(∀x∈s,Reach all.toArray j x)->∀x∈A6r all r s,Reach all.toArray j x
 | [],_,h,x,a=>h x a
 |i::r,s,h,x,g=>by
  refine jC (r:=r) (λy a=>?_) x g;cases b:s.contains i with
  |false=>rw[b]at a;exact h y a
  |true=>
   rw[b]at a;simp only[qW,qZ]at a;rcases a with a|a
   . exact h y a
   obtain⟨k,e,c,d,f,rfl⟩:=oK (zQ.1 a).1;exact .more (h i (by simpa using b)) c d f
def BR {all:List Oper} {a tails:List Nat} (i:FC all a tails=true):∀(j:Nat) (b:Oper),all.toArray[j]? =some b->j∈tails->∀h∈a,Reach all.toArray j h:=by
 intro j b r g h f;have c:=tI.1 i j g;have d:=tI.1 c h f;refine jC (λx k=>?_) h (by simpa using d);obtain⟨s,e,l,n,o,rfl⟩:=oK k;exact .one l n o
def Rb (P:Program) (S:World->Prop) (all:List Oper) (o:Oper) (next:H5->World->Prop) (E:H5) (w:World):Prop:=
 (E1 all o E=true/\∃v,(∀a,S a->(execOp (ev E) o).run P a= .ok (.value v) a)/\next (bX E o.dst v) w)\/
 (E1 all o E=false/\next (bX E o.dst undef) w)
def gG (P:Program) (S:World->Prop) (all:List Oper) (tails:List Nat) (next:H5->World->Prop):kD->Bool->H5->World->Prop
 | .done,_=>next
 | .q i p,t=>λE w=>∃o,all[i]? =some o/\Rb P S all o (gG P S all tails next p t) E w
 | .p i p,t=>λE w=>∃o,all[i]? =some o/\Rb P (λ_=>True) all o (gG P S all tails next p t) E w
 | .e i p,t=>λE w=>∃o,all[i]? =some o/\K3 P all o (λE' a=>((t||tails.contains i)=true\/S a)/\gG P S all tails next p (t||tails.contains i) E' a) E w
 | .br i p j b,t=>λE w=>(∃o,all[i]? =some o/\K3 P all o (λE' a=>((t||tails.contains i)=true\/S a)/\gG P S all tails next p (t||tails.contains i) E' a) E w)/\
  (∃o,all[j]? =some o/\K3 P all o (λE' a=>((t||tails.contains j)=true\/S a)/\gG P S all tails next b (t||tails.contains j) E' a) E w)
section held
variable {P:Program} {ops:Array Oper} {Q:Exit->Act->World->Prop} {S:World->Prop} {heads tails:List Nat}
def Z7 (P:Program) (ops:Array Oper) (Q:Exit->Act->World->Prop) (S:World->Prop) (tails:List Nat):Nat->Array Bool->Act->World->Prop
 |0,listed,a,w=>Region.ready .any ops listed= []/\Q .normal a w
 |fuel+1,listed,a,w=>
  (Region.ready .any ops listed= []->Q .normal a w)/\∀i∈Region.ready .any ops listed,wpOp P ops Q i (λc b=>(H6 tails (listed.setIfInBounds i true)=true\/S b)/\Z7 P ops Q S tails fuel (listed.setIfInBounds i true) c b) a w
def dL:∀(fuel:Nat) (listed:Array Bool) (a:Act) (w:World),Z7 P ops Q S tails fuel listed a w->wpAny P .any ops Q fuel listed a w
 |0,_,_,_,h=>h
 |fuel+1,_,_,_,h=>⟨h.1,λi d=>wpOp_mono (λb f c=>dL fuel _ b f c.2) (h.2 i d)⟩
def A3r (ops:Array Oper) (listed:Array Bool):Prop:=∀(i:Nat) (a:Oper),ops[i]? =some a->listed.getD i false=true->∀e∈a.after,Region.binds .any e=true->listed.getD e.on false=true
def dR (ops:Array Oper) (heads tails:List Nat) (listed:Array Bool):Prop:=A3r ops listed/\(H6 tails listed=true->∀h∈heads,listed.getD h false=true)
def pH (ops:Array Oper) (n:Nat):A3r ops (Array.replicate n false):=λi b _ a=>by
 simp only[yS,zJ]at a;split at a<;>cases a
def Reach.listed {ops:Array Oper} {listed:Array Bool} {j h:Nat} (d:A3r ops listed) (g:j∈Region.ready .any ops listed) (k:Reach ops j h):listed.getD h false=true:=by
 induction k with
 |one i f c=>
  obtain⟨_,l,a,b⟩:=mem_ready.1 g;rw[i]at a;cases a;exact b _ f c
 |more _ c b a f=>exact d _ _ c f _ b a
def GY {listed:Array Bool} {i:Nat} (h:listed.getD i true=false):listed.getD i false=false:=by
 rcases sI i listed.size with a|a
 . simp[a]at h|-;exact h
 simp[g2m a]
def J3 {listed:Array Bool} {i:Nat} (c:i∉tails):H6 tails (listed.setIfInBounds i true)=H6 tails listed:=by
 unfold H6;rw[Bool.eq_iff_iff,xJ,xJ];constructor
 . rintro⟨x,a,h⟩;have b:i≠x:=λe=>c (by rw[e];exact a)
   exact⟨x,a,by rw[getD_set_ne false b]at h;exact h⟩
 rintro⟨x,a,h⟩;have b:i≠x:=λe=>c (by rw[e];exact a)
 exact⟨x,a,by rw[getD_set_ne false b];exact h⟩
def Dx {listed:Array Bool} {i:Nat} (h:H6 tails listed=true):H6 tails (listed.setIfInBounds i true)=true:=by
 unfold H6 at*;rw[xJ]at*;obtain⟨x,a,h⟩:=h;exact⟨x,a,getD_set_true h⟩
def dR.set (u:∀(j:Nat) (c:Oper),ops[j]? =some c->j∈tails->∀h∈heads,Reach ops j h) {listed:Array Bool} {j:Nat} (a:dR ops heads tails listed) (k:j∈Region.ready .any ops listed):dR ops heads tails (listed.setIfInBounds j true):=by
 obtain⟨_,c,o,t⟩:=mem_ready.1 k;refine⟨λs v b n e f d=>?_,λr h g=>?_⟩
 . by_cases i:s=j
   . subst i;rw[o]at b;cases b;exact getD_set_true (t e f d)
   rw[getD_set_ne false (Ne.symm i)]at n;exact getD_set_true (a.1 s v b n e f d)
 by_cases l:j∈tails
 . exact getD_set_true ((u j c o l h g).listed a.1 k)
 rw[J3 l]at r;exact getD_set_true (a.2 r h g)
def OU {i:Nat} {f:Oper} {v:Value} (z:ops[i]? =some f) (F:i∈heads) (Z:i∉tails) (J:∀(j:Nat) (o:Oper) cs b,ops[j]? =some o->o.op≠ .select cs b)
 (O:∀(j:Nat) (d:Oper),ops[j]? =some d->j∈tails->∀h∈heads,Reach ops j h)
 (W:∀c a w,Q (.panic c) (a.put f.dst v) w->Q (.panic c) a w):
 ∀(g:Nat) (listed:Array Bool) (a:Act) (w:World),dR ops heads tails listed->
  (∀j d,ops[j]? =some d->j≠i->listed.getD j true=false->(∀e∈d.after,Region.binds .any e=true->e.on≠i)->f.apart ops d=true)->
  i∈Region.ready .any ops listed->YieldsIf P ops S f v a->S w->
  Z7 P ops Q S tails g (listed.setIfInBounds i true) (a.put f.dst v) w->Z7 P ops Q S tails (g+1) listed a w:=by
 intro g
 induction g with
 |zero=>
  intro listed a w _ _ n r k H;refine⟨λh=>(by rw[h]at n;cases n),λj hj=>?_⟩;by_cases l:j=i
  . subst l;exact r.wpOp z k ⟨.inr k,H⟩
  have:=ready_mono hj l;rw[H.1]at this;cases this
 |succ g a5=>
  intro listed a w y E u R D H;have B:listed.getD i false=false:=GY (mem_ready.1 u).1;refine⟨λh=>(by rw[h]at u;cases u),λj hj=>?_⟩;by_cases n:j=i
  . subst n;exact R.wpOp z D ⟨.inr D,H⟩
  obtain⟨I,d,t,X⟩:=mem_ready.1 hj;have a3:∀e∈d.after,Region.binds .any e=true->e.on≠i:=λe he hb heq=>by
   have l:=X e he hb;rw[heq]at l;rw[B]at l;cases l
  have A:j∉tails:=λA=>by
   have:=(O j d t A i F).listed y.1 hj;rw[B]at this;cases this
  have a4:H6 tails listed=false:=by
   cases M:H6 tails listed with
   |false=>rfl
   |true=>have:=y.2 M i F;rw[B]at this;cases this
  have l:=H.2 j (ready_mono hj n);have V:=wpOp_putIf t (E j d t n I a3) (λcs b=>J i f cs b z) (λcs b=>J j d cs b t) W R l;have Y:∀k r,ops[k]? =some r->k≠i->(listed.setIfInBounds j true).getD k true=false->
   (∀e∈r.after,Region.binds .any e=true->e.on≠i)->f.apart ops r=true:=λk r a0 a1 N a2=>by
   refine E k r a0 a1 ?_ a2;by_cases G:j=k
   . subst G;exact I
   rw[getD_set_ne true G]at N;exact N
  refine wpOp_mono (λU T x=>?_) V;have s:S T:=by
   rcases x.2.1 with M|s
   . rw[J3 A,J3 Z,a4]at M;cases M
   exact s
  refine⟨.inr s,a5 (listed.setIfInBounds j true) U T (y.set O hj) Y (ready_mono u (Ne.symm n)) x.1 s ?_⟩;rw[zK _ _ n];exact x.2.2
def DW {i:Nat} {d:Oper} {v:Value} (t:ops[i]? =some d) (U:i∉tails) (B:∀(j:Nat) (o:Oper) cs b,ops[j]? =some o->o.op≠ .select cs b)
 (N:∀c a w,Q (.panic c) (a.put d.dst v) w->Q (.panic c) a w):
 ∀(h:Nat) (listed:Array Bool) (a:Act) (w:World),
  (∀j f,ops[j]? =some f->j≠i->listed.getD j true=false->(∀e∈f.after,Region.binds .any e=true->e.on≠i)->d.apart ops f=true)->
  i∈Region.ready .any ops listed->YieldsIf P ops (λ_=>True) d v a->(H6 tails listed=true\/S w)->
  Z7 P ops Q S tails h (listed.setIfInBounds i true) (a.put d.dst v) w->Z7 P ops Q S tails (h+1) listed a w:=by
 intro h
 induction h with
 |zero=>
  intro listed a w _ k r n H;refine⟨λl=>(by rw[l]at k;cases k),λj hj=>?_⟩;by_cases g:j=i
  . subst g;exact r.wpOp t trivial ⟨n.imp Dx id,H⟩
  have:=ready_mono hj g;rw[H.1]at this;cases this
 |succ h a0=>
  intro listed a w y r F O H;have X:listed.getD i false=false:=GY (mem_ready.1 r).1;refine⟨λJ=>(by rw[J]at r;cases r),λj hj=>?_⟩;by_cases g:j=i
  . subst g;exact F.wpOp t trivial ⟨O.imp Dx id,H⟩
  obtain⟨A,f,u,R⟩:=mem_ready.1 hj;have Z:∀e∈f.after,Region.binds .any e=true->e.on≠i:=λe he hb heq=>by
   have l:=R e he hb;rw[heq]at l;rw[X]at l;cases l
  have l:=H.2 j (ready_mono hj g);have M:=wpOp_putIf u (y j f u g A Z) (λcs b=>B i d cs b t) (λcs b=>B j f cs b u) N F l;have T:∀k n,ops[k]? =some n->k≠i->(listed.setIfInBounds j true).getD k true=false->
   (∀e∈n.after,Region.binds .any e=true->e.on≠i)->d.apart ops n=true:=λk n V W E Y=>by
   refine y k n V W ?_ Y;by_cases z:j=k
   . subst z;exact A
   rw[getD_set_ne true z]at E;exact E
  refine wpOp_mono (λI G s=>?_) M;have x:H6 tails (listed.setIfInBounds j true)=true\/S G:=by
   refine s.2.1.imp (λD=>?_) id;rw[zK _ _ (Ne.symm g),J3 U]at D;exact D
  refine⟨x,a0 (listed.setIfInBounds j true) I G T (ready_mono r (Ne.symm g)) s.1 x ?_⟩;rw[zK _ _ g];exact s.2.2
end held
def S0 {l:List Nat} {i:Nat} (h:l.contains i=false):i∉l:=by
 intro a;have:l.contains i=true:=by simpa using a
 rw[h]at this;cases this
def pB {tails:List Nat} {listed:Array Bool} {i:Nat} (b:i<listed.size):H6 tails (listed.setIfInBounds i true)=(H6 tails listed||tails.contains i):=by
 cases a:tails.contains i with
 |false=>rw[J3 (S0 a)];simp
 |true=>
  rw[g2n];unfold H6;rw[xJ];exact⟨i,by simpa using a,by simp[tO,b]⟩
def B8p {ops:Array Oper} {listed:Array Bool} {i:Nat} (h:i∈Region.ready .any ops listed):i<listed.size:=by
 have:=(mem_ready.1 h).1;rcases sI i listed.size with a|a
 . exact a
 simp[g2m a]at this
def Cm (n:Nat):Code->Bool
 | .region _ ops _=>pV n ops.toList
 | .seq a b=>Cm n a&&Cm n b
 | .cond _ a b=>Cm n a&&Cm n b
 | .block _ b=>Cm n b
 | .loop b=>Cm n b
 | .scope b=>Cm n b
 | .rangeFunc .. =>false
 | _=>true
def Wp (P:Program) (n:Nat) (c:Code) (Q:Exit->H5->World->Prop) (E:H5) (w:World):Prop:=
 Cm n c=true->∀a,C9 n a E->c.wp P (GA n Q) a w
inductive Fr where
 |code (c:Code)
 |blk (id:Nat)
 |ops (all rest:List Oper)
 |dops (S:World->Prop) (all:List Oper) (tails:List Nat) (p:kD) (t:Bool)
 |chk (S:World->Prop)
 |upto (I:H5->World->Prop)
def Den (P:Program) (n:Nat) (R:H5->World->Prop):List Fr->Exit->H5->World->Prop
 | [], .normal=>R
 | [], .ret=>R
 | [],_=>λ_ _=>False
 | .code c::k, .normal=>Wp P n c (Den P n R k)
 | .blk _::k, .normal=>Den P n R k .normal
 | .ops a b::k, .normal=>C2b P a (Den P n R k .normal) b
 | .dops S a b p t::k, .normal=>gG P S a b (Den P n R k .normal) p t
 | .chk S::k, .normal=>λE w=>S w/\Den P n R k .normal E w
 | .upto I:: _, .normal=>I
 | .blk id::k, .exit j=>if j=id then Den P n R k .normal else Den P n R k (.exit j)
 | _::k,e=>Den P n R k e
structure Go (P:Program) (n:Nat) (R:H5->World->Prop) (k:List Fr) (E:H5) (w:World):Prop where
 out:Den P n R k .normal E w
section rules
variable {P:Program} {n:Nat} {R:H5->World->Prop} {k:List Fr} {E:H5} {w:World}
def Vg:∀k:List Fr,R E w->Den P n R k .ret E w
 | [],h=>h
 | .code _::k,h=>Vg k h
 | .blk _::k,h=>Vg k h
 | .ops _ _::k,h=>Vg k h
 | .dops _ _ _ _ _::k,h=>Vg k h
 | .chk _::k,h=>Vg k h
 | .upto _::k,h=>Vg k h
def go_ret (h:R E w):Go P n R (.code .ret::k) E w:=⟨λ_ b a=>wp_ret ⟨E,a,Vg k h⟩⟩
def oD (a:List Nat) (E E0:H5):Prop:=∀t,a.contains t=false->E t=E0 t
def oD.refl (a:List Nat) (E:H5):oD a E E:=λ_ _=>rfl
def oD.upd {b:List Nat} {E E0:H5} {d:Nat} {v:Value} (c:b.contains d=true) (h:oD b E E0):oD b (upd E d v) E0:=λt a=>by
 rw[C5]
 . exact h t a
 intro e;subst e;rw[c]at a;cases a
end rules
def TH (args:List Value):H5:=λt=>(args[t]?).getD undef
def SZ {P:Program} {f:FuncId} {fn:Func} {c:Code} {args:List Value} {w:World} {Φ:Value->World->Prop} (j:P.funcs[f]? =some fn) (i:fn.body=some c)
 (r:args.length<=fn.ntmps) (k:Cm fn.ntmps c=true) (R:H5->World->Prop)
 (g:∀E w (tmps:Array Value),(∀t,tmps.getD t undef=E t)->R E w->∃v,(results fn tmps).run P w= .ok v w/\Φ v w)
 (h:Go P fn.ntmps R [.code c] (TH args) w):
 Calls P f args.toArray w λe w'=>∃v,e= .returned v/\Φ v w':=by
 refine calls_of_wp j i ?_;have l:C9 fn.ntmps {tmps:=args.toArray++Array.replicate (fn.ntmps-args.toArray.size) undef,defers:= []} (TH args):=by
  refine⟨by simp;omega,λt=>?_,rfl⟩;unfold TH;simp only[yS,Array.getElem?_append,g0g,yQ,zJ];split
  . rfl
  rename_i n;rw[rW ω];split<;>rfl
 refine wp_mono (h.out k _ l) ?_;rintro e d w' ⟨E',b,a⟩;cases e with
 |normal=>obtain⟨v,n,o⟩:=g E' w' d.tmps b.get a;exact⟨b.defers,v,n,v,rfl,o⟩
 |ret=>obtain⟨v,n,o⟩:=g E' w' d.tmps b.get a;exact⟨b.defers,v,n,v,rfl,o⟩
 |exit n=>exact a.elim
 |goto n=>exact a.elim
 |panic c=>exact a.elim
 |outgrown=>exact a.elim
def E4 (P:Program) (E:H5) (ty:TypeId) (op:Op) (w:World) (v:Value) (w':World):Prop:=
 ∀(d:Option Tmp) (b:String) (a:Array Edge) (g:Option (Nat×Bool)),(execOp (ev E) ⟨d,op,ty,b,a,g⟩).run P w= .ok (.value v) w'
def KU (P:Program) (E:H5) (ty:TypeId) (op:Op) (w w':World):Prop:=
 ∀(d:Option Tmp) (b:String) (a:Array Edge) (g:Option (Nat×Bool)),(execOp (ev E) ⟨d,op,ty,b,a,g⟩).run P w= .ok .skip w'
def A3s (P:Program) (E:H5) (ty:TypeId) (op:Op) (w:World) (f:FuncId) (args:List Value):Prop:=
 ∀(d:Option Tmp) (b:String) (a:Array Edge) (g:Option (Nat×Bool)),(execOp (ev E) ⟨d,op,ty,b,a,g⟩).run P w= .ok (.enter f args.toArray) w
def dU (P:Program) (f:FuncId) (args:List Value) (w:World) (Φ:Value->World->Prop):Prop:=
 Calls P f args.toArray w λe a=>∃v,e= .returned v/\Φ v a
def dU.mono {P:Program} {f:FuncId} {args:List Value} {w:World} {Φ Φ':Value->World->Prop} (h:dU P f args w Φ) (a:∀v w',Φ v w'->Φ' v w'):dU P f args w Φ':=
 Calls.mono h λ_ _ ⟨v,he,hv⟩=>⟨v,he,a _ _ hv⟩
def MR {all:List Oper} {d:Option Tmp} {op:Op} {ty:TypeId} {pos:String} {aft:Array Edge} {j t:Nat} {b:Bool} {E:H5} (a:(all[j]?).bind (·.dst)=some t) (c:E t= .bool b):E1 all ⟨d,op,ty,pos,aft,some (j,b)⟩ E=true:=by
 simp[E1,Ba,a,c]
section frames
variable {P:Program} {n:Nat} {R:H5->World->Prop} {k:List Fr} {E:H5} {w:World} {all rest:List Oper} {d:Nat} {op:Op} {ty:TypeId} {pos:String} {aft:Array Edge} {g:Option (Nat×Bool)}
variable {S:World->Prop} {i:Nat} {p:kD} {tails:List Nat} {t:Bool}
end frames
def Ei (P:Program) (t:TypeId):Bool:=match P.underlying t with|some (.struct _)=>false|some (.array _ _)=>false|some _=>true|none=>false
def dV (P:Program) (t:TypeId) (s:Nat):Bool:=
 (match P.underlying t with|some (.struct _)=>true|some (.array _ _)=>true| _=>false)&&(match P.info? t with|some i=>i.size==s|none=>false)
def Tu (P:Program) (t:TypeId) (s:Nat):Bool:=match P.info? t with|some i=>i.size==s|none=>false
def QP (P:Program) (t:TypeId) (f off:Nat):Bool:=
 match P.underlying t with
 |some (.struct a)=>(match a[f]? with|some x=>x.offset==off&&(match P.info? x.type with|some i=> !(i.size==0) |none=>false) |none=>false)
 | _=>false
def Hu (P:Program) (t e:TypeId) (s:Nat):Bool:=(match P.underlying t with|some (.slice e')=>e'==e| _=>false)&&Tu P e s
def Gx (P:Program) (f:FuncId):Bool:=match P.funcs[f]? with|some fn=> !(fn.name== "runtime.NumGoroutine")&&fn.body.isSome|none=>false
def Fp (P:Program) (t:TypeId):Option Value:=(P.info? t).bind (·.zero)
section ops
variable {P:Program} {E:H5} {w:World} {ty:TypeId}
def B9r {x:Operand} :E4 P E ty (.move x) w (ev E x) w:=λ_ _ _ _=>rfl
def A3j {x:Operand} :E4 P E ty (.assign x) w (ev E x) w:=λ_ _ _ _=>rfl
def C7z {c a b:Operand} {t:Bool} (d:ev E c= .bool t):E4 P E ty (.pick c a b) w (bif t then ev E a else ev E b) w:=λ_ _ _ _=>by
 cases t<;>simp[execOp,d,asBool,go_sem]
def B3f {x:Operand} {vs:Array Value} {v:Value} {i:Nat} (b:ev E x= .tuple vs) (a:vs[i]? =some v):E4 P E ty (.extract x i) w v w:=λ_ _ _ _=>by
 simp[execOp,b,Instr.extract,a,go_sem]
def D1n {T:TypeId} {x:Operand} {b:Bool} (a:ev E x= .bool b):E4 P E ty (.unOp .not T x) w (.bool !b) w:=λ_ _ _ _=>by
 simp[execOp,a,Op.unary,go_sem]
def D1m {T:TypeId} {x:Operand} {k:IntKind} {a:Int} (b:ev E x= .int k a):E4 P E ty (.unOp .neg T x) w (.int k (k.wrap (-a))) w:=λ_ _ _ _=>by
 simp[execOp,b,Op.unary,Op.intArith,go_sem]
def A0a {op:BinOp} {T:TypeId} {x y:Operand} {k k':IntKind} {a b:Int} :(eqGuard op T x y (.int k a) (.int k' b)).run P w= .ok () w:=by
 unfold eqGuard;cases op<;>rfl
def B9p {op:BinOp} {T T':TypeId} {x y:Operand} {k k':IntKind} {a b:Int} {v:Value} (d:ev E x= .int k a) (f:ev E y= .int k' b) (h:(binOp op T (.int k a) (.int k' b)).run P w= .ok v w):E4 P E ty (.binOp op T x y T') w v w:=λ_ _ _ _=>by
 simp only[execOp,d,f];have c:=A0a (P:=P) (w:=w) (op:=op) (T:=T) (x:=x) (y:=y) (k:=k) (k':=k') (a:=a) (b:=b);simp[go_sem,c,h]
def C7w {x y:Operand} {ts:Array TypeId} {k k':IntKind} {a b:Int} (d:ev E x= .int k a) (f:ev E y= .int k' b):E4 P E ty (.call ⟨.builtin .max, #[x,y],ts⟩) w (.int k (max a b)) w:=λ_ _ _ _=>by
 have c:(if b>a then b else a)=max a b:=by by_cases h:a<b<;>simp only[gt_iff_lt,h,vZ,yF]<;>omega
 simp[execOp,resolve,invoke,builtin,Builtin.max_,Builtin.max2,d,f,go_sem];exact c
def C7x {x y z:Operand} {ts:Array TypeId} {k k' d:IntKind} {a b c:Int} (f:ev E x= .int k a) (g:ev E y= .int k' b) (i:ev E z= .int d c):E4 P E ty (.call ⟨.builtin .max, #[x,y,z],ts⟩) w (.int k (max (max a b) c)) w:=λ_ _ _ _=>by
 have d:∀a b:Int,(if b>a then b else a)=max a b:=λa b=>by by_cases h:a<b<;>simp only[gt_iff_lt,h,vZ,yF]<;>omega
 simp only[execOp,resolve,invoke,builtin,Builtin.max_,go_sem];simp[f,g,i,Builtin.max2,d,go_sem]
def C7y {x y:Operand} {ts:Array TypeId} {k k':IntKind} {a b:Int} (d:ev E x= .int k a) (f:ev E y= .int k' b):E4 P E ty (.call ⟨.builtin .min, #[x,y],ts⟩) w (.int k (min a b)) w:=λ_ _ _ _=>by
 have c:(if b<a then b else a)=min a b:=by by_cases h:b<a<;>simp only[h,vZ,yF]<;>omega
 simp[execOp,resolve,invoke,builtin,Builtin.min_,Builtin.min2,d,f,go_sem];exact c
def D1j {x:Operand} {t e:TypeId} {s len c:Nat} {a:Option Addr} (g:ev E x= .slice a len c) (b:Hu P t e s=true):E4 P E ty (.call ⟨.builtin .len, #[x], #[t]⟩) w (.int .i64 len) w:=λ_ _ _ _=>by
 have f:P.underlying t=some (.slice e):=by
  unfold Hu at b;simp only[qC]at b;obtain⟨b,_⟩:=b;split at b
  . rename_i h d;simp at b;subst b;exact d
  cases b
 simp[execOp,resolve,invoke,builtin,Builtin.len_,g,run_underlying f,goInt,go_sem]
end ops
def Dy {P:Program} {E:H5} {w:World} {ty:TypeId} {c:Operand} {f:FuncId} {b args:List Value} {as:List Operand} {ts:Array TypeId} (i:ev E c= .func (.func f) #[] b.toArray) (a:Gx P f=true) (h:as.map (ev E)++b=args):
 A3s P E ty (.call ⟨.value c,as.toArray,ts⟩) w f args:=λ_ _ _ _=>by
 unfold Gx at a;split at a
 . rename_i fn j;simp only[qC,rO]at a;have g:¬fn.body=none:=by intro hb;rw[hb]at a;simp at a
   have d:¬fn.name= "runtime.NumGoroutine" :=by simpa using a.1
   subst h;simp[execOp,resolve,i,Deferred.ofValue,invoke,callFunc,j,d,g,go_sem]
 cases a
def D1k {P:Program} {E:H5} {w:World} {ty:TypeId} {fn:Fn} {a:List Operand} {vs:List Value} (b:a.map (ev E)=vs):E4 P E ty (.makeFunc fn #[] a.toArray) w (.func fn #[] vs.toArray) w:=λ_ _ _ _=>by
 subst b;simp[execOp,Instr.makeFunc]
def D1l {P:Program} {E:H5} {w:World} {ty:TypeId} {T T':TypeId} {x y:Operand} {a b:Bool} (g:ev E x= .bool a) (h:ev E y= .bool b) (d:P.underlying T=some .bool):E4 P E ty (.binOp .neq T x y T') w (.bool (a !=b)) w:=λ_ _ _ _=>by
 have c:=run_equalIn_bool' (P:=P) w 9999 T a b d;have f:(eqGuard .neq T x y (.bool a) (.bool b)).run P w= .ok () w:=rfl;have d:(binOp .neq T (.bool a) (.bool b)).run P w= .ok (.bool (a !=b)) w:=by
  show((Op.equal T (.bool a) (.bool b))>>=λr=>pure (Value.bool (!r))).run P w= _;unfold Op.equal Op.maxDepth;rw[Sem.run_bind,c];rfl
 simp only[execOp,g,h];simp[f,d]
def KR (w:World) (b:Nat) (cs:Array Value) (t:TypeId):Prop:=w.heap[b]? =some (.cells cs t (0,0))
structure R7 (w w':World):Prop extends Below w.heap.size w w' where
 drw:True
def KR.lt {w:World} {b:Nat} {cs:Array Value} {t:TypeId} (h:KR w b cs t):b<w.heap.size:=(rX.1 h).1
def KR.ext {w w':World} {b:Nat} {cs:Array Value} {t:TypeId} (h:KR w b cs t) (a:R7 w w'):KR w' b cs t:=(a.block b h.lt).trans h
def KR.cell {w:World} {b o:Nat} {cs:Array Value} {t:TypeId} {v:Value} (h:KR w b cs t) (a:cs[o]? =some v):w.cell? ⟨b,o,none⟩=some v:=by
 unfold KR at h;simp[World.cell?,h,a]
def R7.refl (w:World):R7 w w:=⟨Below.refl _ _,trivial⟩
def R7.trans {a b c:World} (h:R7 a b) (k:R7 b c):R7 a c:=⟨Below.trans h.toBelow (Below.mono k.toBelow h.size),trivial⟩
def R7.drew {a b:World} (h:R7 a b):R7 a b.drew:=⟨Below.drew h.toBelow,trivial⟩
def R7.alloc (w:World) (o:Obj):R7 w (w.alloc o):=⟨(Below.refl _ _).alloc (qT _) o,trivial⟩
section mem
variable {P:Program} {E:H5} {w:World} {ty:TypeId}
def Jb {t:TypeId} (h:Ei P t=true):(isAgg t).run P w= .ok false w:=by
 unfold Ei at h;cases a:P.underlying t with
 |none=>simp[a]at h
 |some d=>cases d<;>simp[a]at h<;>simp[isAgg,run_underlying a,go_sem]
def Rc {t:TypeId} {s:Nat} (h:dV P t s=true):(isAgg t).run P w= .ok true w/\(sizeOf t).run P w= .ok s w:=by
 unfold dV at h;simp only[qC]at h;obtain⟨d,a⟩:=h;constructor
 . cases c:P.underlying t with
   |none=>simp[c]at d
   |some f=>cases f<;>simp[c]at d<;>simp[isAgg,run_underlying c,go_sem]
 cases b:P.info? t with
 |none=>simp[b]at a
 |some i=>simp[b]at a;simp[sizeOf,typeInfo,b,a,go_sem]
def Fw {t:TypeId} {s:Nat} (h:Tu P t s=true):(sizeOf t).run P w= .ok s w:=by
 unfold Tu at h;cases a:P.info? t with
 |none=>simp[a]at h
 |some i=>simp[a]at h;simp[sizeOf,typeInfo,a,h,go_sem]
def nX {T:TypeId} {x:Operand} {a:Addr} {v:Value} (f:ev E x= .pointer (some a)) (d:Ei P T=true) (c:w.cell? a=some v):E4 P E ty (.load T x) w v w:=λ_ _ _ _=>by
 have b:=Jb (P:=P) (w:=w) d;simp[execOp,f,Instr.loadAt,Instr.sureAddr,loadVar,b,c,go_sem]
def J0 (w:World) (a:Addr) (cs:List Value):Prop:=∀j v,cs[j]? =some v->w.cell? (a.add j)=some v
def A7l {T:TypeId} {x:Operand} {a:Addr} {cs:List Value} {s:Nat} (h:ev E x= .pointer (some a)) (b:dV P T s=true) (g:cs.length=s) (f:J0 w a cs):E4 P E ty (.load T x) w (.agg cs.toArray) w:=λ_ _ _ _=>by
 obtain⟨c,d⟩:=Rc (P:=P) (w:=w) b;have b:=run_loadCells_list (P:=P) (w:=w) a cs f;rw[g]at b;unfold loadCells at b;simp[execOp,h,Instr.loadAt,Instr.sureAddr,loadVar,c,d,b,go_sem]
def KR.cellsAt {w:World} {b:Nat} {cs:Array Value} {t:TypeId} (h:KR w b cs t):J0 w ⟨b,0,none⟩ cs.toList:=λj v a=>by
 have:(⟨b,0,none⟩:Addr).add j=⟨b,j,none⟩:=by unfold Addr.add;split<;>simp_all
 rw[this];exact h.cell (by simpa using a)
def K5 (b o n:Nat):(⟨b,o,none⟩:Addr).add n=⟨b,o+n,none⟩:=by unfold Addr.add;split<;>simp_all
def DX {T:TypeId} {x:Operand} {b o f off:Nat} (k:ev E x= .pointer (some ⟨b,o,none⟩)) (a:QP P T f off=true):E4 P E ty (.fieldAddr T x f) w (.pointer (some ⟨b,o+off,none⟩)) w:=λ_ _ _ _=>by
 unfold QP at a;split at a
 . rename_i r j;split at a
   . rename_i g i;simp only[qC,g1p]at a;obtain⟨h,c⟩:=a;cases d:P.info? g.type with
     |none=>simp[d]at c
     |some n=>
      simp[d]at c;have l:(sizeOf g.type).run P w= .ok n.size w:=by simp[sizeOf,typeInfo,d,go_sem]
      subst h;simp[execOp,k,Instr.fieldAt,Instr.sureAddr,run_underlying j,i,fieldPlace,l,c,K5,go_sem]
   cases a
 cases a
def D1g {T:TypeId} {x:Operand} {v:Value} (a:ev E x=v):E4 P E ty (.box T x) w (.pointer (some ⟨w.heap.size,0,none⟩)) (w.alloc (.cells v.cells T)):=λ_ _ _ _=>by
 subst a;simp[execOp,Instr.box,newVar,newRow,go_sem]
def B0a {T:TypeId} {z:Value} (a:Fp P T=some z):E4 P E ty (.alloc T) w (.pointer (some ⟨w.heap.size,0,none⟩)) (w.alloc (.cells z.cells T)):=λ_ _ _ _=>by
 unfold Fp at a;cases b:P.info? T with
 |none=>simp[b]at a
 |some i=>
  simp[b]at a;simp[execOp,Instr.alloc,zeroValue,typeInfo,b,a,newVar,newRow,go_sem]
def Fy (w:World) (cs:Array Value) (t:TypeId):KR (w.alloc (.cells cs t)) w.heap.size cs t:=heap_alloc_new w _
def KR.alloc {w:World} {b:Nat} {cs:Array Value} {t:TypeId} (h:KR w b cs t) (o:Obj):KR (w.alloc o) b cs t:=h.ext (R7.alloc w o)
end mem
def Lt:∀u∈([]:List Value),u.oneCell'=true:=λ_ h=>by cases h
def Ms {v:Value} {l:List Value} (h:v.oneCell'=true) (t:∀u∈l,u.oneCell'=true):∀u∈v::l,u.oneCell'=true:=λu a=>by
 rcases qV.1 a with a|a
 . rw[a];exact h
 exact t u a
section frames
variable {P:Program} {n:Nat} {R:H5->World->Prop} {k:List Fr} {E:H5} {w:World} {all rest:List Oper} {d:Nat} {ty:TypeId} {pos:String} {aft:Array Edge} {g:Option (Nat×Bool)}
end frames
section tests
variable {P:Program} {n:Nat} {R:H5->World->Prop} {k:List Fr} {E:H5} {w:World} {all rest:List Oper} {d:Nat} {ty:TypeId} {pos:String} {aft:Array Edge} {g:Option (Nat×Bool)} {op:Op} {c:Prop} [Decidable c]
variable {S:World->Prop} {i:Nat} {p:kD} {tails:List Nat} {t:Bool}
end tests
def EX (P:Program) (t:TypeId):Option (List (Nat×Nat)):=
 match P.underlying t with
 |some (.struct a)=>a.toList.mapM λf=>(P.info? f.type).map λi=>(f.offset,i.size)
 | _=>none
def bD {P:Program} {w:World} :∀(a:List Field) (pl:List (Nat×Nat)),a.mapM (λf=>(P.info? f.type).map λi=>(f.offset,i.size))=some pl->
 (a.mapM λf=>do pure (f.offset, <-sizeOf f.type):Sem (List (Nat×Nat))).run P w= .ok pl w
 | [],pl,h=>by simp at h;subst h;rfl
 |f::a,pl,h=>by
  simp only[wY]at h;cases b:P.info? f.type with
  |none=>simp[b]at h
  |some i=>
   simp only[b,wQ,qI,wG]at h;cases c:a.mapM (λf=>(P.info? f.type).map λi=>(f.offset,i.size))with
   |none=>rw[c]at h;simp at h
   |some g=>
    rw[c]at h;simp at h;subst h;have d:=bD (w:=w) a g c;rw[wY];simp[sizeOf,typeInfo,b,go_sem];simp[sizeOf,typeInfo,go_sem]at d;rw[d];rfl
def C3x {P:Program} {E:H5} {w:World} {ty:TypeId} {T:TypeId} {parts:List (Nat×Operand)} {z:Value} {pl:List (Nat×Nat)} (cs:Array Value) (b:Fp P T=some z) (a:EX P T=some pl)
 (k:Instr.fill (λi=>pl[i]?) z.cells (parts.map λx=>(x.1,ev E x.2))=some cs):E4 P E ty (.build T parts.toArray) w (.agg cs) w:=λ_ _ _ _=>by
 unfold Fp at b;unfold EX at a;cases c:P.info? T with
 |none=>simp[c]at b
 |some i=>
  simp[c]at b;cases d:P.underlying T with
  |none=>simp[d]at a
  |some j=>
   cases j<;>simp[d]at a
   case struct fs=>
    have h:=bD (w:=w) fs.toList pl a;have g:(fs.mapM λf=>do pure (f.offset, <-sizeOf f.type):Sem (Array (Nat×Nat))).run P w= .ok pl.toArray w:=by
     rw[zC];simp at h|-;simp[h]
    simp only[execOp];unfold Instr.build;simp at g;simp[zeroValue,typeInfo,c,b,run_underlying d,g,k]
def A3k {P:Program} {E:H5} {w:World} {ty:TypeId} {T e:TypeId} {len sz:Nat} {parts:List (Nat×Operand)} {z:Value} (cs:Array Value) (a:Fp P T=some z) (d:P.underlying T=some (.array len e)) (g:Tu P e sz=true)
 (f:Instr.fill (λi=>some (i*sz,sz)) z.cells (parts.map λx=>(x.1,ev E x.2))=some cs):E4 P E ty (.build T parts.toArray) w (.agg cs) w:=λ_ _ _ _=>by
 unfold Fp at a;have c:=Fw (P:=P) (w:=w) g;cases b:P.info? T with
 |none=>simp[b]at a
 |some i=>
  simp[b]at a;simp only[execOp];unfold Instr.build;simp[zeroValue,typeInfo,b,a,run_underlying d,c,f]
def B4l {w w':World} (c:R7 w w') {a:Addr} {v:Value} (h:w.cell? a=some v):w'.cell? a=some v:=by
 have b:a.block<w.heap.size:=block_lt_of_cell h;rw[c.cell b];exact h
def J0.ext {w w':World} {a:Addr} {cs:List Value} (h:J0 w a cs) (c:R7 w w'):J0 w' a cs:=λj v b=>B4l c (h j v b)
def SlR {α:Type} (w:World) (sz:Nat) (f:α->List Value) (v:Value) (l:List α):Prop:=
 (∃a b,v= .slice a 0 b/\l= [])\/∃c o b,v= .slice (some ⟨c,o,none⟩) l.length b/\l.length<=b/\∀i a,l[i]? =some a->J0 w ⟨c,o+i*sz,none⟩ (f a)
def SlR.ext {α:Type} {w w':World} {sz:Nat} {f:α->List Value} {v:Value} {l:List α} (h:SlR w sz f v l) (k:R7 w w'):SlR w' sz f v l:=by
 rcases h with h| ⟨b,o,c,j,d,g⟩
 . exact .inl h
 exact .inr ⟨b,o,c,j,d,λn a i=>(g n a i).ext k⟩
def SlR.nil {α:Type} (w:World) (sz:Nat) (f:α->List Value):SlR w sz f (.slice none 0 0) []:= .inl ⟨_,_,rfl,rfl⟩
section sl
variable {P:Program} {E:H5} {w:World} {ty:TypeId} {α:Type} {sz:Nat} {f:α->List Value} {v:Value} {l:List α}
def Kh {t e:TypeId} {s:Nat} (a:Hu P t e s=true):P.underlying t=some (.slice e)/\Tu P e s=true:=by
 unfold Hu at a;simp only[qC]at a;obtain⟨a,b⟩:=a;refine⟨?_,b⟩;split at a
 . rename_i d c;simp at a;subst a;exact c
 cases a
def B9q {x ix:Operand} {t e:TypeId} {n:IntKind} {i:Int} {a:Addr} {len b:Nat} (k:ev E x= .slice (some a) len b) (g:ev E ix= .int n i) (h:Hu P t e sz=true) (c:0<=i) (d:i<len):E4 P E ty (.indexAddr t x ix) w (.pointer (some (a.add (i.toNat*sz)))) w:=λ_ _ _ _=>by
 obtain⟨j,l⟩:=Kh h;have f:=Fw (P:=P) (w:=w) l;simp[execOp,k,g,Instr.indexAt,asIntOf,run_underlying j,c,d,f,go_sem]
end sl
section owned
variable {w w':World} {base:Nat} {e:TypeId} {sz:Nat} {v:Value} {n:Nat} {xs:List Value}
def C2f (h:w.ownsRow base e sz v n xs) (a:R7 w w'):w'.ownsRow base e sz v n xs:=
 h.kept (row:=none) ⟨a.os,a.tape,a.output,a.size,λk b _=>a.block k b⟩ (by cases v.ownBlock<;>simp)
def KR.grown {b:Nat} {cs:Array Value} {t:TypeId} {row:Option Nat} (h:KR w b cs t) (a:w.grownBy w' row) (c:some b≠row):KR w' b cs t:=(a.block b h.lt c).trans h
def pD {a:World} (b:R7 a w) (c:w.grownBy w' v.ownBlock) (h:w.ownsRow base e sz v n xs) (d:a.heap.size<=base) (f:w.drawn<=w'.drawn):R7 a w':=
 ⟨b.toBelow.grown c b.size (λk a=>by have:=(h.lt k a).1;omega),trivial⟩
end owned
section frames2
variable {P:Program} {n:Nat} {R:H5->World->Prop} {k:List Fr} {E:H5} {w:World} {all rest:List Oper} {d:Nat} {ty:TypeId} {pos:String} {aft:Array Edge} {g:Option (Nat×Bool)}
def nV {T e:TypeId} {sz len:Nat} {parts:List (Nat×Operand)} {z:Value} (cs:Array Value) (j:Hu P T e sz=true) (a:Fp P e=some z) (l:len*sz<=16777216)
 (f:Instr.fill (λi=>some (i*sz,sz)) ((Array.range (len*sz)).map (z.cells[· %z.cells.size]!)) (parts.map λx=>(x.1,ev E x.2))=some cs) (c:len*sz≠0):
 E4 P E ty (.buildSlice T len parts.toArray) w (.slice (some ⟨w.heap.size,0,none⟩) len len) (w.alloc (.cells cs e)):=λ_ _ _ _=>by
 obtain⟨k,h⟩:=Kh j;unfold Fp at a;have d:=Fw (P:=P) (w:=w) h;cases b:P.info? e with
 |none=>simp[b]at a
 |some i=>
  simp[b]at a;have g:¬(16777216<len*sz):=ω
  simp only[execOp];unfold Instr.buildSlice;simp[run_underlying k,d,g,c,zeroValue,typeInfo,b,a,f,newRow]
def WT (b:Nat) (w w':World):Prop:=w'.os=w.os/\w'.tape=w.tape/\(w'.output=w.output/\w.drawn<=w'.drawn)/\w'.heap.size=w.heap.size/\∀k,k≠b->w'.heap[k]? =w.heap[k]?
def KR.chg {w w':World} {b a:Nat} {cs:Array Value} {t:TypeId} (h:KR w b cs t) (c:WT a w w') (d:b≠a):KR w' b cs t:=(c.2.2.2.2 b d).trans h
def R7.chg {c w w':World} {b:Nat} (h:R7 c w) (a:WT b w w') (d:c.heap.size<=b):R7 c w':=
 ⟨⟨a.1.trans h.os,a.2.1.trans h.tape,a.2.2.1.1.trans h.output,by rw[a.2.2.2.1];exact h.size,λk c=>(a.2.2.2.2 k ω).trans (h.block k c)⟩,trivial⟩
def B4k {w w':World} {b:Nat} (c:WT b w w') {a:Addr} (d:a.block≠b):w'.cell? a=w.cell? a:=World.cell?_of_block (w:=w) (c.2.2.2.2 _ d)
def C2e {w w':World} {b c e sz n:Nat} {v:Value} {xs:List Value} (h:w.ownsRow c e sz v n xs) (a:WT b w w') (d:some b≠v.ownBlock):w'.ownsRow c e sz v n xs:=
 h.kept (row:=some b) ⟨a.1,a.2.1,a.2.2.1.1,by rw[a.2.2.2.1];exact qT _,λk _ c=>a.2.2.2.2 k (λe=>c (by rw[e]))⟩ (.inr (Ne.symm d))
def WL {T d:TypeId} {x y:Operand} {b o s:Nat} {cs:Array Value} {v:Value} (vs:List Value) (n:ev E x= .pointer (some ⟨b,o,none⟩)) (r:ev E y=v) (c:v.cells.toList=vs) (l:Tu P T s=true) (k:vs.length=s) (i:KR w b cs d) (j:o+vs.length<=cs.size) (f:∀u∈vs,u.oneCell'=true):
 KU P E ty (.store T x y) w (w.setRow b (cs.toList.take o++vs++cs.toList.drop (o+vs.length)).toArray):=λ_ _ _ _=>by
 have g:=Fw (P:=P) (w:=w) l;have a:=run_storeCells_at P b o d vs 0 cs w i (by simpa using j) f;have h:v.cells.size=s:=by rw[<-k, <-c];simp
 simp only[tD]at a;subst r;simp[execOp,n,Instr.storeAt,Instr.sureAddr,storeVar,g,h,c,a]
end frames2
section el
variable {P:Program} {E:H5} {w:World} {ty:TypeId}
def J0.get {w:World} {b o j:Nat} {cs:List Value} {v:Value} (h:J0 w ⟨b,o,none⟩ cs) (a:cs[j]? =some v):w.cell? ⟨b,o+j,none⟩=some v:=by
 have:=h j v a;rwa[K5]at this
def C0t {α:Type} {l:List α} {i:Nat} (h:i<l.length):∃a,l[i]? =some a:=⟨_,qQ h⟩
def TD {α:Type} {l:List α} {i:Nat} {a:α} (h:l[i]? =some a):i<l.length:=(sU.1 h).1
end el
section frames
variable {P:Program} {n:Nat} {R:H5->World->Prop} {k:List Fr} {E:H5} {w:World} {all rest:List Oper} {d:Nat} {ty:TypeId} {pos:String} {aft:Array Edge} {g:Option (Nat×Bool)}
end frames
def two (a b:Int):Array Value:= #[.int .i64 a, .int .i64 b]
def Zs {a:Type} (kv:a->Value) (w:World) (b:Nat) (d:List a):Prop:=
 ∃a c,w.heap[b]? =some (.map a c)/\a.toList.map (·.key)=d.map kv/\∀x∈a.toList,x.val= .bool true
def Zs.lt {a:Type} {kv:a->Value} {w:World} {b:Nat} {c:List a} (h:Zs kv w b c):b<w.heap.size:=by
 obtain⟨d,c,a,_⟩:=h;exact(rX.1 a).1
def Zs.ext {c:Type} {kv:c->Value} {w w':World} {b:Nat} {a:List c} (h:Zs kv w b a) (g:R7 w w'):Zs kv w' b a:=by
 have f:=h.lt;obtain⟨c,a,d,r⟩:=h;exact⟨c,a,(g.block b f).trans d,r⟩
def Zs.chg {d:Type} {kv:d->Value} {w w':World} {b a:Nat} {c:List d} (h:Zs kv w b c) (f:WT a w w') (g:b≠a):Zs kv w' b c:=by
 obtain⟨c,a,d,r⟩:=h;exact⟨c,a,(f.2.2.2.2 b g).trans d,r⟩
def Zs.grown {c:Type} {kv:c->Value} {w w':World} {b:Nat} {row:Option Nat} {a:List c} (h:Zs kv w b a) (f:w.grownBy w' row) (i:some b≠row):Zs kv w' b a:=by
 have g:=h.lt;obtain⟨c,a,d,r⟩:=h;exact⟨c,a,(f.block b g i).trans d,r⟩
def iv (i:Int):Value:= .int .i64 i
def sv (s:Int×Int):Value:= .agg (two s.1 s.2)
section maps
variable {P:Program} {E:H5} {w:World} {ty:TypeId} {κ:Type} {kv:κ->Value}
def B3h {t:TypeId} :E4 P E ty (.makeMap t none) w (.map (some w.heap.size)) (w.alloc (.map #[] 0)):=λ_ _ _ _=>by
 simp[execOp,Instr.makeMap]
end maps
section mframes
variable {P:Program} {n:Nat} {R:H5->World->Prop} {k:List Fr} {E:H5} {w:World} {all rest:List Oper} {d:Nat} {ty:TypeId} {pos:String} {aft:Array Edge} {g:Option (Nat×Bool)} {κ:Type}
end mframes
def nZ {α:Type} (w:World) (a:Nat) (e:TypeId) (sz:Nat) (f:α->List Value) (v:Value) (l:List α):Prop:=w.ownsRow a e sz v l.length (l.flatMap f)
section own
variable {α:Type} {w w':World} {base:Nat} {e:TypeId} {sz:Nat} {f:α->List Value} {v:Value} {l:List α}
def nZ.ext (h:nZ w base e sz f v l) (a:R7 w w'):nZ w' base e sz f v l:=C2f h a
def nZ.chg {b:Nat} (h:nZ w base e sz f v l) (a:WT b w w') (c:some b≠v.ownBlock):nZ w' base e sz f v l:=C2e h a c
def nZ.nil (w:World) (base:Nat) (e:TypeId) (sz:Nat) (f:α->List Value):nZ w base e sz f (.slice none 0 0) []:=World.ownsRow_nil w base e sz
def nZ.below {a:World} (h:nZ w base e sz f v l) (g:R7 a w) (d:w.grownBy w' v.ownBlock) (b:a.heap.size<=base) (c:w.drawn<=w'.drawn):R7 a w':=pD g d h b c
def nZ.lit {b:Nat} {cs:Array Value} {a:α} (g:KR w b cs e) (d:cs.toList=f a) (c:(f a).length=sz) (h:base<=b):nZ w base e sz f (.slice (some ⟨b,0,none⟩) 1 1) [a]:=by
 refine⟨by simp[c], .inr ⟨b,1,cs,rfl,h,g,by simp,δ,?_,?_⟩⟩
 . rw[<-sE,d,c];simp
 rw[d];simp[c,qU]
def nZ.grown {g:Type} {a b f:Nat} {c:g->List Value} {v2:Value} {d:List g} (h:nZ w a b f c v2 d) (i:w.grownBy w' v.ownBlock) (j:v2.ownBlock=none\/v2.ownBlock≠v.ownBlock):nZ w' a b f c v2 d:=h.kept i j
end own
section frames
variable {P:Program} {n:Nat} {R:H5->World->Prop} {k:List Fr} {E:H5} {w:World} {all rest:List Oper} {d:Nat} {ty:TypeId} {pos:String} {aft:Array Edge} {g:Option (Nat×Bool)} {α:Type} {f:α->List Value}
def Wr (off:Nat):∀(l:List Value) (j:Nat) (cs:Array Value),off+j+l.length<=cs.size->
 ((l.zipIdx j).foldl (λcs (x:Value×Nat)=>cs.setIfInBounds (off+x.2) x.1) cs).toList=cs.toList.take (off+j)++l++cs.toList.drop (off+j+l.length)
 | [],j,cs,_=>by simp
 |x::l,j,cs,h=>by
  simp only[g2e,List.foldl_cons];simp only[rH]at h;rw[Wr off l (j+1) _ (by simp;omega)];have a:off+j<cs.size:=ω
  have b:off+j<cs.toList.length:=by simpa using a
  simp only[Array.toList_setIfInBounds];rw[List.take_set,zF ω,(ω:off+(j+1)=(off+j)+1),List.take_succ_eq_append_getElem b];rw[g3h _ _ (by simp;omega)];simp[tJ (vV a),(ω:off+j+1+l.length=off+j+(l.length+1))]
def A0d (sz:Nat):∀(vs:List Value) (k:Nat) (cs:Array Value),(∀v∈vs,v.cells.size=sz)->(k+vs.length)*sz<=cs.size->
 ∃r,Instr.fill (λi=>some (i*sz,sz)) cs ((vs.zipIdx k).map λx=>(x.2,x.1))=some r/\r.toList=cs.toList.take (k*sz)++vs.flatMap (·.cells.toList)++cs.toList.drop ((k+vs.length)*sz)/\r.size=cs.size
 | [],k,cs,_,_=>⟨cs,by simp[Instr.fill],by simp,rfl⟩
 |v::vs,k,cs,l,h=>by
  have g:v.cells.size=sz:=l v (by simp);have f:(k+(vs.length+1))*sz=k*sz+vs.length*sz+sz:=by rw[vA,tZ];omega
  simp only[rH,f]at h;have A:k*sz+v.cells.size<=cs.size:=ω
  have b:=Wr (k*sz) v.cells.toList 0 cs (by simp;omega);simp only[tD]at b;generalize t:(v.cells.toList.zipIdx 0).foldl (λcs (x:Value×Nat)=>cs.setIfInBounds (k*sz+x.2) x.1) cs=d at b;have j:d.size=cs.size:=by
   have:=sA List.length b;simp only[sE,rS,rA,sW]at this;omega
  have a:(k+1+vs.length)*sz=k*sz+vs.length*sz+sz:=by rw[vA,vA];omega
  obtain⟨r,u,w,y⟩:=A0d sz vs (k+1) d (λx hx=>l x (by simp[hx])) (by rw[a,j];exact h);refine⟨r,?_,?_,by rw[y,j]⟩
  . simp only[g2e,rT];unfold Instr.fill;simp only[g];rw[qG (by simp;omega)];rw[<-u, <-t, <-g4l];simp
  rw[w,b];have o:(k+1)*sz=k*sz+sz:=tZ k sz;have s:(k+(vs.length+1))*sz=(k+1+vs.length)*sz:=by rw[a,f]
  have z:(cs.toList.take (k*sz)).length=k*sz:=by simp;omega
  have n:v.cells.toList.length=sz:=by simpa using g
  rw[o,yT,rH,s];have c:(cs.toList.take (k*sz)++v.cells.toList).length=k*sz+sz:=by rw[rS,z,n]
  congr 1
  . rw[<-uP,g0u c]
  rw[g5f,sF (by rw[c,a];omega),wP,wA,c,n,a];congr 1;omega
end frames
def Frs (n:Nat) (v:Value):Prop:=∀g,v.ownBlock=some g->n<=g
def SlR.chg {α:Type} {w w':World} {sz b:Nat} {f:α->List Value} {v:Value} {l:List α} (h:SlR w sz f v l) (k:WT b w w') (s:∀g,v.ownBlock=some g->g≠b):SlR w' sz f v l:=by
 rcases h with h| ⟨a,y,i,c,n,o⟩
 . exact .inl h
 refine .inr ⟨a,y,i,c,n,λu d r x z t=>?_⟩;have j:a≠b:=s a (by rw[c];rfl);have:=o u d r x z t;rw[K5]at this|-;rw[B4k k j];exact this
def nZ.frs {α:Type} {w:World} {a e sz n:Nat} {f:α->List Value} {v:Value} {l:List α} (h:nZ w a e sz f v l) (b:n<=a):Frs n v:=λg a=>by have:=(World.ownsRow.lt h g a).1;omega
def fU (v v2:Value):Prop:=∀g,v.ownBlock=some g->v2.ownBlock≠some g
def fU.symm {v v2:Value} (h:fU v v2):fU v2 v:=λg a b=>h g b a
section
variable {α β:Type} {w w':World} {base e sz base2 e2 sz2:Nat} {f:α->List Value} {f2:β->List Value} {v v' v2:Value} {l:List α} {l2:List β}
def fU.append (d:fU v v2) (c:nZ w base2 e2 sz2 f2 v2 l2) (h:v'.ownBlock=v.ownBlock\/v'.ownBlock=some w.heap.size):fU v' v2:=by
 intro g a b;rcases h with h|h
 . exact d g (h▸a) b
 rw[a]at h;have:=(World.ownsRow.lt c g b).2;cases h;omega
end
inductive Pl where
 |done
 |q (i:Nat) (p:Pl)
 |p (i:Nat) (p:Pl)
 |e (i:Nat) (p:Pl)
 |or (i:Nat) (p:Pl) (q:Pl)
 |al (is js:List Nat) (p:Pl)
def Gq (all:List Oper) (i:Nat):Nat:=((all[i]?).bind (·.dst)).getD 0
def Bj (all:List Oper) (l:List Nat):List Nat:=l.map (Gq all)
def iU (all:List Oper) (i:Nat):List Nat:=match all[i]? with
 |some o=>o.op.operands.toList.filterMap λx=>match x with| .tmp t=>some t| _=>none
 |none=> []
def mX (all:List Oper) (i:Nat):Bool:=match all[i]? with
 |some o=>o.dst.isSome&&o.guard.isNone&&(match o.op with| .select _ _=>false| _=>true)
 |none=>false
def rm (i:Nat) (l:List Nat):List Nat:=l.filter λk=> !Nat.beq k i
def C3g (l a:List Nat):Bool:=l.all λx=> !a.contains x
def ZT:List Nat->Bool
 | []=>true
 |x::r=> !r.contains x&&ZT r
def B0g (all:List Oper) (a b:List Nat):Bool:=(a++b).all (mX all)&&ZT (a++b)&&ZT (Bj all (a++b))&&a.all λi=>C3g (iU all i) (Bj all (a++b))
def B0f (all:List Oper) (tails:List Nat) (b:Nat->Array Bool->Bool):Nat->List Nat->List Nat->Array Bool->Bool
 |0,ri,a,listed=>ri.isEmpty&&a.isEmpty&&b 0 listed
 |f+1,ri,a,listed=>match a.find? λj=>(Region.ready .any all.toArray listed).contains j&&Region.free .any all.toArray listed j with
  |some j=> !tails.contains j&&C3g (iU all j) (Bj all (ri++a))&&B0f all tails b f ri (rm j a) (listed.setIfInBounds j true)
  |none=>match ri with
   | []=>a.isEmpty&&b (f+1) listed
   |i0::c=>(Region.ready .any all.toArray listed==i0::c)&&(i0::c).all λi=> !tails.contains i&&B0f all tails b f (rm i (i0::c)) a (listed.setIfInBounds i true)
def Gr (all:List Oper) (f:Nat->Nat->Value) (X:Nat->Obj):List Nat->H5->World->H5×World
 | [],E,w=>(E,w)
 |i::r,E,w=>Gr all f X r (upd E (Gq all i) (f i w.heap.size)) (w.alloc (X i))
def AlV (P:Program) (all:List Oper) (a:List Nat) (F:H5):Prop:=∀j∈a,∃o,all[j]? =some o/\∀w,(execOp (ev F) o).run P w= .ok (.value (F (Gq all j))) w
structure B3n (P:Program) (R:World->World->Prop) (all:List Oper) (is js:List Nat) (f:Nat->Nat->Value) (X:Nat->Obj) (nx:H5->World->Prop) (E:H5) (w:World):Prop where
 one:∀i∈is,∃o,all[i]? =some o/\∀w',(execOp (ev E) o).run P w'= .ok (.value (f i w'.heap.size)) (w'.alloc (X i))
 rel:∀i∈is,∀w',R w w'->R w' (w'.alloc (X i))
 fin:∀l,l.Perm is->∃F,(∀x,x∉Bj all js->F x=(Gr all f X l E w).1 x)/\AlV P all js F/\nx F (Gr all f X l E w).2
def Sw (all:List Oper) (a tails:List Nat):Pl->Nat->Array Bool->Option (List Nat)->Bool
 | .done,_,listed,al=>al.isNone&&(Region.ready .any all.toArray listed).isEmpty
 | .q i p,fuel,listed,al=>match fuel with
  |0=>false
  |fuel+1=>al.isNone&&a.contains i&& !tails.contains i&&Region.free .any all.toArray listed i&&(Region.ready .any all.toArray listed).contains i&&Sw all a tails p fuel (listed.setIfInBounds i true) none
 | .p i p,fuel,listed,al=>match fuel with
  |0=>false
  |fuel+1=>al.isNone&& !tails.contains i&&Region.free .any all.toArray listed i&&(Region.ready .any all.toArray listed).contains i&&Sw all a tails p fuel (listed.setIfInBounds i true) none
 | .e i p,fuel,listed,al=>match fuel with
  |0=>false
  |fuel+1=>(al.getD (Region.ready .any all.toArray listed)== [i])&&Sw all a tails p fuel (listed.setIfInBounds i true) none
 | .or i p q,fuel,listed,al=>match fuel with
  |0=>false
  |fuel+1=>match al.getD (Region.ready .any all.toArray listed)with
   | []=>false
   |j::b=>Nat.beq i j&&Sw all a tails p fuel (listed.setIfInBounds i true) none&&Sw all a tails q (fuel+1) listed (some b)
 | .al b c p,fuel,listed,al=>al.isNone&&B0g all b c&&B0f all tails (λf l=>Sw all a tails p f l none) fuel b c listed
def C4l (all:List Oper) (a tails:List Nat) (p:Pl):Bool:=Region.noSelect all.toArray&&FC all a tails&&Sw all a tails p all.length (Array.replicate all.length false) none
def YD (P:Program) (R:World->World->Prop) (all:List Oper) (tails:List Nat) (next:H5->World->Prop):Pl->Bool->H5->World->Prop
 | .done,_=>next
 | .q i p,t=>λE w=>∃o,all[i]? =some o/\Rb P (R w) all o (YD P R all tails next p t) E w
 | .p i p,t=>λE w=>∃o,all[i]? =some o/\Rb P (λ_=>True) all o (YD P R all tails next p t) E w
 | .e i p,t=>λE w=>∃o,all[i]? =some o/\K3 P all o (λE' a=>((t||tails.contains i)=true\/R w a)/\YD P R all tails next p (t||tails.contains i) E' a) E w
 | .or i p q,t=>λE w=>(∃o,all[i]? =some o/\K3 P all o (λE' a=>((t||tails.contains i)=true\/R w a)/\YD P R all tails next p (t||tails.contains i) E' a) E w)/\YD P R all tails next q t E w
 | .al a b p,t=>λE w=>∃f X,B3n P R all a b f X (YD P R all tails next p t) E w
section
variable {P:Program} {ops:Array Oper} {Q:Exit->Act->World->Prop} {S S':World->Prop} {tails:List Nat}
def Km (c:∀w,S w->S' w):∀(fuel:Nat) (listed:Array Bool) (a:Act) (w:World),Z7 P ops Q S tails fuel listed a w->Z7 P ops Q S' tails fuel listed a w
 |0,_,_,_,h=>h
 |fuel+1,_,_,_,h=>⟨h.1,λi g=>wpOp_mono (λf d b=>⟨b.1.imp id (c d),Km c fuel _ f d b.2⟩) (h.2 i g)⟩
def UI:∀(fuel:Nat) (listed:Array Bool) (a:Act) (w:World),H6 tails listed=true->Z7 P ops Q S tails fuel listed a w->Z7 P ops Q S' tails fuel listed a w
 |0,_,_,_,_,h=>h
 |fuel+1,_,_,_,b,h=>⟨h.1,λi f=>wpOp_mono (λc g d=>⟨.inl (Dx b),UI fuel _ c g (Dx b) d.2⟩) (h.2 i f)⟩
end
def Mn:∀ {l:List Nat},ZT l=true->l.Nodup
 | [],_=>yD
 |x::r,h=>by
  simp only[ZT,qC,rO]at h;exact sS.2 ⟨S0 h.1,Mn h.2⟩
def mF {i k:Nat} {l:List Nat} :k∈rm i l↔k∈l/\k≠i:=by
 unfold rm;rw[zQ];refine g3e λ_=>⟨λh e=>by subst e;simp at h,λh=>by rw[F1 h];rfl⟩
def A9o {i:Nat} :∀ {l:List Nat},l.Nodup->i∈l->(i::rm i l).Perm l
 | [],_,h=>by cases h
 |x::r,f,h=>by
  obtain⟨b,c⟩:=sS.1 f;by_cases a:x=i
  . subst a;have:rm x (x::r)=r:=by
     unfold rm;rw[g2c,qG (by simp)];exact g0x.2 λk d=>by rw[F1 (show k≠x from λe=>b (by rw[<-e];exact d))];rfl
    rw[this]
  have:rm i (x::r)=x::rm i r:=by
   unfold rm;rw[g2c,qK (by rw[F1 a];rfl)]
  rw[this];rcases qV.1 h with h|h
  . exact absurd h.symm a
  exact(List.Perm.swap x i _).trans ((A9o c h).cons x)
def SF {l a:List Nat} (h:C3g l a=true):∀x∈l,x∉a:=λx a=>by
 have:=tI.1 h x a;simp only[rO]at this;exact S0 this
def BF {all:List Oper} {i:Nat} {o:Oper} (h:mX all i=true) (c:all[i]? =some o):o.dst=some (Gq all i)/\o.guard=none/\∀cs b,o.op≠ .select cs b:=by
 unfold mX at h;rw[c]at h;simp only[qC,vM]at h;refine⟨?_,h.1.2,λcs b e=>by rw[e]at h;simp at h⟩;cases a:o.dst with
 |none=>rw[a]at h;simp at h
 |some d=>simp[Gq,c,a]
def B1r {all:List Oper} {i:Nat} {o:Oper} {t:Nat} (a:all[i]? =some o) (h:Operand.tmp t∈o.op.operands):t∈iU all i:=by
 unfold iU;rw[a];exact List.mem_filterMap.2 ⟨.tmp t,by simpa using h,rfl⟩
def QD {all:List Oper} {i:Nat} {o:Oper} {E E':H5} (a:all[i]? =some o) (c:∀cs b,o.op≠ .select cs b) (h:∀t∈iU all i,E t=E' t):execOp (ev E) o=execOp (ev E') o:=
 execOp_congr o c λx d=>by
  cases x with
  |tmp t=>exact h t (B1r a d)
  | _=>rfl
def BM {all:List Oper} {f:Nat->Nat->Value} {X:Nat->Obj} :∀(a b:List Nat) (E:H5) (w:World),Gr all f X (a++b) E w=Gr all f X b (Gr all f X a E w).1 (Gr all f X a E w).2
 | [],_,_,_=>rfl
 |i::a,b,E,w=>BM a b _ _
def Ja {all:List Oper} {f:Nat->Nat->Value} {X:Nat->Obj} {x:Nat} :∀(l:List Nat) (E:H5) (w:World),x∉Bj all l->(Gr all f X l E w).1 x=E x
 | [],_,_,_=>rfl
 |i::l,E,w,h=>by
  simp only[Bj,rT,qV,g5m]at h;simp only[Gr];rw[Ja l _ _ h.2,C5 _ _ _ _ h.1]
def L3 {all:List Oper} {l:List Nat} {x:Nat} :x∈Bj all l↔∃i∈l,Gq all i=x:=by simp[Bj]
def lG {all:List Oper} :∀ {l:List Nat},(Bj all l).Nodup->∀ {i k:Nat},i∈l->k∈l->i≠k->Gq all i≠Gq all k
 | [],_,_,_,h,_,_=>by cases h
 |x::r,c,i,k,hi,a,d=>by
  simp only[Bj,rT]at c;obtain⟨b,f⟩:=sS.1 c;rcases qV.1 hi with hi|hi<;>rcases qV.1 a with a|a
  . exact absurd (hi.trans a.symm) d
  . rw[hi];exact λe=>b (L3.2 ⟨k,a,e.symm⟩)
  . rw[a];exact λe=>b (L3.2 ⟨i,hi,e⟩)
  exact lG f hi a d
def C4w {P:Program} {R:World->World->Prop} (bq:∀w,R w w) (b2:∀ {a b c},R a b->R b c->R a c) {n:Nat} {all:List Oper} {a4 tails O s:List Nat} (av:pV n all=true) (bs:Region.noSelect all.toArray=true) (bw:FC all a4 tails=true) {Q:Exit->Act->World->Prop} (bg:∀(c:List PanicEntry) (a a1:Act) (w:World),Q (.panic c) a1 w->Q (.panic c) a w)
 {ap:Nat->Array Bool->Bool} {b8:H5->World->Prop} {t:Bool} {f:Nat->Nat->Value} {X:Nat->Obj} {E:H5} {w:World} (b1:B0g all O s=true) (a0:B3n P R all O s f X b8 E w)
 (bk:∀(l:Nat) (listed:Array Bool) (a:Act) (E':H5) (w':World),ap l listed=true->dR all.toArray a4 tails listed->t=H6 tails listed->C9 n a E'->b8 E' w'->Z7 P all.toArray Q (R w') tails l listed a w'):
 ∀(l:Nat) (ri I:List Nat) (listed:Array Bool),B0f all tails ap l ri I listed=true->dR all.toArray a4 tails listed->t=H6 tails listed->∀(a:Act) (Ec:H5) (g:List Nat),C9 n a Ec->(g++ri).Perm O->(∀j∈I,j∈s)->
  (∀r,r.Perm ri->∀F,(∀x,x∉Bj all s->F x=(Gr all f X (g++r) E w).1 x)->AlV P all s F->∀x,x∉Bj all (ri++I)->F x=Ec x)->R w (Gr all f X g E w).2->
  Z7 P all.toArray Q (R (Gr all f X g E w).2) tails l listed a (Gr all f X g E w).2:=by
 simp only[B0g,qC,tI]at b1;obtain⟨⟨⟨ba,a7⟩,a8⟩,bz⟩:=b1;have a7:=Mn a7;have a8:=Mn a8;have b3:=BR bw;have fin:∀(l:Nat) (listed:Array Bool),ap l listed=true->dR all.toArray a4 tails listed->t=H6 tails listed->∀(a:Act) (Ec:H5) (g:List Nat),C9 n a Ec->(g++ []).Perm O->(∀r,r.Perm []->∀F,(∀x,x∉Bj all s->F x=(Gr all f X (g++r) E w).1 x)->AlV P all s F->∀x,x∉Bj all ([]++ [])->F x=Ec x)->Z7 P all.toArray Q (R (Gr all f X g E w).2) tails l listed a (Gr all f X g E w).2:=by
  intro l listed z o D a Ec g B A y;obtain⟨F,h,i,k⟩:=a0.fin g (by simpa using A);have:F=Ec:=funext λx=>y [] (wX _) F (by simpa using h) i x (by simp[Bj])
  subst this;exact bk l listed a F _ z o D B k
 intro l
 induction l with
 |zero=>
  intro ri I listed h i z a Ec g y o _ k _;simp only[B0f,qC,g0m]at h;obtain⟨⟨rfl,rfl⟩,h⟩:=h;exact fin 0 listed h i z a Ec g y o k
 |succ l b7=>
  intro ri I listed z W ah a Ec g Z A T Y a9;simp only[B0f]at z;split at z
  . rename_i j ar;simp only[qC,rO]at z;obtain⟨⟨an,ao⟩,bx⟩:=z;have ad:j∈I:=List.mem_of_find?_eq_some ar;have ae:=List.find?_some ar;simp only[qC]at ae;have ay:j∈Region.ready .any all.toArray listed:=by simpa using ae.1
    have a5:=S0 an;have bu:=SF ao;obtain⟨F0,a2,a3,_⟩:=a0.fin (g++ri) A;obtain⟨G,D,a6⟩:=a3 j (T j ad);obtain⟨aa,ac,af⟩:=BF (ba j (tN _ (T j ad))) D;have aw:all.toArray[j]? =some G:=by simpa using D
    have bb:∀r,r.Perm ri->∀F,(∀x,x∉Bj all s->F x=(Gr all f X (g++r) E w).1 x)->AlV P all s F->execOp (ev F) G=execOp (ev Ec) G:=λr N F H J=>QD D af λu hu=>Y r N F H J u (bu u hu)
    have aq:=bb ri (wX _) F0 a2 a3;have ai:t=H6 tails (listed.setIfInBounds j true):=by rw[J3 a5];exact ah
    have aj:E1 all G Ec=true:=by simp[E1,ac]
    refine DW (v:=F0 (Gq all j)) aw a5 (Region.noSelect_spec bs) (λc a w B=>bg c a _ w B) l listed a _ (Region.free_spec aw ae.2) ay (.inl ⟨by rw[Z.wanted];exact aj,λw' _=>by rw[Z.ev, <-aq];exact a6 w'⟩) (.inr (bq _)) ?_;refine b7 ri (rm j I) _ bx (W.set b3 ay) ai _ (upd Ec (Gq all j) (F0 (Gq all j))) g ?_ A (λk h=>T k (mF.1 h).1) (λr N F H J x U=>?_) a9
    . have:=Z.put G.dst (F0 (Gq all j)) λd W=>by
       have:=tI.1 av G (sY D);simpa[W]using this
      rw[aa]at this|-;exact this
    by_cases am:x=Gq all j
    . subst am;rw[C2];obtain⟨c0,ax,bv⟩:=J j (T j ad);rw[D]at ax;cases ax;have V:=bv w;rw[bb r N F H J, <-aq,a6 w]at V;simp only[Result.ok.injEq,Next.value.injEq,vR]at V;exact V.symm
    rw[C5 _ _ _ _ am];refine Y r N F H J x λo=>U ?_
    obtain⟨i,y,e⟩:=L3.1 o;refine L3.2 ⟨i,?_,e⟩;rcases qZ.1 y with y|y
    . exact sJ _ y
    exact tN _ (mF.2 ⟨y,λB=>am (by rw[<-e,B])⟩)
  split at z
  . simp only[qC,g0m]at z;obtain⟨rfl,z⟩:=z;exact fin _ listed z W ah a Ec g Z A Y
  rename_i b6 b9;have bn:b6::b9≠ []:=by simp
  generalize b6::b9=ri at*;simp only[qC,tI,g1p,rO]at z;obtain⟨az,bh⟩:=z;unfold Z7;refine⟨λbc=>absurd (az.symm.trans bc) bn,λi y=>?_⟩;have bl:=y;rw[az]at y;obtain⟨an,ao⟩:=bh i y;have a5:=S0 an;have M:i∈O:=A.subset (tN _ y);have bm:(g++ri).Nodup:=A.nodup_iff.2 (tL.1 a7).1;obtain⟨G,D,a6⟩:=a0.one i M;obtain⟨aa,ac,af⟩:=BF (ba i (sJ _ M)) D;obtain⟨F0,a2,a3,_⟩:=a0.fin (g++ri) A;have bf:∀x,x∉Bj all (O++s)->Ec x=E x:=λx U=>by
   have b4:x∉Bj all O:=λo=>U (by obtain⟨k,h,e⟩:=L3.1 o;exact L3.2 ⟨k,sJ _ h,e⟩)
   have b5:x∉Bj all s:=λo=>U (by obtain⟨k,h,e⟩:=L3.1 o;exact L3.2 ⟨k,tN _ h,e⟩)
   have V:=Y ri (wX _) F0 a2 a3 x λo=>by
    obtain⟨k,h,e⟩:=L3.1 o;rcases qZ.1 h with h|h
    . exact b4 (L3.2 ⟨k,A.subset (tN _ h),e⟩)
    exact b5 (L3.2 ⟨k,T k h,e⟩)
   rw[<-V,a2 x b5];exact Ja _ _ _ λo=>by
    obtain⟨k,h,e⟩:=L3.1 o;exact b4 (L3.2 ⟨k,A.subset h,e⟩)
  have bj:=QD (E:=Ec) (E':=E) D af λu hu=>bf u (SF (bz i M) u hu)
  have ai:t=H6 tails (listed.setIfInBounds i true):=by rw[J3 a5];exact ah
  have aj:E1 all G Ec=true:=by simp[E1,ac]
  have bt:K3 P all G (λE' w'=>E'=upd Ec (Gq all i) (f i (Gr all f X g E w).2.heap.size)/\w'=(Gr all f X g E w).2.alloc (X i)) Ec (Gr all f X g E w).2:=by
   unfold K3;rw[qK aj,bj,a6,aa];exact⟨rfl,rfl⟩
  have ag:=a0.rel i M _ a9;refine JQ av D (λa1 E' w' bp B=>?_) Z bt;obtain⟨rfl,rfl⟩:=B;refine⟨.inr ag,?_⟩;have ab:Gr all f X (g++ [i]) E w=(upd (Gr all f X g E w).1 (Gq all i) (f i (Gr all f X g E w).2.heap.size),(Gr all f X g E w).2.alloc (X i)):=by rw[BM];rfl
  have b0:=A9o (tL.1 bm).2.1 y;have:=b7 (rm i ri) I _ ao (W.set b3 bl) ai a1 _ (g++ [i]) bp (by
   rw[uP];exact(g3g g b0).trans A) T (λr N F H J x U=>?_) (by rw[ab];exact b2 a9 ag)
  . rw[ab]at this;exact Km (λc2 be=>b2 ag be) l _ a1 _ this
  have bi:(i::r).Perm ri:=(N.cons i).trans b0;rw[uP]at H;by_cases ak:x=Gq all i
  . subst ak;have bo:Gq all i∉Bj all s:=λo=>by
     obtain⟨k,h,e⟩:=L3.1 o;exact lG a8 (tN _ h) (sJ _ M) (λB=>by
      subst B;exact(tL.1 a7).2.2 k M k h rfl) e
    rw[H _ bo,C2,show g++([i]++r)=(g++ [i])++r from(uP _ _ _).symm,BM,ab];refine(Ja _ _ _ λo=>?_).trans (C2 _ _ _);obtain⟨k,h,e⟩:=L3.1 o;have au:=mF.1 (N.subset h);exact lG a8 (sJ _ (A.subset (tN _ au.1))) (sJ _ M) au.2 e
  rw[C5 _ _ _ _ ak];refine Y (i::r) bi F H J x λo=>U ?_
  obtain⟨k,h,e⟩:=L3.1 o;refine L3.2 ⟨k,?_,e⟩;rcases qZ.1 h with h|h
  . exact sJ _ (mF.2 ⟨h,λB=>ak (by rw[<-e,B])⟩)
  exact tN _ h
def B5d {P:Program} {R:World->World->Prop} (N:∀w,R w w) (a8:∀ {a b c},R a b->R b c->R a c) {n:Nat} {all:List Oper} {J tails:List Nat} (a1:pV n all=true) (U:Region.noSelect all.toArray=true) (I:FC all J tails=true) {Q:Exit->H5->World->Prop} (aa:∀c E w,¬Q (.panic c) E w):
 ∀(p:Pl) (f:Nat) (listed:Array Bool) (al:Option (List Nat)),Sw all J tails p f listed al=true->dR all.toArray J tails listed->∀(t:Bool),t=H6 tails listed->∀(a:Act) (E:H5) (w:World),C9 n a E->(∀l,al=some l->∀i∈l,i∈Region.ready .any all.toArray listed)->YD P R all tails (Q .normal) p t E w->
  match al with
  |none=>Z7 P all.toArray (GA n Q) (R w) tails f listed a w
  |some l=>∃D,f=D+1/\∀i∈l,wpOp P all.toArray (GA n Q) i (λu o=>(H6 tails (listed.setIfInBounds i true)=true\/R w o)/\Z7 P all.toArray (GA n Q) (R w) tails D (listed.setIfInBounds i true) u o) a w:=by
 have T:∀(c:List PanicEntry) (a u:Act) (w:World),GA n Q (.panic c) u w->GA n Q (.panic c) a w:=λc a u w ⟨E,_,h⟩=>(aa c E w h).elim
 have V:∀(i:Nat) (y:Oper),all[i]? =some y->∀d,y.dst=some d->d<n:=λi y B d s=>by
  have:=tI.1 a1 y (sY B);simpa[s]using this
 have M:=BR I;have one:∀(i:Nat) (p:Pl) (f:Nat) (listed:Array Bool) (t:Bool) (a:Act) (E:H5) (w:World),(∀(f:Nat) (listed:Array Bool) (al:Option (List Nat)),Sw all J tails p f listed al=true->dR all.toArray J tails listed->∀(t:Bool),t=H6 tails listed->∀(a:Act) (E:H5) (w:World),C9 n a E->(∀l,al=some l->∀i∈l,i∈Region.ready .any all.toArray listed)->YD P R all tails (Q .normal) p t E w->
  match al with
  |none=>Z7 P all.toArray (GA n Q) (R w) tails f listed a w
  |some l=>∃D,f=D+1/\∀i∈l,wpOp P all.toArray (GA n Q) i (λu o=>(H6 tails (listed.setIfInBounds i true)=true\/R w o)/\Z7 P all.toArray (GA n Q) (R w) tails D (listed.setIfInBounds i true) u o) a w)->
  Sw all J tails p f (listed.setIfInBounds i true) none=true->dR all.toArray J tails listed->t=H6 tails listed->C9 n a E->i∈Region.ready .any all.toArray listed->(∃y,all[i]? =some y/\K3 P all y (λE' o=>((t||tails.contains i)=true\/R w o)/\YD P R all tails (Q .normal) p (t||tails.contains i) E' o) E w)->
  wpOp P all.toArray (GA n Q) i (λu o=>(H6 tails (listed.setIfInBounds i true)=true\/R w o)/\Z7 P all.toArray (GA n Q) (R w) tails f (listed.setIfInBounds i true) u o) a w:=by
  intro i p f listed t a E w A g s z k Z ⟨y,B,h⟩;have H:(t||tails.contains i)=H6 tails (listed.setIfInBounds i true):=by rw[pB (B8p Z),z]
  refine JQ a1 B (λu E' o a2 j=>⟨H▸j.1,?_⟩) k h;have:=A f _ none g (s.set M Z) _ H u E' o a2 (λ_ j=>by cases j) j.2;simp only at this;rcases j.1 with a0|a0
  . exact UI f _ u o (H▸a0) this
  exact Km (λah O=>a8 a0 O) f _ u o this
 intro p
 induction p with
 |done=>
  intro f listed al g _ t _ a E w k _ h;simp only[Sw,qC,vM]at g;obtain⟨rfl,g⟩:=g;have D:Region.ready .any all.toArray listed= []:=by simpa using g
  cases f with
  |zero=>exact⟨D,E,k,h⟩
  |succ f=>exact⟨λ_=>⟨E,k,h⟩,by rw[D];simp⟩
 |q i p A=>
  intro f listed al g s t z a E w k _ h;cases f with
  |zero=>simp[Sw]at g
  |succ f=>
   simp only[Sw,qC,rO,vM]at g;obtain⟨⟨⟨⟨⟨rfl,Y⟩,G⟩,a3⟩,D⟩,g⟩:=g;have Y:i∈J:=by simpa using Y
   have G:=S0 G;have D:i∈Region.ready .any all.toArray listed:=by simpa using D
   obtain⟨y,B,h⟩:=h;have W:all.toArray[i]? =some y:=by simpa using B
   have H:t=H6 tails (listed.setIfInBounds i true):=by rw[J3 G];exact z
   rcases h with⟨I,v,a5,h⟩ | ⟨I,h⟩
   . refine OU (v:=v) W Y G (Region.noSelect_spec U) M (λc a w j=>T c a _ w j) f listed a w s (Region.free_spec W a3) D (.inl ⟨by rw[k.wanted];exact I,λo a4=>by rw[k.ev];exact a5 o a4⟩) (N w) ?_;exact A f _ none g (s.set M D) t H _ _ w (k.put _ _ (V i y B)) (λ_ j=>by cases j) h
   refine OU (v:=undef) W Y G (Region.noSelect_spec U) M (λc a w j=>T c a _ w j) f listed a w s (Region.free_spec W a3) D (.inr ⟨by rw[k.wanted];exact I,rfl⟩) (N w) ?_;exact A f _ none g (s.set M D) t H _ _ w (k.put _ _ (V i y B)) (λ_ j=>by cases j) h
 |p i p A=>
  intro f listed al g s t z a E w k _ h;cases f with
  |zero=>simp[Sw]at g
  |succ f=>
   simp only[Sw,qC,rO,vM]at g;obtain⟨⟨⟨⟨rfl,G⟩,Y⟩,D⟩,g⟩:=g;have G:=S0 G;have D:i∈Region.ready .any all.toArray listed:=by simpa using D
   obtain⟨y,B,h⟩:=h;have W:all.toArray[i]? =some y:=by simpa using B
   have H:t=H6 tails (listed.setIfInBounds i true):=by rw[J3 G];exact z
   rcases h with⟨I,v,a4,h⟩ | ⟨I,h⟩
   . refine DW (v:=v) W G (Region.noSelect_spec U) (λc a w j=>T c a _ w j) f listed a w (Region.free_spec W Y) D (.inl ⟨by rw[k.wanted];exact I,λo a3=>by rw[k.ev];exact a4 o a3⟩) (.inr (N w)) ?_;exact A f _ none g (s.set M D) t H _ _ w (k.put _ _ (V i y B)) (λ_ j=>by cases j) h
   refine DW (v:=undef) W G (Region.noSelect_spec U) (λc a w j=>T c a _ w j) f listed a w (Region.free_spec W Y) D (.inr ⟨by rw[k.wanted];exact I,rfl⟩) (.inr (N w)) ?_;exact A f _ none g (s.set M D) t H _ _ w (k.put _ _ (V i y B)) (λ_ j=>by cases j) h
 |e i p A=>
  intro f listed al g s t z a E w k a3 h;cases f with
  |zero=>simp[Sw]at g
  |succ f=>
   simp only[Sw,qC,g1p]at g;obtain⟨D,g⟩:=g;cases al with
   |none=>
    simp only[g2l]at D;have Z:i∈Region.ready .any all.toArray listed:=by rw[D];simp
    refine⟨λG=>by rw[D]at G;simp at G,?_⟩;intro Y W;obtain rfl:Y=i:=by rw[D]at W;simpa using W
    exact one Y p f listed t a E w A g s z k Z h
   |some l=>
    simp only[vW]at D;subst D;refine⟨f,rfl,λG W=>?_⟩;obtain rfl:G=i:=by simpa using W
    exact one G p f listed t a E w A g s z k (a3 _ rfl G (by simp)) h
 |or i p q ae af=>
  intro f listed al g s t z a E w k ab h;cases f with
  |zero=>simp[Sw]at g
  |succ f=>
   simp only[Sw]at g;cases D:al.getD (Region.ready .any all.toArray listed)with
   |nil=>rw[D]at g;simp at g
   |cons ag a3=>
    rw[D]at g;simp only[qC]at g;obtain⟨⟨Y,ac⟩,ad⟩:=g;have Y:=qD Y;subst Y;have a7:∀m∈i::a3,m∈Region.ready .any all.toArray listed:=λm G=>by
     cases al with
     |none=>rw[g2l]at D;rw[D];exact G
     |some l=>rw[vW]at D;exact ab l rfl m (by rw[D];exact G)
    have a9:=one i p f listed t a E w ae ac s z k (a7 i (by simp)) h.1;have O:=af (f+1) listed (some a3) ad s t z a E w k (λl j m G=>by cases j;exact a7 m (by simp[G])) h.2;obtain⟨W,a6,O⟩:=O;have a6:W=f:=ω
    subst a6;have a5:∀m∈i::a3,wpOp P all.toArray (GA n Q) m (λu o=>(H6 tails (listed.setIfInBounds m true)=true\/R w o)/\Z7 P all.toArray (GA n Q) (R w) tails W (listed.setIfInBounds m true) u o) a w:=λm G=>by
     rcases qV.1 G with rfl|G
     . exact a9
     exact O m G
    cases al with
    |none=>
     rw[g2l]at D;exact⟨λa4=>by rw[D]at a4;simp at a4,λm G=>a5 m (by rw[D]at G;exact G)⟩
    |some l=>
     rw[vW]at D;subst D;exact⟨W,rfl,a5⟩
 |al ac a3 p A=>
  intro f listed al g s t z a E w k _ h;simp only[Sw,qC,vM]at g;obtain⟨⟨rfl,a9⟩,g⟩:=g;obtain⟨ae,X,a7⟩:=h;refine C4w N a8 a1 U I T (t:=t) a9 a7 (λa4 ad u E' o a6 a5 H a2 D=>A a4 ad none a6 a5 t H u E' o a2 (λ_ j=>by cases j) D) f ac a3 listed g s z a E [] k (wX _) (λ_ j=>j) (λr hrp F g1 g2 x D=>?_) (N w);have ab:x∉Bj all a3:=λW=>D (by obtain⟨Y,G,e⟩:=L3.1 W;exact L3.2 ⟨Y,tN _ G,e⟩)
  rw[g1 x ab,wP];exact Ja _ _ _ λW=>D (by obtain⟨Y,G,e⟩:=L3.1 W;exact L3.2 ⟨Y,sJ _ (hrp.subset G),e⟩)
end Go.Gw
namespace Go.Vc
open Go Go.RowKit Go.Gw
open Go.IntKind (i64)
inductive Ty where
 |int (k:IntKind)
 |bool
 |str
 |unit
 |pair (a b:Ty)
 |sl (t:Ty)
 |ptr (t:Ty)
 |mp (ka:Bool) (kt:Ty) (va:Bool) (vt:Ty)
 deriving DecidableEq
@[reducible] def Ty.den:Ty->Type
 | .int _=>Int
 | .bool=>Bool
 | .str=>ByteArray
 | .unit=>Unit
 | .pair a b=>a.den×b.den
 | .sl t=>List t.den
 | .ptr t=>t.den
 | .mp _ a _ b=>List (a.den×b.den)
def Ty.size:Ty->Nat
 | .unit=>0
 | .pair a b=>a.size+b.size
 | _=>1
def Ty.dflt:(t:Ty)->t.den
 | .int _=>(0:Int)
 | .bool=>false
 | .str=>⟨#[]⟩
 | .unit=>()
 | .pair a b=>(a.dflt,b.dflt)
 | .sl _=> []
 | .ptr t=>t.dflt
 | .mp _ _ _ _=> []
def GZ (k:IntKind) (n:Int):Prop:=k.min<=n/\n<=k.max
def Ty.wf:(t:Ty)->t.den->Prop
 | .int k,n=>GZ k n
 | .bool,_=>True
 | .str,_=>True
 | .unit,_=>True
 | .pair a b,x=>a.wf x.1/\b.wf x.2
 | .sl t,l=>l.length<=9223372036854775807/\∀x∈l,t.wf x
 | .ptr t,x=>t.wf x
 | .mp _ a _ b,l=>∀x∈l,a.wf x.1/\b.wf x.2
def G8 {α:Type} (R:List Value->α->Prop):List Value->List α->Prop
 |a,[]=>a= []
 |b,x::l=>∃c1 a,b=c1++a/\R c1 x/\G8 R a l
def V4 {α:Type} (R:List Value->α->Prop):Bool->Value->α->Prop
 |true,v,x=>∃a:List Value,v= .agg a.toArray/\R a x
 |false,v,x=>R [v] x
def MOk (a:Array MapEntry) (b:Nat):Prop:=(∀x∈a.toList,x.born<b)/\(a.toList.map (·.born)).Nodup
def T5 {a b:Type} (Rk:Value->a->Prop) (Rv:Value->b->Prop):List MapEntry->List (a×b)->Prop
 |a,[]=>a= []
 |b,x::l=>∃e a,b=e::a/\Rk e.key x.1/\Rv e.val x.2/\T5 Rk Rv a l
def C9:(t:Ty)->World->(Nat->Prop)->List Value->t.den->Prop
 | .int k,_,_,a,n=>a= [.int k n]/\GZ k n
 | .bool,_,_,a,b=>a= [.bool b]
 | .str,_,_,a,s=>a= [.string s]
 | .unit,_,_,a,_=>a= []
 | .pair b c,w,Z,d,x=>∃c1 a,d=c1++a/\C9 b w Z c1 x.1/\C9 c w Z a x.2
 | .sl t,w,Z,f,l=>∃b a,f= [.slice b l.length a]/\l.length<=a/\a<=maxLen/\(b=none->a=0)/\(l= []\/∃c o d,b=some ⟨c,o,none⟩/\Z c/\J0 w ⟨c,o,none⟩ d/\G8 (C9 t w Z) d l)
 | .ptr t,w,Z,c,x=>∃b o a,c= [.pointer (some ⟨b,o,none⟩)]/\Z b/\J0 w ⟨b,o,none⟩ a/\C9 t w Z a x
 | .mp f g h i,w,Z,d,l=>(d= [.map none]/\l= [])\/∃b a c,d= [.map (some b)]/\Z b/\w.heap[b]? =some (.map a c)/\MOk a c/\T5 (V4 (C9 g w Z) f) (V4 (C9 i w Z) h) a.toList l
def V4.mono {α:Type} {R R':List Value->α->Prop} (h:∀c x,R c x->R' c x):∀ {a:Bool} {v:Value} {x:α},V4 R a v x->V4 R' a v x
 |true,_,_,⟨b,e,d⟩=>⟨b,e,h _ _ d⟩
 |false,_,_,b=>h _ _ b
def T5.mono {b d:Type} {Rk Rk':Value->b->Prop} {Rv Rv':Value->d->Prop} (h:∀c x,Rk c x->Rk' c x) (a:∀c x,Rv c x->Rv' c x):∀ {l:List (b×d)} {es:List MapEntry},T5 Rk Rv es l->T5 Rk' Rv' es l
 | [],_,b=>b
 | _:: _,_,⟨e,b,i,d,f,g⟩=>⟨e,b,i,h _ _ d,a _ _ f,T5.mono h a g⟩
def T5.mem {b c:Type} {Rk:Value->b->Prop} {Rv:Value->c->Prop} :∀ {l:List (b×c)} {es:List MapEntry} {x:b×c},T5 Rk Rv es l->x∈l->∃e∈es,Rk e.key x.1/\Rv e.val x.2
 |y::l,_,x,⟨e,n,j,f,g,i⟩,a=>by
  rw[j];rcases qV.1 a with rfl|a
  . exact⟨e,by simp,f,g⟩
  obtain⟨d,k,h⟩:=T5.mem i a;exact⟨d,by simp[k],h⟩
section each
variable {α:Type} {R R':List Value->α->Prop}
def G8.mono (h:∀c x,R c x->R' c x):∀ {l:List α} {cs:List Value},G8 R cs l->G8 R' cs l
 | [],_,a=>a
 | _:: _,_,⟨c1,a,e,b,d⟩=>⟨c1,a,e,h _ _ b,G8.mono h d⟩
def G8.append:∀ {l a:List α} {cs cs':List Value},G8 R cs l->G8 R cs' a->G8 R (cs++cs') (l++a)
 | [],_,cs,cs',h,b=>by cases h;simpa using b
 | _:: _,_,_,cs',⟨c1,b,e,d,f⟩,c=>⟨c1,b++cs',by simp[e],d,G8.append f c⟩
def G8.length {s:Nat} (a:∀c x,R c x->c.length=s):∀ {l:List α} {cs:List Value},G8 R cs l->cs.length=l.length*s
 | [],_,h=>by cases h;simp
 | _::l,_,⟨c1,f,e,b,d⟩=>by
  have:=G8.length a d;rw[e,rS,a _ _ b,this,rH,tZ];omega
def G8.get {s:Nat} (f:∀c x,R c x->c.length=s):∀ {l:List α} {cs:List Value} {i:Nat} {x:α},G8 R cs l->l[i]? =some x->R ((cs.drop (i*s)).take s) x
 | [],_,_,_,_,a=>by simp at a
 |y::l,_,i,x,⟨c1,h,e,b,g⟩,a=>by
  have d:=f _ _ b;cases i with
  |zero=>
   simp at a;subst a;rw[e,xW,uH,g0u d];exact b
  |succ i=>
   simp at a;have:=G8.get f g a;rw[e,tZ,vS, <-wA,zP d];exact this
def G8.set {s:Nat} (g:∀c x,R c x->c.length=s):∀ {l:List α} {cs:List Value} {i:Nat} {x:α} {c:List Value},G8 R cs l->R c x->i<l.length->G8 R (cs.take (i*s)++c++cs.drop (i*s+s)) (l.set i x)
 | [],_,_,_,_,_,_,a=>by simp at a
 |y::l,_,i,x,c,⟨c1,h,e,b,d⟩,f,k=>by
  have a:=g _ _ b;cases i with
  |zero=>
   refine⟨c,h,?_,f,d⟩;rw[e,xW,rZ,g0h,wP,zP a]
  |succ i=>
   have n:i<l.length:=by simpa using k
   refine⟨c1,_,?_,b,G8.set g d f n⟩;have j:(i+1)*s=s+i*s:=by rw[tZ,vS]
   rw[e,j,g0n,qU ω,a,g2f,g5f,sF ω,a];simp[(ω:s+i*s+s-s=i*s+s)]
def G8.take {s:Nat} (b:∀c x,R c x->c.length=s):∀ {l:List α} {cs:List Value} (n:Nat),G8 R cs l->G8 R (cs.take (n*s)) (l.take n)
 | [],_,n,h=>by cases h;simp;rfl
 | _::l,_,n,⟨c1,g,e,a,d⟩=>by
  have f:=b _ _ a;cases n with
  |zero=>simp;rfl
  |succ n=>
   refine⟨c1,_,?_,a,G8.take b n d⟩;rw[e,show(n+1)*s=s+n*s from by rw[tZ,vS],g0n,qU ω,f,g2f]
def G8.drop {s:Nat} (d:∀c x,R c x->c.length=s):∀ {l:List α} {cs:List Value} (n:Nat),G8 R cs l->G8 R (cs.drop (n*s)) (l.drop n)
 | [],_,n,h=>by cases h;simp;rfl
 | _::l,_,n,⟨c1,f,e,a,b⟩=>by
  have g:=d _ _ a;cases n with
  |zero=>simp;exact⟨c1,f,e,a,b⟩
  |succ n=>
   have:=G8.drop d n b;rw[e,show(n+1)*s=s+n*s from by rw[tZ,vS], <-wA,zP g];exact this
end each
def C9.length:∀ {t:Ty} {w:World} {Z:Nat->Prop} {cs:List Value} {x:t.den},C9 t w Z cs x->cs.length=t.size
 | .int _,_,_,_,_,h=>by rw[h.1];rfl
 | .bool,_,_,_,_,h=>by rw[show _= _ from h];rfl
 | .str,_,_,_,_,h=>by rw[show _= _ from h];rfl
 | .unit,_,_,_,_,h=>by rw[show _= _ from h];rfl
 | .pair c d,_,_,_,_,⟨c1,f,e,a,b⟩=>by rw[e,rS,C9.length a,C9.length b];rfl
 | .sl _,_,_,_,_,⟨_,_,e,_⟩=>by rw[e];rfl
 | .ptr _,_,_,_,_,⟨_,_,_,e,_⟩=>by rw[e];rfl
 | .mp _ _ _ _,_,_,_,_,h=>by
  rcases h with⟨e,_⟩ | ⟨_,_,_,e,_⟩<;>rw[e]<;>rfl
def O6 (Z:Nat->Prop) (w w':World):Prop:=∀b,Z b->w'.heap[b]? =w.heap[b]?
def AE {Z:Nat->Prop} {w w':World} {b o:Nat} {a:List Value} (h:J0 w ⟨b,o,none⟩ a) (c:Z b) (d:O6 Z w w'):J0 w' ⟨b,o,none⟩ a:=λj v a=>by
 have:=h j v a;rw[K5]at this|-;rw[<-this];exact World.cell?_of_block (d b c)
def C9.mono:∀ {t:Ty} {w w':World} {Z Z':Nat->Prop} {cs:List Value} {x:t.den},(∀b,Z b->Z' b)->O6 Z w w'->C9 t w Z cs x->C9 t w' Z' cs x
 | .int _,_,_,_,_,_,_,_,_,h=>h
 | .bool,_,_,_,_,_,_,_,_,h=>h
 | .str,_,_,_,_,_,_,_,_,h=>h
 | .unit,_,_,_,_,_,_,_,_,h=>h
 | .pair h b,_,_,_,_,_,_,c,a,⟨c1,d,e,f,g⟩=>⟨c1,d,e,C9.mono c a f,C9.mono c a g⟩
 | .sl t,_,_,_,_,_,_,d,c,⟨f,g,e,j,n,o,i⟩=>⟨f,g,e,j,n,o,i.imp id fun⟨b,r,h,ha,a,k,l⟩=>⟨b,r,h,ha,d b a,AE k a c,l.mono λ_ _=>C9.mono d c⟩⟩
 | .ptr t,_,_,_,_,_,_,d,c,⟨b,o,f,e,a,g,h⟩=>⟨b,o,f,e,d b a,AE g a c,C9.mono d c h⟩
 | .mp d f g i,_,_,_,_,_,_,c,a,h=>h.imp id fun⟨b,es,cl,e,d,hh,g,f⟩=>⟨b,es,cl,e,c b d,by rw[a b d];exact hh,g,f.mono (λ_ _ h=>h.mono λ_ _=>C9.mono c a) (λ_ _ h=>h.mono λ_ _=>C9.mono c a)⟩
def V4.wf' {t:Ty} {R:List Value->t.den->Prop} (b:∀cs x,R cs x->t.wf x):∀ {a:Bool} {v:Value} {x:t.den},V4 R a v x->t.wf x
 |true,_,_,⟨_,_,h⟩=>b _ _ h
 |false,_,_,h=>b _ _ h
def C9.wf:∀ {t:Ty} {w:World} {Z:Nat->Prop} {cs:List Value} {x:t.den},C9 t w Z cs x->t.wf x
 | .int _,_,_,_,_,h=>h.2
 | .bool,_,_,_,_,_=>trivial
 | .str,_,_,_,_,_=>trivial
 | .unit,_,_,_,_,_=>trivial
 | .pair c d,_,_,_,_,⟨c1,f,e,a,b⟩=>⟨C9.wf a,C9.wf b⟩
 | .sl t,_,_,_,o,⟨g,k,e,n,d,_,h⟩=>⟨by simp only[maxLen]at d;omega,by
  rcases h with h| ⟨j,r,l,_,_,_,b⟩
  . intro x a;rw[h]at a;cases a
  intro x a;obtain⟨i,c,f⟩:=g0y a;exact C9.wf (t:=t) (G8.get (R:=C9 t _ _) (s:=t.size) (λ_ _ h=>C9.length h) b (i:=i) (by rw[qQ c,f]))⟩
 | .ptr t,_,_,_,_,⟨b,o,c,e,d,f,a⟩=>C9.wf (t:=t) a
 | .mp o r v y,_,_,_,u,h=>by
  rcases h with⟨_,e⟩ | ⟨f,j,g,e,k,l,n,d⟩
  . intro x a;rw[e]at a;cases a
  intro x a;obtain⟨m,_,b,c⟩:=d.mem a;exact⟨V4.wf' (λ_ _=>C9.wf) b,V4.wf' (λ_ _=>C9.wf) c⟩
def C9.oneCell:∀ {t:Ty} {w:World} {Z:Nat->Prop} {cs:List Value} {x:t.den},C9 t w Z cs x->∀u∈cs,u.oneCell'=true
 | .int _,_,_,_,_,h=>by rw[h.1];exact Ms rfl Lt
 | .bool,_,_,_,_,h=>by rw[show _= _ from h];exact Ms rfl Lt
 | .str,_,_,_,_,h=>by rw[show _= _ from h];exact Ms rfl Lt
 | .unit,_,_,_,_,h=>by rw[show _= _ from h];exact Lt
 | .pair a d,_,_,_,_,⟨c1,f,e,b,c⟩=>by
  rw[e];intro u a;rcases qZ.1 a with a|a
  . exact C9.oneCell b u a
  exact C9.oneCell c u a
 | .sl _,_,_,_,_,⟨_,_,e,_⟩=>by rw[e];exact Ms rfl Lt
 | .ptr _,_,_,_,_,⟨_,_,_,e,_⟩=>by rw[e];exact Ms rfl Lt
 | .mp _ _ _ _,_,_,_,_,h=>by
  rcases h with⟨e,_⟩ | ⟨_,_,_,e,_⟩<;>rw[e]<;>exact Ms rfl Lt
def G8.oneCell {t:Ty} {w:World} {Z:Nat->Prop} :∀ {l:List t.den} {cs:List Value},G8 (C9 t w Z) cs l->∀u∈cs,u.oneCell'=true
 | [],_,h=>by rw[show _= _ from h];exact Lt
 | _:: _,_,⟨c1,a,e,b,c⟩=>by
  rw[e];intro u a;rcases qZ.1 a with a|a
  . exact C9.oneCell b u a
  exact G8.oneCell c u a
def M5 {w:World} {b o:Nat} {c:List Value} (h:J0 w ⟨b,o,none⟩ c) (i n:Nat):J0 w ⟨b,o+i,none⟩ ((c.drop i).take n):=λj v a=>by
 rw[K5];rw[wD]at a;split at a
 . rw[xL]at a;have:=h (i+j) v a;rw[K5]at this;rw[uM];exact this
 cases a
@[reducible] def Z8:List (Bool×Ty)->Type
 | []=>Unit
 | (_,t)::r=>t.den×Z8 r
inductive C where
 |val (t:Ty) (x:t.den)
 |row (k:Nat)
 |box (k off:Nat)
 |elp (k sz i off:Nat)
 |win (k sz:Nat) (lo hi:Int)
 |pf (t:Ty) (x:t.den) (off:Nat)
 |mp (k:Nat)
 |fn (f:FuncId) (caps:List Nat)
 |fv (P:Program) (as:List (Bool×Ty)) (ra:Bool) (r:Ty) (ok:Z8 as->Prop) (φ:Z8 as->r.den)
 |raw (v:Value)
 |dead
structure SV where
 agg:Bool
 cs:List C
inductive DV where
 |one (v:SV)
 |tup (vs:List SV)
 |cnd (t:Tmp) (b:Bool) (v:SV)
 |dead
inductive LC where
 |none
 |box (ty:TypeId) (cs:List C)
 |row (t:Ty) (e:TypeId) (l:List t.den)
 |map (ka:Bool) (kt:Ty) (va:Bool) (vt:Ty) (es:List (kt.den×vt.den))
 |rows (t:Ty) (e e':TypeId) (ls:List (List t.den)) (al:List (Nat×Nat)) (ho:Option Nat)
 |al (k:Nat)
 |sbox (q:Nat) (t:Ty) (x:t.den)
 |mapE (ka:Bool) (kt:Ty) (va:Bool) (vt:Ty) (es:List (kt.den×vt.den)) (j q:Nat)
 |iter (ka:Bool) (kt:Ty) (va:Bool) (vt:Ty) (left:List (kt.den×vt.den)) (cur:Option (kt.den×vt.den))
 |nest (t:Ty) (e e':TypeId) (ls:List t.den) (bo:List (Nat×Nat)) (dd:List Nat)
 |itM (ka:Bool) (kt:Ty) (va:Bool) (vt:Ty) (es left:List (kt.den×vt.den)) (cur:Option (kt.den×vt.den)) (q:Nat)
structure St where
 sl:List (Nat×Nat×DV)
 lc:List (Nat×Nat×LC)
 nx:Nat
 ct:Nat
 nm:Nat:=0
 fr:List (List (Nat×Nat×DV)):= []
def HC:Option Prop->Prop
 |none=>True
 |some a=>a
def eG (φ:Option Prop) (p:Prop):Prop:=match φ with
 |none=>p
 |some φ=>φ/\p
def F2 {φ:Option Prop} {p:Prop} :eG φ p↔HC φ/\p:=by cases φ<;>simp[eG,HC]
def C1f (c:Prop) (φ:Option Prop):Option Prop:=match φ with
 |none=>none
 |some φ=>some (c->φ)
def A0u {c:Prop} {φ:Option Prop} :HC (C1f c φ)↔(c->HC φ):=by cases φ<;>simp[C1f,HC]
def F5 {α:Type} (e:Bool) (x y:α):α:=bif e then x else y
def find {α:Type} (d:α) (s:Nat):List (Nat×α)->α
 | []=>d
 | (t,x)::l=>bif Nat.beq t s then x else find d s l
def St.eS (a:St) (s:Nat):Nat×DV:=find (0, .dead) s a.sl
def St.eL (a:St) (k:Nat):Nat×LC:=find (0, .none) k a.lc
def St.S (a:St) (s:Nat):DV:=(a.eS s).2
def St.L (a:St) (k:Nat):LC:=(a.eL k).2
def put {α:Type} (s:Nat) (x:α):List (Nat×α)->List (Nat×α)
 | []=> [(s,x)]
 | (t,y)::l=>bif Nat.beq t s then(t,x)::l else(t,y)::put s x l
def AP {α:Type} (d:α) (s:Nat) (x:α) (q:Nat):∀l:List (Nat×α),find d q (put s x l)=if q=s then x else find d q l
 | []=>by
  simp only[put,find];by_cases h:q=s
  . simp[h]
  simp[h,F1 (Ne.symm h)]
 | (t,y)::l=>by
  have f:=AP d s x q l;simp only[put];cases a:Nat.beq t s with
  |true=>
   have b:=qD a;subst b;simp only[qW,find];by_cases h:q=t
   . simp[h]
   simp[h,F1 (Ne.symm h)]
  |false=>
   have g:t≠s:=uL a;simp only[rJ,find,f];cases c:Nat.beq t q with
   |true=>
    have b:=qD c;subst b;simp[g]
   |false=>simp
def HA (t:Nat):DV->Bool
 | .cnd a _ _=>Nat.beq a t
 | _=>false
def unc (t g:Nat):Nat×DV->Nat×DV
 | (n, .cnd a b v)=>bif Nat.beq a t then(g, .dead)else(n, .cnd a b v)
 | (n, .one v)=>(n, .one v)
 | (n, .tup v)=>(n, .tup v)
 | (n, .dead)=>(n, .dead)
def C7u (t g:Nat) (d:Nat×DV):unc t g d=bif HA t d.2 then(g, .dead)else d:=by
 obtain⟨n,d⟩:=d;cases d<;>rfl
def A3g (t g:Nat):List (Nat×Nat×DV)->List (Nat×Nat×DV)
 | []=> []
 | (s,d)::l=>(s,unc t g d)::A3g t g l
def YP (t g q:Nat):∀l:List (Nat×Nat×DV),find (0, .dead) q (A3g t g l)=bif HA t (find (0, .dead) q l).2 then(g, .dead)else find (0, .dead) q l
 | []=>by simp[A3g,find,HA]
 | (s,d)::l=>by
  have a:=YP t g q l;simp only[A3g,find,C7u];cases Nat.beq s q<;>simp[a]
def St.setS (a:St) (d:Nat) (x:DV):St:=⟨put d (a.ct+1,x) (A3g d (a.ct+1) a.sl),a.lc,a.nx,a.ct+1,a.nm,a.fr⟩
def St.setL (a:St) (k:Nat) (x:LC):St:=⟨a.sl,put k (a.ct+1,x) a.lc,a.nx,a.ct+1,a.nm,a.fr⟩
def St.newL (a:St) (x:LC):St:=⟨a.sl,put a.nx (a.ct+1,x) a.lc,a.nx+1,a.ct+1,a.nm,a.fr⟩
def St.eS_setS (a:St) (d s:Nat) (x:DV):(a.setS d x).eS s=if s=d then(a.ct+1,x)else bif HA d (a.S s)then(a.ct+1, .dead)else a.eS s:=by
 unfold St.eS St.setS;simp only;rw[AP,YP];rfl
def St.S_setS (a:St) (d s:Nat) (x:DV):(a.setS d x).S s=if s=d then x else bif HA d (a.S s)then .dead else a.S s:=by
 show((a.setS d x).eS s).2= _;rw[St.eS_setS];split
 . rfl
 cases HA d (a.S s)<;>rfl
def St.eL_setL (a:St) (k q:Nat) (x:LC):(a.setL k x).eL q=if q=k then(a.ct+1,x)else a.eL q:=AP ..
def St.L_setL (a:St) (k q:Nat) (x:LC):(a.setL k x).L q=if q=k then x else a.L q:=by
 show((a.setL k x).eL q).2= _;rw[St.eL_setL];split<;>rfl
def St.eL_newL (a:St) (q:Nat) (x:LC):(a.newL x).eL q=if q=a.nx then(a.ct+1,x)else a.eL q:=AP ..
def St.L_newL (a:St) (q:Nat) (x:LC):(a.newL x).L q=if q=a.nx then x else a.L q:=by
 show((a.newL x).eL q).2= _;rw[St.eL_newL];split<;>rfl
def Q5 (n:Nat):List (Nat×Nat×DV)->List (Nat×Nat×DV)->Prop
 | [],[]=>True
 | (s,e)::l,(c,a)::b=>c=s/\(a.1<=n->a=e)/\Q5 n l b
 | _,_=>False
def Bb (n:Nat):List (List (Nat×Nat×DV))->List (List (Nat×Nat×DV))->Prop
 | [],[]=>True
 |f::l,a::b=>Q5 n f a/\Bb n l b
 | _,_=>False
def Q5.refl (n:Nat):∀l,Q5 n l l
 | []=>trivial
 | (_,_)::l=>⟨rfl,λ_=>rfl,Q5.refl n l⟩
def Bb.refl (n:Nat):∀l,Bb n l l
 | []=>trivial
 |f::l=>⟨Q5.refl n f,Bb.refl n l⟩
def Q5.trans {n m:Nat} (f:n<=m):∀ {a b c},Q5 n a b->Q5 m b c->Q5 n a c
 | [],[],[],_,_=>trivial
 | (_,_):: _,(_,_):: _,(_,_):: _,⟨g,i,k⟩,⟨h,j,l⟩=>⟨h.trans g,λd=>by
  have:=j (qY d f);rw[this]at d|-;exact i d,Q5.trans f k l⟩
 | [],[],_:: _,_,h=>h.elim
 | [],_:: _,_,h,_=>h.elim
 | _:: _,[],_,h,_=>h.elim
 | (_,_):: _,(_,_):: _,[],_,h=>h.elim
def Bb.trans {n m:Nat} (d:n<=m):∀ {a b c},Bb n a b->Bb m b c->Bb n a c
 | [],[],[],_,_=>trivial
 | _:: _,_:: _,_:: _,h,k=>⟨h.1.trans d k.1,Bb.trans d h.2 k.2⟩
 | [],[],_:: _,_,h=>h.elim
 | [],_:: _,_,h,_=>h.elim
 | _:: _,[],_,h,_=>h.elim
 | _:: _,_:: _,[],_,h=>h.elim
def Q5.le {n m:Nat} (c:n<=m) {a b} (h:Q5 m a b):Q5 n a b:=(Q5.refl n a).trans c h
def Bb.le {n m:Nat} (c:n<=m) {a b} (h:Bb m a b):Bb n a b:=(Bb.refl n a).trans c h
def Q5.find {n:Nat} {d:Nat×DV} (s:Nat):∀ {a b},Q5 n a b->(Vc.find d s b).1<=n->Vc.find d s b=Vc.find d s a
 | [],[],_,_=>rfl
 | (t,e)::a,(j,k)::b,⟨f,g,i⟩,h=>by
  subst f;simp only[Vc.find]at h|-;cases c:Nat.beq j s with
  |true=>rw[c]at h;exact g h
  |false=>rw[c]at h;exact Q5.find s i h
 | [],_:: _,h,_=>h.elim
 | _:: _,[],h,_=>h.elim
def C6t (n:Nat) (a:List (List (Nat×Nat×DV))):Bool:=a.all λf=>f.all λe=>Nat.ble e.2.1 n
def Q5.old {n:Nat} :∀ {a b},Q5 n a b->(b.all λe=>Nat.ble e.2.1 n)=true->b=a
 | [],[],_,_=>rfl
 | (t,e)::a,(i,g)::b,⟨c,d,f⟩,h=>by
  simp only[tP,qC]at h;rw[c,d (qS h.1),Q5.old f h.2]
 | [],_:: _,h,_=>h.elim
 | _:: _,[],h,_=>h.elim
def Bb.old {n:Nat} :∀ {a b},Bb n a b->C6t n b=true->b=a
 | [],[],_,_=>rfl
 |f::a,g::b,⟨c,d⟩,h=>by
  simp only[C6t,tP,qC]at h;rw[c.old h.1,Bb.old d h.2]
 | [],_:: _,h,_=>h.elim
 | _:: _,[],h,_=>h.elim
structure C4 (st st':St):Prop where
 ct:st.ct<=st'.ct
 s:∀s,(st'.eS s).1≠0->(st'.eS s).1<=st.ct->st'.eS s=st.eS s
 l:∀k,(st'.eL k).1≠0->(st'.eL k).1<=st.ct->st'.eL k=st.eL k
 f:Bb st.ct st.fr st'.fr
def C4.refl (a:St):C4 a a:=⟨qT _,λ_ _ _=>rfl,λ_ _ _=>rfl,Bb.refl _ _⟩
def Bi (a:Bool) (t:Ty) (w:World) (Z:Nat->Prop) (v:Value) (x:t.den):Prop:=V4 (C9 t w Z) a v x
def WV (w:World) (Z:Nat->Prop):(as:List (Bool×Ty))->List Value->Z8 as->Prop
 | [],a,_=>a= []
 | (b,t)::r,c,x=>∃v a,c=v::a/\Bi b t w Z v x.1/\WV w Z r a x.2
def A3t (P:Program) (w:World) (Z:Nat->Prop) (v:Value) (as:List (Bool×Ty)) (h:Bool) (r:Ty) (c:Z8 as->Prop) (φ:Z8 as->r.den):Prop:=
 ∃g,∃d:List Value,v= .func (.func g) #[] d.toArray/\Gx P g=true/\∀(a:World) (Z':Nat->Prop) (f:List Value) (x:Z8 as),O6 Z w a->(∀b,Z b->b<a.heap.size)->(∀b,Z' b->b<a.heap.size)->WV a Z' as f x->c x->
  Gw.dU P g (f++d) a λu c=>R7 a c/\∃Zn:Nat->Prop,(∀b,Zn b->(a.heap.size<=b/\b<c.heap.size)\/Z b\/Z' b)/\Bi h r c Zn u (φ x)
def RC (w:World) (Z:Nat->Prop) (B:Nat->Value):C->Value->Prop
 | .val t x,v=>C9 t w Z [v] x
 | .row k,v=>v=B k
 | .box k a,v=>∃b,B k= .pointer (some ⟨b,0,none⟩)/\v= .pointer (some ⟨b,a,none⟩)
 | .elp k sz i c,v=>∃b n a,B k= .slice (some ⟨b,0,none⟩) n a/\i<n/\v= .pointer (some ⟨b,i*sz+c,none⟩)
 | .win k sz b d,v=>∃c n a,B k= .slice c n a/\(∀x,c=some x->∃g,x=⟨g,0,none⟩)/\(c=none->a=0)/\0<=b/\b<=d/\d<=(n:Int)/\n<=a/\a<=maxLen/\v= .slice (if a=b.toNat then c else c.map (·.add (b.toNat*sz))) (d.toNat-b.toNat) (a-b.toNat)
 | .pf t x c,v=>∃b o a,v= .pointer (some ⟨b,o+c,none⟩)/\Z b/\J0 w ⟨b,o,none⟩ a/\C9 t w Z a x
 | .mp k,v=>v=B k
 | .fn f a,v=>v= .func (.func f) #[] (a.map B).toArray
 | .fv P as b r a c,v=>A3t P w Z v as b r a c
 | .raw a,v=>v=a/\a.oneCell'=true
 | .dead,_=>True
def Cz (w:World) (Z:Nat->Prop) (B:Nat->Value):List C->List Value->Prop
 | [],a=>a= []
 |c::b,d=>∃v a,d=v::a/\RC w Z B c v/\Cz w Z B b a
def RS (w:World) (Z:Nat->Prop) (B:Nat->Value):SV->Value->Prop
 | ⟨true,b⟩,v=>∃a:List Value,v= .agg a.toArray/\Cz w Z B b a
 | ⟨false,a⟩,v=>Cz w Z B a [v]
def Ou (w:World) (Z:Nat->Prop) (B:Nat->Value):List SV->List Value->Prop
 | [],a=>a= []
 |c::b,d=>∃v a,d=v::a/\RS w Z B c v/\Ou w Z B b a
def RD (w:World) (Z:Nat->Prop) (B:Nat->Value) (E:H5):DV->Value->Prop
 | .one s,v=>RS w Z B s v
 | .tup b,v=>∃a:List Value,v= .tuple a.toArray/\Ou w Z B b a
 | .cnd t b s,v=>(E t= .bool b/\RS w Z B s v)\/(E t≠ .bool b/\v=undef)
 | .dead,_=>True
def Lh (w:World) (Z:Nat->Prop) (c:Bool) (a:Ty) (d:Bool) (b:Ty) (es:List MapEntry) (l:List (a.den×b.den)):Prop:=T5 (V4 (C9 a w Z) c) (V4 (C9 b w Z) d) es l
def root:Value->Option Nat
 | .pointer (some a)=>some a.block
 | .slice (some a) _ _=>some a.block
 | .map r=>r
 | _=>none
def Eo:Option Nat->Nat->Bool
 |none,_=>false
 |some j,i=>Nat.beq j i
def Dz (a:List (Nat×Nat)) (dd:List Nat) (i:Nat):Bool:=(a.any λp=>Nat.beq p.1 i) ||dd.any λj=>Nat.beq j i
def T7 (w:World) (v:Value) (H:Nat->Bool) (b:Nat):Prop:=root v=some b\/∃g n c a e i x,v= .slice (some ⟨g,0,none⟩) n c/\w.heap[g]? =some (.cells a e (0,0))/\i<n/\H i=false/\a[i]? =some x/\root x=some b
def B7 (w:World) (v:Value):LC->Nat->Prop
 | .none,_=>False
 | .box _ _,b=>root v=some b
 | .row _ _ _,b=>root v=some b
 | .map _ _ _ _ _,b=>root v=some b
 | .iter _ _ _ _ _ _,b=>root v=some b
 | .mapE _ _ _ _ _ _ _,b=>root v=some b
 | .al _,_=>False
 | .sbox _ _ _,_=>False
 | .nest _ _ _ _ a c,b=>T7 w v (Dz a c) b
 | .itM _ _ _ _ _ _ _ _,b=>root v=some b\/∃r c s a,v= .pointer (some ⟨r,0,none⟩)/\w.heap[r]? =some (.mapIter (some b) c s a)
 | .rows _ _ _ _ _ d,b=>root v=some b\/∃g n c a e i x,v= .slice (some ⟨g,0,none⟩) n c/\w.heap[g]? =some (.cells a e (0,0))/\i<n/\Eo d i=false/\a[i]? =some x/\root x=some b
def AtV (xs:List Value) (i:Nat) (v:Value):Prop:=xs[i]? =some v\/(xs.length<=i/\v= .slice none 0 0)
def Inn (w:World) (Z:Nat->Prop) (B:Nat->Value) (t:Ty) (e':TypeId) (ls:List (List t.den)) (al:List (Nat×Nat)) (a:Option Nat) (xs:List Value):Prop:=
 (∀p∈al,AtV xs p.1 (B p.2))/\(∀i l x,Eo a i=false->ls[i]? =some l->xs[i]? =some x->∃b,w.ownsRow 0 e' t.size x l.length b/\G8 (C9 t w Z) b l)/\
  ∀i j x y b,i≠j->Eo a i=false->Eo a j=false->xs[i]? =some x->xs[j]? =some y->root x=some b->root y≠some b
def ItR (w:World) (Z:Nat->Prop) (f:Bool) (c:Ty) (g:Bool) (d:Ty) (r:Nat) (left:List (c.den×d.den)) (cur:Option (c.den×d.den)):Prop:=
 (w.heap[r]? =some (.mapIter none 0 #[] 0)/\left= []/\cur=none)\/
 ∃(m:Nat) (seen:Array Nat) (b:Array MapEntry) (a:Nat),w.heap[r]? =some (.mapIter (some m) a seen a)/\Z m/\w.heap[m]? =some (.map b a)/\MOk b a/\Lh w Z f c g d (leftOf b seen).toList left/\
  ∀x,cur=some x->∃e∈b.toList,(∃a:Array Nat,seen=a.push e.born)/\V4 (C9 c w Z) f e.key x.1/\V4 (C9 d w Z) g e.val x.2
def UJ:(t:Ty)->TypeId->World->(Nat->Prop)->Value->t.den->Prop
 | .sl t,b,w,Z,v,l=>∃a:List Value,w.ownsRow 0 b t.size v (List.length l) a/\G8 (C9 t w Z) a l
 | .mp f g h i,_,w,Z,v,d=>∃b a c,v= .map (some b)/\w.heap[b]? =some (.map a c)/\MOk a c/\Lh w Z f g h i a.toList d
 | _,_,_,_,_,_=>False
structure oH (w:World) (Z:Nat->Prop) (B:Nat->Value) (t:Ty) (e e':TypeId) (ls:List t.den) (bo:List (Nat×Nat)) (dd:List Nat) (v:Value) (xs:List Value):Prop where
 own:w.ownsRow 0 e 1 v ls.length xs
 out:∀p∈bo,xs[p.1]? =some (B p.2)
 elt:∀i l x,Dz bo dd i=false->ls[i]? =some l->xs[i]? =some x->UJ t e' w Z x l
 dis:∀i j x y b,i≠j->Dz bo dd i=false->Dz bo dd j=false->xs[i]? =some x->xs[j]? =some y->root x=some b->root y≠some b
 top:∀i x b,Dz bo dd i=false->xs[i]? =some x->root x=some b->root v≠some b
structure C8e (w:World) (Z:Nat->Prop) (ka:Bool) (kt:Ty) (va:Bool) (vt:Ty) (es left:List (kt.den×vt.den)) (cur:Option (kt.den×vt.den)) (r m:Nat) (seen:Array Nat) (ents:Array MapEntry) (clock:Nat):Prop where
 it:w.heap[r]? =some (.mapIter (some m) clock seen clock)
 mp:w.heap[m]? =some (.map ents clock)
 ok:MOk ents clock
 all:Lh w Z ka kt va vt ents.toList es
 rest:Lh w Z ka kt va vt (leftOf ents seen).toList left
 cur:∀x,cur=some x->∃e∈ents.toList,(∃seen':Array Nat,seen=seen'.push e.born)/\V4 (C9 kt w Z) ka e.key x.1/\V4 (C9 vt w Z) va e.val x.2
def RL (U:Nat->Prop) (w:World) (Z:Nat->Prop) (B:Nat->Value) (k:Nat):LC->Prop
 | .none=>True
 | .box d c=>∃b a,B k= .pointer (some ⟨b,0,none⟩)/\U b/\¬Z b/\KR w b a d/\Cz w Z B c a.toList
 | .row t e l=>∃a,w.ownsRow 0 e t.size (B k) l.length a/\G8 (C9 t w Z) a l/\∀b,(B k).ownBlock=some b->U b/\¬Z b
 | .map f g h i d=>∃b a c,B k= .map (some b)/\U b/\¬Z b/\w.heap[b]? =some (.map a c)/\MOk a c/\Lh w Z f g h i a.toList d
 | .al _=>True
 | .sbox q t x=>q=k/\C9 (.ptr t) w Z [B q] x/\∃b,B q= .pointer (some ⟨b,0,none⟩)
 | .mapE f g h i d j q=>∃b a c,B k= .map (some b)/\U b/\¬Z b/\w.heap[b]? =some (.map a c)/\(MOk a c/\Lh w Z f g h i a.toList d)/\∃e:MapEntry,a.toList[j]? =some e/\B q= .int .i64 e.born
 | .iter b c d f left a=>∃r,B k= .pointer (some ⟨r,0,none⟩)/\U r/\¬Z r/\ItR w Z b c d f r left a
 | .nest t e d f a c=>∃g,oH w Z B t e d f a c (B k) g/\∀b,T7 w (B k) (Dz a c) b->U b/\¬Z b/\b<w.heap.size
 | .itM f g h i d left b q=>∃r m seen c a,B k= .pointer (some ⟨r,0,none⟩)/\B q= .map (some m)/\C8e w Z f g h i d left b r m seen c a/\U r/\¬Z r/\U m/\¬Z m
 | .rows t e f c al a=>∃d,w.ownsRow 0 e 1 (B k) c.length d/\Inn w Z B t f c al a d/\(∀i x b,Eo a i=false->d[i]? =some x->root x=some b->root (B k)≠some b)/\∀b,B7 w (B k) (.rows t e f c al a) b->U b/\¬Z b/\b<w.heap.size
def live:LC->Prop
 | .none=>False
 | .al _=>False
 | .sbox _ _ _=>False
 | _=>True
def Cu (n:Nat):C->Prop
 | .row k=>k<n
 | .box k _=>k<n
 | .elp k _ _ _=>k<n
 | .win k _ _ _=>k<n
 | .mp k=>k<n
 | .fn _ a=>∀k∈a,k<n
 | _=>True
def Na (n:Nat) (s:SV):Prop:=∀c∈s.cs,Cu n c
def NC (n:Nat):DV->Prop
 | .one s=>Na n s
 | .tup a=>∀s∈a,Na n s
 | .cnd _ _ s=>Na n s
 | .dead=>True
def BJ (n:Nat):LC->Prop
 | .box _ a=>∀c∈a,Cu n c
 | .rows _ _ _ _ al _=>∀p∈al,p.2<n
 | .mapE _ _ _ _ _ _ q=>q<n
 | .sbox q _ _=>q<n
 | .nest _ _ _ _ a _=>∀p∈a,p.2<n
 | .itM _ _ _ _ _ _ _ q=>q<n
 | _=>True
structure Zn where
 z:Nat->Prop
 m:Nat->Prop
 n:Nat
 v:Nat->Value
 k0:Nat:=0
 b0:Nat:=0
 f:Nat->Nat->Prop
 fm:∀k b,f k b->m b
 es:List H5:= []
def RF (w:World) (Z:Nat->Prop) (B:Nat->Value):List H5->List (List (Nat×Nat×DV))->Prop
 | [],[]=>True
 |E::a,f::b=>(∀s,RD w Z B E (find (0, .dead) s f).2 (E s))/\RF w Z B a b
 | _,_=>False
def oI (n:Nat) (a:List (List (Nat×Nat×DV))):Prop:=∀f∈a,∀s,NC n (find (0, .dead) s f).2
structure Y9 (m:Nat->Prop) (w w':World):Prop where
 os:w'.os=w.os
 tape:w'.tape=w.tape
 output:w'.output=w.output
 size:w.heap.size<=w'.heap.size
 block:∀k,k<w.heap.size->¬m k->w'.heap[k]? =w.heap[k]?
 drw:True
def Y9.of {m:Nat->Prop} {w w':World} (h:R7 w w'):Y9 m w w':=⟨h.os,h.tape,h.output,h.size,λk a _=>h.block k a,h.drw⟩
def Y9.ext {m:Nat->Prop} {w w':World} (h:Y9 m w w') (c:∀b,¬m b):R7 w w':=⟨⟨h.os,h.tape,h.output,h.size,λk a=>h.block k a (c k)⟩,h.drw⟩
def Y9.trans {m:Nat->Prop} {a b c:World} (h:Y9 m a b) (k:R7 b c):Y9 m a c:=⟨k.os.trans h.os,k.tape.trans h.tape,k.output.trans h.output,qY h.size k.size,λi d f=>(k.block i (rI d h.size)).trans (h.block i d f),trivial⟩
def Y9.chg {m:Nat->Prop} {d w w':World} {b:Nat} (h:Y9 m d w) (a:WT b w w') (c:d.heap.size<=b\/m b):Y9 m d w':=
 ⟨a.1.trans h.os,a.2.1.trans h.tape,a.2.2.1.1.trans h.output,by rw[a.2.2.2.1];exact h.size,λk f g=>(a.2.2.2.2 k (λe=>by subst e;rcases c with c|c;exact absurd f ω;exact g c)).trans (h.block k f g),trivial⟩
def Y9.grown {m:Nat->Prop} {d w w':World} {row:Option Nat} (h:Y9 m d w) (a:w.grownBy w' row) (f:w.drawn<=w'.drawn) (c:∀b,row=some b->d.heap.size<=b\/m b):Y9 m d w':=
 ⟨a.os.trans h.os,a.tape.trans h.tape,a.output.trans h.output,qY h.size a.size,λk d f=>(a.block k (rI d h.size) (λe=>by rcases c k e.symm with c|c;exact absurd d ω;exact f c)).trans (h.block k d f),trivial⟩
def up (a:Zn) (c:World) (k:Nat):Nat->Prop:=λb=>(a.n<=k/\c.heap.size<=b)\/(k<a.n/\a.f k b)
def up.m {a:Zn} {c:World} {k b:Nat} (h:up a c k b):c.heap.size<=b\/a.m b:=h.imp And.right λh=>a.fm k b h.2
structure C3 (za:Zn) (w0:World) (st:St) (E:H5) (w:World) (Z:Nat->Prop) (B:Nat->Value):Prop where
 ext:Y9 za.m w0 w
 zlt:∀b,Z b->b<w.heap.size
 slots:∀s,RD w Z B E (st.S s) (E s)
 locs:∀k,RL (up za w0 k) w Z B k (st.L k)
 disj:∀k k' b,k≠k'->B7 w (B k) (st.L k) b->¬B7 w (B k') (st.L k') b
 refs:∀s,NC st.nx (st.S s)
 refl:∀k,BJ st.nx (st.L k)
 fresh:∀k,st.nx<=k->st.L k= .none
 bone:∀k,(B k).oneCell'=true
 zin:∀b,Z b->za.z b\/w0.heap.size<=b
 nms:st.nm=za.n/\za.n<=st.nx
 bfix:∀k,k<za.n->B k=za.v k
 mrk:za.b0<=w.heap.size/\∀k b,za.k0<=k->B7 w (B k) (st.L k) b->za.b0<=b
 frs:RF w Z B za.es st.fr
 frf:oI st.nx st.fr
section mono
variable {w w':World} {Z Z':Nat->Prop} {B B':Nat->Value} {n:Nat}
def RC.mono (d:∀b,Z b->Z' b) (f:O6 Z w w') (a:∀k,k<n->B' k=B k):∀ {c:C} {v:Value},Cu n c->RC w Z B c v->RC w' Z' B' c v
 | .val _ _,_,_,h=>C9.mono d f h
 | .row k,_,g,h=>h.trans (a k g).symm
 | .box k i,_,g,⟨b,e,h⟩=>⟨b,(a k g).trans e,h⟩
 | .elp k sz j l,_,i,⟨b,m,g,e,h⟩=>⟨b,m,g,(a k i).trans e,h⟩
 | .win k sz o l,_,j,⟨g,m,h,e,i⟩=>⟨g,m,h,(a k j).trans e,i⟩
 | .pf t x l,_,_,⟨b,o,h,e,g,j,i⟩=>⟨b,o,h,e,d b g,AE j g f,C9.mono d f i⟩
 | .mp k,_,g,h=>h.trans (a k g).symm
 | .fn j g,_,i,h=>by
  show _= _;rw[show _= _ from h];congr 2;exact g4d λk g=>(a k (i k g)).symm
 | .fv P as j r i l,_,_,⟨g,a,e,s,h⟩=>⟨g,a,e,s,λu Z2 t x i j l o r=>(h u Z2 t x (λb a=>(i b (d b a)).trans (f b a)) (λb a=>j b (d b a)) l o r).mono λu g ⟨f,Zn,g2,g3⟩=>⟨f,Zn,λb a=>(g2 b a).imp id (Or.imp (d b) id),g3⟩⟩
 | .raw _,_,_,h=>h
 | .dead,_,_,_=>trivial
def Cz.mono (g:∀b,Z b->Z' b) (f:O6 Z w w') (a:∀k,k<n->B' k=B k):∀ {cs:List C} {vs:List Value},(∀c∈cs,Cu n c)->Cz w Z B cs vs->Cz w' Z' B' cs vs
 | [],_,_,h=>h
 |c::cs,_,d,⟨v,l,e,h,i⟩=>⟨v,l,e,RC.mono g f a (d c (by simp)) h,Cz.mono g f a (λc j=>d c (by simp[j])) i⟩
def RS.mono (d:∀b,Z b->Z' b) (c:O6 Z w w') (a:∀k,k<n->B' k=B k):∀ {s:SV} {v:Value},Na n s->RS w Z B s v->RS w' Z' B' s v
 | ⟨true,cs⟩,_,f,⟨g,e,h⟩=>⟨g,e,Cz.mono d c a f h⟩
 | ⟨false,cs⟩,_,f,h=>Cz.mono (cs:=cs) d c a f h
def Ou.mono (g:∀b,Z b->Z' b) (f:O6 Z w w') (a:∀k,k<n->B' k=B k):∀ {cs:List SV} {vs:List Value},(∀c∈cs,Na n c)->Ou w Z B cs vs->Ou w' Z' B' cs vs
 | [],_,_,h=>h
 |c::cs,_,d,⟨v,l,e,h,i⟩=>⟨v,l,e,RS.mono g f a (d c (by simp)) h,Ou.mono g f a (λc j=>d c (by simp[j])) i⟩
def RD.mono {E:H5} (f:∀b,Z b->Z' b) (c:O6 Z w w') (a:∀k,k<n->B' k=B k):∀ {d:DV} {v:Value},NC n d->RD w Z B E d v->RD w' Z' B' E d v
 | .one _,_,g,h=>RS.mono f c a g h
 | .tup _,_,g,⟨i,e,h⟩=>⟨i,e,Ou.mono f c a g h⟩
 | .cnd _ _ _,_,i,h=>h.imp (fun⟨g,b⟩=>⟨g,RS.mono f c a i b⟩) id
 | .dead,_,_,_=>trivial
def RF.mono (f:∀b,Z b->Z' b) (d:O6 Z w w') (c:∀k,k<n->B' k=B k):∀ {es:List H5} {a:List (List (Nat×Nat×DV))},oI n a->RF w Z B es a->RF w' Z' B' es a
 | [],[],_,_=>trivial
 |E::es,g::h,a,⟨i,j⟩=>⟨λs=>RD.mono f d c (a g (by simp) s) (i s),RF.mono f d c (λh l=>a h (by simp[l])) j⟩
 | [],_:: _,_,h=>h.elim
 | _:: _,[],_,h=>h.elim
def Bi.mono {a:Bool} {t:Ty} {v:Value} {x:t.den} (d:∀b,Z b->Z' b) (c:O6 Z w w') (h:Bi a t w Z v x):Bi a t w' Z' v x:=V4.mono (λ_ _=>C9.mono d c) h
def WV.mono (c:∀b,Z b->Z' b) (a:O6 Z w w'):∀ {as:List (Bool×Ty)} {vs:List Value} {x:Z8 as},WV w Z as vs x->WV w' Z' as vs x
 | [],_,_,h=>h
 | _:: _,_,_,⟨v,g,e,d,f⟩=>⟨v,g,e,d.mono c a,WV.mono c a f⟩
def Lh.mono {g i:Bool} {a c:Ty} (f:∀b,Z b->Z' b) (d:O6 Z w w') {l:List (a.den×c.den)} {es:List MapEntry} (h:Lh w Z g a i c es l):Lh w' Z' g a i c es l:=
 T5.mono (λ_ _ h=>h.mono λ_ _=>C9.mono f d) (λ_ _ h=>h.mono λ_ _=>C9.mono f d) h
def B7.live {v:Value} {l:LC} {b:Nat} (h:B7 w v l b):Vc.live l:=by cases l<;>first|exact h.elim|trivial
def B7.of {v:Value} {l:LC} {b:Nat} (a:Vc.live l) (h:Vc.root v=some b):B7 w v l b:=by
 cases l<;>first|exact a.elim|exact h|exact .inl h
def T7.iff {v:Value} {H:Nat->Bool} {b:Nat} (h:∀b,root v=some b->w'.heap[b]? =w.heap[b]?):T7 w' v H b↔T7 w v H b:=by
 refine g4a yA ⟨fun⟨g,n,cap,cur,e,i,x,hv,hg,r⟩=>⟨g,n,cap,cur,e,i,x,hv,?_,r⟩,fun⟨g,n,cap,cur,e,i,x,hv,hg,r⟩=>⟨g,n,cap,cur,e,i,x,hv,?_,r⟩⟩
 . rw[<-h g (by rw[hv];rfl)];exact hg
 rw[h g (by rw[hv];rfl)];exact hg
def B7.iff {v:Value} {l:LC} {b:Nat} (h:∀b,B7 w v l b->w'.heap[b]? =w.heap[b]?):B7 w' v l b↔B7 w v l b:=by
 cases l with
 |rows t e d j al f=>
  refine g4a yA ⟨fun⟨g,n,cap,a,e,i,x,hv,hg,r⟩=>⟨g,n,cap,a,e,i,x,hv,?_,r⟩,fun⟨g,n,cap,a,e,i,x,hv,hg,r⟩=>⟨g,n,cap,a,e,i,x,hv,?_,r⟩⟩
  . rw[<-h g (.inl (by rw[hv];rfl))];exact hg
  rw[h g (.inl (by rw[hv];rfl))];exact hg
 |nest t e g j d f=>exact T7.iff λb a=>h b (.inl a)
 |itM f g j k d left a q=>
  refine g4a yA ⟨fun⟨r,c,s,c2,hv,hg⟩=>⟨r,c,s,c2,hv,?_⟩,fun⟨r,c,s,c2,hv,hg⟩=>⟨r,c,s,c2,hv,?_⟩⟩
  . rw[<-h r (.inl (by rw[hv];rfl))];exact hg
  rw[h r (.inl (by rw[hv];rfl))];exact hg
 | _=>exact yA
def RL.root {U:Nat->Prop} {k:Nat} {l:LC} (h:RL U w Z B k l) {b:Nat} (a:B7 w (B k) l b):U b/\b<w.heap.size/\¬Z b:=by
 cases l with
 |none=>exact a.elim
 |al _=>exact a.elim
 |sbox _ _ _=>exact a.elim
 |mapE r s t u n o q=>
  obtain⟨g,j,i,e,c,d,f,_⟩:=h;have a:Vc.root (B k)=some b:=a;rw[e]at a;simp[Vc.root]at a;subst a;exact⟨c,(rX.1 f).1,d⟩
 |iter i j n o left g=>
  obtain⟨r,e,d,f,c⟩:=h;have a:Vc.root (B k)=some b:=a;rw[e]at a;simp[Vc.root]at a;subst a;refine⟨d,?_,f⟩;rcases c with⟨c,_⟩ | ⟨_,_,_,_,c,_⟩<;>exact(rX.1 c).1
 |box j i=>
  obtain⟨g,n,e,c,d,f,_⟩:=h;have a:Vc.root (B k)=some b:=a;rw[e]at a;simp[Vc.root]at a;subst a;exact⟨c,f.lt,d⟩
 |row t e l=>
  obtain⟨r,f,o,g⟩:=h;have a:Vc.root (B k)=some b:=a;have c:(B k).ownBlock=some b:=by
   rcases f.2 with⟨d,_⟩ | ⟨n,i,j,d,_⟩
   . rw[d]at a;simp[Vc.root]at a
   rw[d]at a|-;simpa[Vc.root,Value.ownBlock]using a
  have:=World.ownsRow.lt f b c;exact⟨(g b c).1,this.2,(g b c).2⟩
 |map o r s t n=>
  obtain⟨g,j,i,e,c,d,f,_⟩:=h;have a:Vc.root (B k)=some b:=a;rw[e]at a;simp[Vc.root]at a;subst a;exact⟨c,(rX.1 f).1,d⟩
 |rows t e d g al f=>
  obtain⟨i,_,_,_,c⟩:=h;exact⟨(c b a).1,(c b a).2.2,(c b a).2.1⟩
 |nest t e g i d f=>
  obtain⟨j,_,c⟩:=h;exact⟨(c b a).1,(c b a).2.2,(c b a).2.1⟩
 |itM z A G H y left u q=>
  obtain⟨D,m,seen,x,t,d,v,c,i,j,n,o⟩:=h;rcases a with a| ⟨E,r,F,s,g,f⟩
  . rw[d]at a;simp[Vc.root]at a;subst a;exact⟨i,(rX.1 c.it).1,j⟩
  rw[d]at g;cases g;rw[c.it]at f;cases f;exact⟨n,(rX.1 c.mp).1,o⟩
def E9 {a e sz m:Nat} {v:Value} {xs:List Value} (h:w.ownsRow a e sz v m xs):root v=v.ownBlock:=by
 rcases h.2 with⟨a,_⟩ | ⟨g,b,c,a,_⟩<;>rw[a]<;>rfl
def Bq {a e sz m:Nat} {v:Value} {xs:List Value} (h:w.ownsRow a e sz v m xs) (l:∀b,v.ownBlock=some b->w'.heap[b]? =w.heap[b]?):w'.ownsRow a e sz v m xs:=by
 refine⟨h.1,?_⟩;rcases h.2 with h| ⟨g,d,f,c,i,j,k⟩
 . exact .inl h
 exact .inr ⟨g,d,f,c,i,by rw[l g (by rw[c];rfl)];exact j,k⟩
def T7.own {f e n:Nat} {v:Value} {xs:List Value} {H:Nat->Bool} (c:w.ownsRow f e 1 v n xs) {i b:Nat} {x:Value} (o:H i=false) (a:xs[i]? =some x) (k:Vc.root x=some b):T7 w v H b:=by
 refine .inr ?_;rcases c.2 with⟨d,s⟩ | ⟨j,g,h,d,_,l,z,_,A,t⟩
 . have:=c.1;rw[s]at this;have u:xs= []:=qR ω;rw[u]at a;cases a
 have r:i<n:=by have:=(sU.1 a).1;have y:=c.1;omega
 refine⟨j,_,g,h,e,i,x,d,l,r,o,?_,k⟩;rw[<-t,sC ω]at a;simpa using a
def T7.cases {base e n:Nat} {v:Value} {xs:List Value} {H:Nat->Bool} (h1:w.ownsRow base e 1 v n xs) {b:Nat} (hf:T7 w v H b):Vc.root v=some b\/∃(i:Nat) (x:Value),H i=false/\xs[i]? =some x/\Vc.root x=some b:=by
 rcases hf with c| ⟨u,m,l,r,t,i,x,f,h,z,g,k,c⟩
 . exact .inl c
 refine .inr ⟨i,x,g,?_,c⟩;rcases h1.2 with⟨a,_⟩ | ⟨y,o,s,a,_,d,A,_,B,j⟩
 . rw[f]at a;cases a
 rw[f]at a;cases a;rw[h]at d;cases d;rw[<-j,sC ω];simpa using k
def UJ.mono (d:∀b,Z b->Z' b) (c:O6 Z w w'):∀ {t:Ty} {e':TypeId} {v:Value} {x:t.den},(∀b,Vc.root v=some b->w'.heap[b]? =w.heap[b]?)->UJ t e' w Z v x->UJ t e' w' Z' v x
 | .sl t,_,_,_,g,⟨i,a,f⟩=>⟨i,Bq a (λb h=>g b ((E9 a).trans h)),f.mono λ_ _=>C9.mono d c⟩
 | .mp k l n o,_,_,_,j,⟨b,f,a,e,g,h,i⟩=>⟨b,f,a,e,by rw[j b (by rw[e];rfl)];exact g,h,i.mono d c⟩
 | .int _,_,_,_,_,h=>h.elim
 | .bool,_,_,_,_,h=>h.elim
 | .str,_,_,_,_,h=>h.elim
 | .unit,_,_,_,_,h=>h.elim
 | .pair _ _,_,_,_,_,h=>h.elim
 | .ptr _,_,_,_,_,h=>h.elim
def RL.mono {U:Nat->Prop} {k:Nat} {l:LC} (d:∀b,Z b->Z' b) (c:O6 Z w w') (s:∀k,k<n->B' k=B k) (g:live l->B' k=B k) (a:∀b,B7 w (B k) l b->w'.heap[b]? =w.heap[b]?) (i:∀b,B7 w (B k) l b->¬Z' b) (t:BJ n l) (h:RL U w Z B k l):RL U w' Z' B' k l:=by
 cases l with
 |none=>trivial
 |al _=>trivial
 |sbox q u x=>
  obtain⟨j,o,b,r⟩:=h;have f:B' q=B q:=s q t;refine⟨j,?_,b,f.trans r⟩;rw[f];exact C9.mono d c o
 |mapE G H I J D F q=>
  obtain⟨b,r,j,e,u,E,v,⟨A,x⟩,o,y,z⟩:=h;have f:Vc.root (B k)=some b:=by rw[e];rfl
  exact⟨b,r,j,(g trivial).trans e,u,i b f,by rw[a b f];exact v,⟨A,x.mono d c⟩,o,y,(s q t).trans z⟩
 |iter M N O P left I=>
  obtain⟨r,e,z,J,f⟩:=h;have u:Vc.root (B k)=some r:=by rw[e];rfl
  refine⟨r,(g trivial).trans e,z,i r u,?_⟩;have v:=a r u;rcases f with⟨f,j⟩ | ⟨m,seen,y,x,f,j,A,D,E,F⟩
  . exact .inl ⟨v.trans f,j⟩
  exact .inr ⟨m,seen,y,x,v.trans f,d m j,(c m j).trans A,D,E.mono d c,λH G=>(F H G).imp λe o=>⟨o.1,o.2.1,o.2.2.1.mono λ_ _=>C9.mono d c,o.2.2.2.mono λ_ _=>C9.mono d c⟩⟩
 |box y v=>
  obtain⟨b,u,e,j,x,o,r⟩:=h;have f:Vc.root (B k)=some b:=by rw[e];rfl
  refine⟨b,u,(g trivial).trans e,j,i b f,?_,Cz.mono d c s t r⟩;unfold KR;rw[a b f];exact o
 |row x e l=>
  obtain⟨v,j,r,u⟩:=h;have o:=E9 j;refine⟨v,?_,r.mono λ_ _=>C9.mono d c,λb f=>?_⟩
  . rw[g trivial];exact Bq j λb f=>a b (o.trans f)
  rw[g trivial]at f;exact⟨(u b f).1,i b (o.trans f)⟩
 |map A D E F y=>
  obtain⟨b,o,j,e,r,z,u,x,v⟩:=h;have f:Vc.root (B k)=some b:=by rw[e];rfl
  exact⟨b,o,j,(g trivial).trans e,r,i b f,by rw[a b f];exact u,x,v.mono d c⟩
 |rows a3 e I F al A=>
  have T:=λb=>B7.iff (b:=b) a
  obtain⟨y,r,⟨O,P,Q⟩,z,R⟩:=h;have a7:=E9 r;have X:∀o x b,Eo A o=false->y[o]? =some x->Vc.root x=some b->B7 w (B k) (.rows a3 e I F al A) b:=λo x b v j f=>by
   refine .inr ?_;rcases r.2 with⟨E,a0⟩ | ⟨J,G,H,E,_,V,a6,_,a8,a1⟩
   . have:=r.1;rw[a0]at this;have a2:y= []:=qR ω;rw[a2]at j;cases j
   have W:o<F.length:=by have:=(sU.1 j).1;have a5:=r.1;omega
   refine⟨J,_,G,H,e,o,x,E,V,W,v,?_,f⟩;rw[<-a1,sC ω]at j;simpa using j
  rw[<-g trivial]at r z;refine⟨y,Bq r λb f=>a b (.inl (by rw[<-g trivial];exact(E9 r).trans f)),⟨λp D=>by rw[s _ (t p D)];exact O p D,λo l x v Y j=>?_,Q⟩,z,λb f=>?_⟩
  . obtain⟨a4,u,M⟩:=P o l x v Y j;exact⟨a4,Bq u λb f=>a b (X o x b v j ((E9 u).trans f)),M.mono λ_ _=>C9.mono d c⟩
  rw[g trivial]at f;have f:=(T b).1 f;obtain⟨u,_,N⟩:=R b f;refine⟨u,i b f,?_⟩;have:=a b f;rw[vK N]at this;exact(rX.1 this).1
 |nest D e v A o r=>
  obtain⟨u,j,G⟩:=h;have H:=g trivial;have I:∀b,T7 w' (B k) (Dz o r) b↔T7 w (B k) (Dz o r) b:=λb=>T7.iff λb f=>a b (.inl f)
  rw[show RL U w' Z' B' k (.nest D e v A o r)=∃u,oH w' Z' B' D e v A o r (B k) u/\∀b,T7 w' (B k) (Dz o r) b->U b/\¬Z' b/\b<w'.heap.size from by rw[<-H];rfl];refine⟨u,⟨Bq j.own λb f=>a b (.inl ((E9 j.own).trans f)),λp y=>(j.out p y).trans (by rw[s _ (t p y)]),λM l N x J z=>?_,j.dis,j.top⟩,λb f=>?_⟩
  . exact(j.elt M l N x J z).mono d c λb f=>a b (T7.own j.own x z f)
  have f:=(I b).1 f;obtain⟨E,_,F⟩:=G b f;refine⟨E,i b f,?_⟩;have:=a b f;rw[vK F]at this;exact(rX.1 this).1
 |itM z A D E v left u q=>
  obtain⟨r,m,seen,H,F,o,G,f,I,O,J,P⟩:=h;have x:B7 w (B k) (.itM z A D E v left u q) r:= .inl (by rw[o];rfl);have y:B7 w (B k) (.itM z A D E v left u q) m:= .inr ⟨r,_,_,_,o,f.it⟩;exact⟨r,m,seen,H,F,(g trivial).trans o,(s q t).trans G,⟨(a r x).trans f.it,(a m y).trans f.mp,f.ok,f.all.mono d c,f.rest.mono d c,λN M=>(f.cur N M).imp λe j=>⟨j.1,j.2.1,j.2.2.1.mono λ_ _=>C9.mono d c,j.2.2.2.mono λ_ _=>C9.mono d c⟩⟩,I,i r x,J,i m y⟩
def Cu.le {m:Nat} (a:n<=m):∀ {c:C},Cu n c->Cu m c
 | .val _ _,h=>h
 | .row _,h=>rI h a
 | .box _ _,h=>rI h a
 | .elp _ _ _ _,h=>rI h a
 | .win _ _ _ _,h=>rI h a
 | .pf _ _ _,h=>h
 | .mp _,h=>rI h a
 | .fn _ _,h=>λk b=>rI (h k b) a
 | .fv _ _ _ _ _ _,h=>h
 | .raw _,h=>h
 | .dead,h=>h
def NC.le {m:Nat} (a:n<=m):∀ {d:DV},NC n d->NC m d
 | .one _,h=>λc b=>(h c b).le a
 | .tup _,h=>λs f c b=>(h s f c b).le a
 | .cnd _ _ _,h=>λc b=>(h c b).le a
 | .dead,h=>h
def BJ.le {m:Nat} (a:n<=m):∀ {d:LC},BJ n d->BJ m d
 | .none,h=>h
 | .box _ _,h=>λc b=>(h c b).le a
 | .row _ _ _,h=>h
 | .map _ _ _ _ _,h=>h
 | .al _,h=>h
 | .sbox _ _ _,h=>rI h a
 | .iter _ _ _ _ _ _,h=>h
 | .mapE _ _ _ _ _ _ _,h=>rI h a
 | .rows _ _ _ _ _ _,h=>λp b=>rI (h p b) a
 | .nest _ _ _ _ _ _,h=>λp b=>rI (h p b) a
 | .itM _ _ _ _ _ _ _ _,h=>rI h a
def oI.le {n m:Nat} {a:List (List (Nat×Nat×DV))} (h:oI n a) (b:n<=m):oI m a:=λf a s=>(h f a s).le b
def RD.upd {E:H5} {d:Nat} {u:Value} :∀ {x:DV} {v:Value},HA d x=false->RD w Z B E x v->RD w Z B (upd E d u) x v
 | .one _,_,_,h=>h
 | .tup _,_,_,h=>h
 | .cnd t b s,v,a,h=>by
  have b:t≠d:=uL a;show(Gw.upd E d u t= _ /\ _)\/(Gw.upd E d u t≠ _ /\ _);rw[C5 _ _ _ _ b];exact h
 | .dead,_,_,_=>trivial
end mono
section steps
variable {za:Zn} {w0 w w':World} {Z Z':Nat->Prop} {B:Nat->Value} {st:St} {E:H5}
def C3.setS (h:C3 za w0 st E w Z B) (d:Nat) {x:DV} {v:Value} (f:RD w Z B (upd E d v) x v) (c:NC st.nx x):C3 za w0 (st.setS d x) (upd E d v) w Z B:=by
 refine⟨h.ext,h.zlt,λs=>?_,h.locs,h.disj,λs=>?_,h.refl,h.fresh,h.bone,h.zin,h.nms,h.bfix,h.mrk,h.frs,h.frf⟩
 . rw[St.S_setS];by_cases a:s=d
   . subst a;simp only[vZ,C2];exact f
   rw[qG a,C5 _ _ _ _ a];cases b:HA d (st.S s)with
   |true=>trivial
   |false=>exact RD.upd b (h.slots s)
 rw[St.S_setS];by_cases a:s=d
 . rw[qK a];exact c
 rw[qG a];cases b:HA d (st.S s)with
 |true=>trivial
 |false=>exact h.refs s
def C3.keep (h:C3 za w0 st E w Z B) (u:Y9 za.m w0 w') (o:w.heap.size<=w'.heap.size) (f:∀b,(Z b\/∃k,B7 w (B k) (st.L k) b)->w'.heap[b]? =w.heap[b]?)
 (l:∀b,Z b->Z' b) (n:∀b,Z' b->Z b\/(b<w'.heap.size/\w0.heap.size<=b/\∀k,¬B7 w (B k) (st.L k) b)):C3 za w0 st E w' Z' B:=by
 have j:O6 Z w w':=λb c=>f b (.inl c)
 have i:∀k b,B7 w' (B k) (st.L k) b↔B7 w (B k) (st.L k) b:=λk b=>B7.iff λb g=>f b (.inr ⟨k,g⟩)
 refine⟨u,λb c=>?_,λs=>(h.slots s).mono l j (λ_ _=>rfl) (h.refs s),λk=>?_,λk r b x a t=>h.disj k r b x ((i k b).1 a) ((i r b).1 t),h.refs,h.refl,h.fresh,h.bone,λb c=>?_,h.nms,h.bfix,⟨qY h.mrk.1 o,λk b v g=>h.mrk.2 k b v ((i k b).1 g)⟩,h.frs.mono l j (λ_ _=>rfl) h.frf,h.frf⟩
 . rcases n b c with a|a
   . exact rI (h.zlt b a) o
   exact a.1
 . refine(h.locs k).mono l j (λ_ _=>rfl) (λ_=>rfl) (λb d=>f b (.inr ⟨k,d⟩)) (λb d c=>?_) (h.refl k);rcases n b c with a|a
   . exact((h.locs k).root d).2.2 a
   exact a.2.2 k d
 rcases n b c with a|a
 . exact h.zin b a
 exact .inr a.2.1
def C3.ft (h:C3 za w0 st E w Z B) (f:R7 w w') {k b:Nat} (d:B7 w' (B k) (st.L k) b):B7 w (B k) (st.L k) b:=(B7.iff λc a=>f.block c ((h.locs k).root a).2.1).1 d
def C3.more (h:C3 za w0 st E w Z B) (c:R7 w w') (d:∀b,Z b->Z' b) (f:∀b,Z' b->Z b\/(w.heap.size<=b/\b<w'.heap.size)):C3 za w0 st E w' Z' B:=by
 refine h.keep (h.ext.trans c) c.size (λb a=>c.block b ?_) d (λb a=>?_)
 . rcases a with a| ⟨k,d⟩
   . exact h.zlt b a
   exact((h.locs k).root d).2.1
 rcases f b a with c|c
 . exact .inl c
 exact .inr ⟨c.2,qY h.ext.size c.1,λk d=>by have:=((h.locs k).root d).2.1;omega⟩
def C3.new (h:C3 za w0 st E w Z B) {v:Value} {lc:LC} (f:RL (up za w0 st.nx) w Z (upd B st.nx v) st.nx lc) (r:∀k b,B7 w v lc b->¬B7 w (B k) (st.L k) b) (D:BJ (st.nx+1) lc) (F:v.oneCell'=true) (A:∀b,za.k0<=st.nx->B7 w v lc b->za.b0<=b):
 C3 za w0 (st.newL lc) E w Z (upd B st.nx v):=by
 have d:∀k,k<st.nx->(upd B st.nx v) k=B k:=λk a=>C5 _ _ _ _ (uE a)
 have l:(upd B st.nx v) st.nx=v:=C2 _ _ _;have j:∀k,live (st.L k)->k<st.nx:=λk a=>by
  by_cases z:k<st.nx
  . exact z
  rw[h.fresh k ω]at a;exact a.elim
 have o:O6 Z w w:=λ_ _=>rfl
 refine⟨h.ext,h.zlt,λs=>(h.slots s).mono (λ_=>id) o d (h.refs s),λk=>?_,?_,λs=>(h.refs s).le (uI _),λk=>?_,λk a=>?_,λk=>?_,h.zin,⟨h.nms.1,xA h.nms.2⟩,λk a=>(d k (rI a h.nms.2)).trans (h.bfix k a),⟨h.mrk.1,λk b a f=>?_⟩,h.frs.mono (λ_=>id) o d h.frf,h.frf.le (uI _)⟩
 . rw[St.L_newL];by_cases a:k=st.nx
   . subst a;rw[qK rfl];exact f
   rw[qG a];exact(h.locs k).mono (λ_=>id) o d (λy=>d k (j k y)) (λ_ _=>rfl) (λb x G=>((h.locs k).root x).2.2 G) (h.refl k)
 . intro k i b u g c;rw[St.L_newL]at g c;by_cases a:k=st.nx
   . subst a;rw[qG (Ne.symm u)]at c;rw[qK rfl,l]at g;rw[d i (j i c.live)]at c;exact r i b g c
   rw[qG a]at g;rw[d k (j k g.live)]at g;by_cases n:i=st.nx
   . subst n;rw[qK rfl,l]at c;exact r k b c g
   rw[qG n]at c;rw[d i (j i c.live)]at c;exact h.disj k i b u g c
 . rw[St.L_newL];by_cases a:k=st.nx
   . rw[qK a];exact D
   rw[qG a];exact(h.refl k).le (uI _)
 . rw[St.L_newL];have n:st.nx+1<=k:=a;rw[qG ω];exact h.fresh k ω
 . by_cases a:k=st.nx
   . rw[a,l];exact F
   rw[C5 _ _ _ _ a];exact h.bone k
 rw[St.L_newL]at f;by_cases t:k=st.nx
 . subst t;rw[qK rfl,l]at f;exact A b a f
 rw[qG t]at f;rw[d k (j k f.live)]at f;exact h.mrk.2 k b a f
def C3.drop (h:C3 za w0 st E w Z B) (k:Nat):C3 za w0 (st.setL k .none) E w Z B:=by
 refine⟨h.ext,h.zlt,h.slots,λq=>?_,λq j d g a b=>?_,h.refs,λq=>?_,λq i=>?_,h.bone,h.zin,h.nms,h.bfix,⟨h.mrk.1,λq d f c=>(by rw[St.L_setL]at c;split at c;exact c.elim;exact h.mrk.2 q d f c)⟩,h.frs,h.frf⟩
 . rw[St.L_setL];split
   . trivial
   exact h.locs q
 . rw[St.L_setL]at a b;split at a
   . exact a.elim
   split at b
   . exact b.elim
   exact h.disj q j d g a b
 . rw[St.L_setL];split
   . trivial
   exact h.refl q
 rw[St.L_setL];split
 . rfl
 exact h.fresh q i
def C3.chg (h:C3 za w0 st E w Z B) {k b:Nat} {lc:LC} (n:live (st.L k)) (j:B7 w (B k) (st.L k) b) (g:WT b w w') (x:RL (up za w0 k) w' Z B k lc) (z:BJ st.nx lc) (l:∀b,B7 w' (B k) lc b->root (B k)=some b\/B7 w (B k) (st.L k) b):C3 za w0 (st.setL k lc) E w' Z B:=by
 have s:=(h.locs k).root j;have l:∀b,B7 w' (B k) lc b->B7 w (B k) (st.L k) b:=λb hh=>(l b hh).elim (B7.of n) id
 have c:C3 za w0 (st.setL k .none) E w' Z B:=by
  refine(h.drop k).keep (h.ext.chg g s.1.m) (by rw[g.2.2.2.1];exact qT _) (λq a=>g.2.2.2.2 q ?_) (λ_=>id) (λ_=> .inl);rintro rfl;rcases a with a| ⟨t,d⟩
  . exact s.2.2 a
  rw[St.L_setL]at d;by_cases o:t=k
  . rw[qK o]at d;exact d.elim
  rw[qG o]at d;exact h.disj t k q o d j
 have F:k<st.nx:=by
  by_cases o:k<st.nx
  . exact o
  rw[h.fresh k ω]at n;exact n.elim
 have i:∀q,(st.setL k lc).L q=if q=k then lc else(st.setL k .none).L q:=λq=>by
  rw[St.L_setL,St.L_setL];split<;>simp_all
 have r:∀q b,B7 w' (B q) ((st.setL k lc).L q) b->B7 w (B q) (st.L q) b:=λq f a=>by
  rw[St.L_setL]at a;split at a
  . rename_i e;rw[e]at a|-;exact l f a
  refine(B7.iff λo t=>g.2.2.2.2 o ?_).1 a;rintro rfl;rename_i e;exact h.disj q k o e t j
 refine⟨c.ext,c.zlt,c.slots,λq=>?_,λq u f y A D=>?_,c.refs,λq=>?_,λq a=>?_,h.bone,h.zin,h.nms,h.bfix,⟨c.mrk.1,λq b v d=>h.mrk.2 q b v (r q b d)⟩,c.frs,c.frf⟩
 . rw[i];split
   . rename_i a;rw[a];exact x
   exact c.locs q
 . exact h.disj q u f y (r q f A) (r u f D)
 . rw[i];split
   . exact z
   exact c.refl q
 rw[i,qG (by have:st.nx<=q:=a;omega)];exact c.fresh q a
def C3.relc (h:C3 za w0 st E w Z B) {k:Nat} {lc:LC} (d:live (st.L k)) (i:RL (up za w0 k) w Z B k lc) (n:BJ st.nx lc) (g:∀b,B7 w (B k) lc b->root (B k)=some b\/B7 w (B k) (st.L k) b):C3 za w0 (st.setL k lc) E w Z B:=by
 have a:k<st.nx:=by
  by_cases a:k<st.nx
  . exact a
  rw[h.fresh k ω]at d;exact d.elim
 have f:∀q b,B7 w (B q) ((st.setL k lc).L q) b->B7 w (B q) (st.L q) b:=λq c a=>by
  rw[St.L_setL]at a;split at a
  . rename_i e;rw[e]at a|-;exact(g c a).elim (B7.of d) id
  exact a
 refine⟨h.ext,h.zlt,h.slots,λq=>?_,λq d c l o r=>?_,h.refs,λq=>?_,λq a=>?_,h.bone,h.zin,h.nms,h.bfix,⟨h.mrk.1,λq b g j=>h.mrk.2 q b g (f q b j)⟩,h.frs,h.frf⟩
 . rw[St.L_setL];split
   . rename_i a;rw[a];exact i
   exact h.locs q
 . exact h.disj q d c l (f q c o) (f d c r)
 . rw[St.L_setL];split
   . exact n
   exact h.refl q
 rw[St.L_setL,qG (by have:st.nx<=q:=a;omega)];exact h.fresh q a
def C3.addL (h:C3 za w0 st E w Z B) {k:Nat} {lc:LC} (v:k<st.nx) (s:RL (up za w0 k) w Z B k lc) (l:∀j b,j≠k->B7 w (B k) lc b->¬B7 w (B j) (st.L j) b) (u:BJ st.nx lc) (t:∀b,za.k0<=k->B7 w (B k) lc b->za.b0<=b):C3 za w0 (st.setL k lc) E w Z B:=by
 refine⟨h.ext,h.zlt,h.slots,λq=>?_,λq i b g d c=>?_,h.refs,λq=>?_,λq a=>?_,h.bone,h.zin,h.nms,h.bfix,⟨h.mrk.1,λq b n f=>(by
  rw[St.L_setL]at f;by_cases r:q=k
  . subst r;rw[qK rfl]at f;exact t b n f
  rw[qG r]at f;exact h.mrk.2 q b n f)⟩,h.frs,h.frf⟩
 . rw[St.L_setL];split
   . rename_i a;rw[a];exact s
   exact h.locs q
 . rw[St.L_setL]at d c;by_cases a:q=k
   . subst a;rw[qG (Ne.symm g)]at c;rw[qK rfl]at d;exact l i b (Ne.symm g) d c
   rw[qG a]at d;by_cases o:i=k
   . subst o;rw[qK rfl]at c;exact l q b a c d
   rw[qG o]at c;exact h.disj q i b g d c
 . rw[St.L_setL];split
   . exact u
   exact h.refl q
 rw[St.L_setL,qG (by have:st.nx<=q:=a;omega)];exact h.fresh q a
def W9 {v:Value} {t c:Ty} {e e' d j b:Nat} {ls:List (List t.den)} {k:List (List c.den)} {al f:List (Nat×Nat)} {a:Option Nat} (h:∀g,root v=some g->w'.heap[g]? =w.heap[g]?):B7 w' v (.rows c d j k f a) b↔B7 w v (.rows t e e' ls al a) b:=by
 refine g4a yA ⟨fun⟨g,n,cap,cur,e,i,x,hv,hg,r⟩=>⟨g,n,cap,cur,e,i,x,hv,?_,r⟩,fun⟨g,n,cap,cur,e,i,x,hv,hg,r⟩=>⟨g,n,cap,cur,e,i,x,hv,?_,r⟩⟩
 . rw[<-h g (by rw[hv];rfl)];exact hg
 rw[h g (by rw[hv];rfl)];exact hg
def B8s {U:Nat->Prop} {t:Ty} {k e e' i q b:Nat} {ls:List (List t.den)} {al:List (Nat×Nat)} {l:List t.den} {v:List Value} (h:RL U w Z B k (.rows t e e' ls al none)) (X:(i,q)∈al) (d:root (B q)=some b) (j:WT b w w') (a0:¬Z b) (W:w'.ownsRow 0 e' t.size (B q) l.length v) (T:G8 (C9 t w' Z) v l):
 RL U w' Z B k (.rows t e e' (ls.set i l) al none)/\B7 w (B k) (.rows t e e' ls al none) b/\root (B k)≠some b:=by
 obtain⟨a3,f,⟨y,Q,z⟩,A,R⟩:=h;have c:=(y _ X).resolve_right λhh=>by rw[hh.2]at d;simp[Vc.root]at d
 have E:i<ls.length:=by have:=(sU.1 c).1;have a5:=f.1;omega
 have F:root (B k)≠some b:=A i _ b rfl c d;have G:O6 Z w w':=λr hc'=>j.2.2.2.2 r (λe=>a0 (e▸hc'))
 have D:∀g,root (B k)=some g->w'.heap[g]? =w.heap[g]?:=λg a=>j.2.2.2.2 g (λe=>F (e▸a))
 refine⟨⟨a3,by rw[qP];exact Bq f (λg a=>D g ((E9 f).trans a)),⟨y,λu a1 a2 _ n o=>?_,z⟩,A,λr V=>?_⟩,?_,F⟩
 . by_cases s:i=u
   . subst s;rw[sL E]at n;cases n;rw[c]at o;cases o;exact⟨v,W,T⟩
   rw[sX s]at n;obtain⟨a4,x,P⟩:=Q u a1 a2 rfl n o;refine⟨a4,Bq x (λg a=>j.2.2.2.2 g (λe=>?_)),P.mono λ_ _=>C9.mono (λ_=>id) G⟩;subst e;exact z i u _ _ g s rfl rfl c o d ((E9 x).trans a)
 . obtain⟨I,J,M⟩:=R r ((W9 D).1 V);exact⟨I,J,by rw[j.2.2.2.1];exact M⟩
 refine .inr ?_;rcases f.2 with⟨H,a7⟩ | ⟨g,N,O,H,_,a,a6,_,G,Y⟩
 . omega
 refine⟨g,_,N,O,e,i,_,H,a,E,rfl,?_,d⟩;rw[<-Y,sC ω]at c;simpa using c
def Cp (w:World) (Z:Nat->Prop) (t:Ty) (e e':TypeId) (v:Value) (ls:List (List t.den)):Prop:=
 ∃a:List Value,w.ownsRow 0 e 1 v ls.length a/\(∀(i:Nat) (l:List t.den) (x:Value),ls[i]? =some l->a[i]? =some x->∃b,w.ownsRow 0 e' t.size x l.length b/\G8 (C9 t w Z) b l)/\
  (∀(i j:Nat) (x y:Value) (b:Nat),i≠j->a[i]? =some x->a[j]? =some y->root x=some b->root y≠some b)/\∀(i:Nat) (x:Value) (b:Nat),a[i]? =some x->root x=some b->root v≠some b
def RL.rowsR {U:Nat->Prop} {t:Ty} {k e e':Nat} {ls:List (List t.den)} {al:List (Nat×Nat)} (h:RL U w Z B k (.rows t e e' ls al none)):Cp w Z t e e' (B k) ls:=by
 obtain⟨c,b,⟨a,d,f⟩,g,i⟩:=h;exact⟨c,b,λi r x l a=>d i r x rfl l a,λi o x y b j a n c=>f i o x y b j rfl rfl a n c,λi x b a c=>g i x b rfl a c⟩
def Cp.rl {U:Nat->Prop} {t:Ty} {k e e':Nat} {ls:List (List t.den)} (h:Cp w Z t e e' (B k) ls) (g:∀b,B7 w (B k) (.rows t e e' ls [] none) b->U b/\¬Z b/\b<w.heap.size):RL U w Z B k (.rows t e e' ls [] none):=by
 obtain⟨o,a,c,d,f⟩:=h;exact⟨o,a,⟨λp n=>(by cases n),λi l x _ hl hx=>c i l x hl hx,λi j x y b hij _ _ hx hy hb=>d i j x y b hij hx hy hb⟩,λi x b _ hx hb=>f i x b hx hb,g⟩
def Cp.mono {t:Ty} {e e':Nat} {v:Value} {ls:List (List t.den)} (k:∀b,Z b->Z' b) (h:Cp w Z t e e' v ls):Cp w Z' t e e' v ls:=by
 obtain⟨o,c,d,f,g⟩:=h;exact⟨o,c,λl n x i j=>(d l n x i j).imp λr a=>⟨a.1,a.2.mono λ_ _=>C9.mono k (λ_ _=>rfl)⟩,f,g⟩
end steps
def lY (P:Program) (r:TypeId->Ty->Bool):List Field->Nat->Ty->Bool
 | [],_, .unit=>true
 | [f],b,a=>Nat.beq f.offset b&&r f.type a&&Nat.beq (P.cellsOf f.type) a.size
 |f::g::d,b, .pair a c=>Nat.beq f.offset b&&r f.type a&&Nat.beq (P.cellsOf f.type) a.size&&lY P r (g::d) (b+a.size) c
 | _,_,_=>false
def lW (r:Ty->Bool) (sz:Nat):Nat->Ty->Bool
 |0, .unit=>true
 |1,a=>r a&&Nat.beq a.size sz
 |n+2, .pair a b=>r a&&Nat.beq a.size sz&&lW r sz (n+1) b
 | _,_=>false
def A0e (P:Program):Nat->TypeId->Ty->Bool
 |0,_,_=>false
 |n+1,T,a=>match P.underlying T with
  |some (.int k)=>(match a with| .int k'=>decide (k=k') | _=>false)
  |some .bool=>(match a with| .bool=>true| _=>false)
  |some (.struct b)=>lY P (A0e P n) b.toList 0 a&&Nat.beq (P.cellsOf T) a.size&&b.all (·.name != "_")
  |some (.array m e)=>lW (A0e P n e) (P.cellsOf e) m a&&Nat.beq (P.cellsOf T) a.size
  | _=>false
def Mm:(t:Ty)->t.den->List Lit
 | .int k,n=> [.int k n]
 | .bool,b=> [.bool b]
 | .pair a b,x=>Mm a x.1++Mm b x.2
 | _,_=> []
def Hk:Ty->Bool
 | .int _=>true
 | .bool=>true
 | .unit=>true
 | .pair a b=>Hk a&&Hk b
 | _=>false
def GX:(t:Ty)->t.den->t.den->Bool
 | .int _,a,b=>decide ((show Int from a)=b)
 | .bool,a,b=>(show Bool from a)==b
 | .pair a b,x,y=>GX a x.1 y.1&&GX b x.2 y.2
 | _,_,_=>true
def ZB:∀ {t:Ty} {x y:t.den},(Mm t x).length=(Mm t y).length
 | .int _,_,_=>rfl
 | .bool,_,_=>rfl
 | .pair a b,x,y=>by simp only[Mm,rS];rw[ZB (t:=a) (x:=x.1) (y:=y.1),ZB (t:=b) (x:=x.2) (y:=y.2)]
 | .str,_,_=>rfl
 | .unit,_,_=>rfl
 | .sl _,_,_=>rfl
 | .ptr _,_,_=>rfl
 | .mp _ _ _ _,_,_=>rfl
def ZA:∀ {t:Ty} {x y:t.den},Hk t=true->(Mm t x=Mm t y↔x=y)
 | .int _,x,y,_=>by simp[Mm]
 | .bool,x,y,_=>by simp[Mm]
 | .unit,x,y,_=>by simp[Mm]
 | .pair a b,x,y,h=>by
  simp only[Hk,qC]at h;simp only[Mm];constructor
  . intro e;have:=List.append_inj e ZB;exact Prod.ext ((ZA h.1).1 this.1) ((ZA h.2).1 this.2)
  rintro rfl;rfl
 | .str,_,_,h=>by cases h
 | .sl _,_,_,h=>by cases h
 | .ptr _,_,_,h=>by cases h
 | .mp _ _ _ _,_,_,h=>by cases h
def WC:∀ {t:Ty} {x y:t.den},Hk t=true->(GX t x y=true↔x=y)
 | .int _,x,y,_=>by simp[GX]
 | .bool,x,y,_=>by simp[GX]
 | .unit,x,y,_=>by simp[GX]
 | .pair a b,x,y,h=>by
  simp only[Hk,qC]at h;simp only[GX,qC,WC h.1,WC h.2];exact⟨fun⟨a,b⟩=>Prod.ext a b,λe=>by rw[e];exact⟨rfl,rfl⟩⟩
 | .str,_,_,h=>by cases h
 | .sl _,_,_,h=>by cases h
 | .ptr _,_,_,h=>by cases h
 | .mp _ _ _ _,_,_,h=>by cases h
def Ps:∀ {t:Ty} {w w':World} {Z Z':Nat->Prop} {cs cs':List Value} {x:t.den},Hk t=true->C9 t w Z cs x->C9 t w' Z' cs' x->cs=cs'
 | .int _,_,_,_,_,_,_,_,_,h,a=>h.1.trans a.1.symm
 | .bool,_,_,_,_,_,_,_,_,h,a=>(show _= _ from h).trans (show _= _ from a).symm
 | .unit,_,_,_,_,_,_,_,_,h,a=>(show _= _ from h).trans (show _= _ from a).symm
 | .pair h i,_,_,_,_,_,_,_,a,⟨c1,k,e,c,f⟩,⟨j,l,b,d,g⟩=>by
  simp only[Hk,qC]at a;rw[e,b,Ps a.1 c d,Ps a.2 f g]
 | .str,_,_,_,_,_,_,_,h,_,_=>by cases h
 | .sl _,_,_,_,_,_,_,_,h,_,_=>by cases h
 | .ptr _,_,_,_,_,_,_,_,h,_,_=>by cases h
 | .mp _ _ _ _,_,_,_,_,_,_,_,h,_,_=>by cases h
section
variable {P:Program} {w:World} {Z:Nat->Prop}
def gO {n:Nat} {r:TypeId->Ty->Bool} {cs:List Value} (c:∀ {T:TypeId} {ty:Ty} {cs:List Value} {x:ty.den},r T ty=true->C9 ty w Z cs x->P.keyLits n T cs=some (Mm ty x)):
 ∀ {b:List Field} {off:Nat} {ty:Ty} {x:ty.den},lY P r b off ty=true->C9 ty w Z (cs.drop off) x->∃ls,b.mapM (λf=>P.keyLits n f.type ((cs.drop f.offset).take (P.cellsOf f.type)))=some ls/\ls.flatten=Mm ty x
 | [],off,ty,x,h,a=>by
  cases ty<;>simp[lY]at h;exact⟨[],rfl,rfl⟩
 | [f],off,ty,x,i,d=>by
  have a:(Nat.beq f.offset off&&r f.type ty&&Nat.beq (P.cellsOf f.type) ty.size)=true:=by cases ty<;>exact i
  simp only[qC]at a;have g:=qD a.1.1;have h:=qD a.2;have j:=C9.length d;refine⟨[Mm ty x],?_,by simp⟩;rw[wY,g,h,qU ω,c a.1.2 d];rfl
 |f::B::b,off,ty,x,h,v=>by
  cases ty<;>simp only[lY]at h<;>try cases h
  rename_i a z;simp only[qC]at h;obtain⟨⟨⟨k,l⟩,o⟩,s⟩:=h;obtain⟨c1,A,e,g,y⟩:=v;have d:=C9.length g;have i:=qD k;have j:=qD o;obtain⟨ls,u,t⟩:=gO (cs:=cs) (off:=off+a.size) (x:=x.2) c s (by rw[<-wA,e,zP d];exact y);refine⟨Mm a x.1::ls,?_,by simp[Mm,t]⟩;rw[wY,i,j,e,g0u d,c l g,u];rfl
def gN {n e sz:Nat} {r:Ty->Bool} (b:∀ {ty:Ty} {cs:List Value} {x:ty.den},r ty=true->C9 ty w Z cs x->P.keyLits n e cs=some (Mm ty x)):
 ∀ {m i:Nat} {ty:Ty} {cs:List Value} {x:ty.den},lW r sz m ty=true->C9 ty w Z (cs.drop (i*sz)) x->∃ls,(List.range' i m).mapM (λi=>P.keyLits n e ((cs.drop (i*sz)).take sz))=some ls/\ls.flatten=Mm ty x
 |0,i,ty,cs,x,h,a=>by
  cases ty<;>simp[lW]at h;exact⟨[],rfl,rfl⟩
 |1,i,ty,cs,x,h,c=>by
  have a:(r ty&&Nat.beq ty.size sz)=true:=by cases ty<;>exact h
  simp only[qC]at a;have d:=qD a.2;have f:=C9.length c;refine⟨[Mm ty x],?_,by simp⟩;rw[List.range'_one,wY,qU ω,b a.1 c];rfl
 |m+2,i,ty,cs,x,h,l=>by
  cases ty<;>simp only[lW]at h<;>try cases h
  rename_i c s;simp only[qC]at h;obtain⟨⟨d,f⟩,g⟩:=h;obtain⟨c1,t,e,a,o⟩:=l;have v:=C9.length a;have u:=qD f;obtain⟨ls,k,j⟩:=gN (cs:=cs) (i:=i+1) (x:=x.2) b g (by rw[tZ, <-wA,e,zP ω];exact o);refine⟨Mm c x.1::ls,?_,by simp[Mm,j]⟩;rw[g5h,wY,e,g0u ω,b d a,k];rfl
def WE:∀ {n:Nat} {T:TypeId} {ty:Ty} {cs:List Value} {x:ty.den},A0e P n T ty=true->C9 ty w Z cs x->P.keyLits n T cs=some (Mm ty x)
 |0,_,_,_,_,h,_=>by cases h
 |n+1,T,ty,cs,x,h,a=>by
  unfold A0e at h;unfold Program.keyLits;split at h
  . rename_i l b;cases ty<;>simp only at h<;>try cases h
    have:=qA h;subst this;obtain⟨e,g⟩:=a;simp only[b,e];rw[qK ⟨trivial,by simp only[Lit.wf,qC,rR];exact g⟩];rfl
  . rename_i b;cases ty<;>simp only at h<;>try cases h
    simp only[b,show cs= _ from a];rfl
  . rename_i k b;simp only[qC]at h;have f:=C9.length a;obtain⟨j,c,d⟩:=gO (n:=n) (cs:=cs) (off:=0) (λhh a=>WE hh a) h.1.1 (by simpa using a);simp only[b];rw[qK ⟨by rw[f,qD h.1.2],h.2⟩,c];simp[d]
  . rename_i m e b;simp only[qC]at h;have f:=C9.length a;obtain⟨j,c,d⟩:=gN (n:=n) (e:=e) (sz:=P.cellsOf e) (i:=0) (cs:=cs) (λhh a=>WE hh a) h.1 (by simpa using a);simp only[b];rw[qK (by rw[f,qD h.2]),g3o,c];simp[d]
  cases h
def FZ (P:Program) (T:TypeId) (a:Bool) (ty:Ty):Bool:=A0e P 20 T ty&&P.keyTypeAt 20 T&&Hk ty&& !(P.eqGuardType P.depth T)&&(match P.underlying T with|some (.struct _)=>a|some (.array _ _)=>a| _=> !a)
def IT {T:TypeId} {a:Bool} {ty:Ty} {v:Value} {x:ty.den} (h:FZ P T a ty=true) (i:V4 (C9 ty w Z) a v x):v.formed P T=true/\P.keyLits 20 T v.cells.toList=some (Mm ty x):=by
 simp only[FZ,qC]at h;obtain⟨⟨⟨⟨b,l⟩,n⟩,_⟩,d⟩:=h;cases a with
 |true=>
  obtain⟨k,e,g⟩:=i;subst e;have j:=WE b g;have f:=C9.length g;refine⟨?_,j⟩;unfold A0e at b;split at b
  . rename_i c;simp[c]at d
  . rename_i c;simp[c]at d
  . rename_i c;simp only[qC]at b;simp only[Value.formed,c];have:=qD b.1.2;simp[this,f]
  . rename_i c;simp only[qC]at b;simp only[Value.formed,c];have:=qD b.2;simp[this,f]
  cases b
 |false=>
  have f:C9 ty w Z [v] x:=i;have g:=WE b f;unfold A0e at b;split at b
  . rename_i k c;cases ty<;>simp only at b<;>try cases b
    have e:=f.1;simp only[sN,vR]at e;subst e;exact⟨by simp[Value.formed,c],g⟩
  . rename_i c;cases ty<;>simp only at b<;>try cases b
    have e: [v]= [.bool x]:=f;simp only[sN,vR]at e;subst e;exact⟨by simp[Value.formed,c],g⟩
  . rename_i c;simp[c]at d
  . rename_i c;simp[c]at d
  cases b
def IS {T:TypeId} {a:Bool} {ty:Ty} (h:FZ P T a ty=true):Hk ty=true:=by
 simp only[FZ,qC]at h;exact h.1.1.2
def gZ {T:TypeId} {a:Bool} {ty:Ty} {v b:Value} {x y:ty.den} (h:FZ P T a ty=true) (j:V4 (C9 ty w Z) a v x) (k:V4 (C9 ty w Z) a b y) (w':World):(Op.equalIn 10000 T v b).run P w'= .ok (GX ty x y) w':=by
 obtain⟨d,l⟩:=IT h j;obtain⟨f,n⟩:=IT h k;have c:=IS h;simp only[FZ,qC]at h;obtain⟨r,i,g⟩:=run_equalIn_deep (P:=P) 9980 20 T h.1.1.1.2 w' 20 20 v b _ _ d f l n;rw[i];have:r=GX ty x y:=by
  rw[ZA c, <-WC c]at g;cases r<;>cases o:GX ty x y<;>simp_all
 rw[this]
def Se {T:TypeId} {a:Bool} {ty:Ty} {v:Value} {x:ty.den} (h:FZ P T a ty=true) (d:V4 (C9 ty w Z) a v x) (w':World) (b:Bool):(Instr.checkKey b 10000 T v).run P w'= .ok () w':=by
 obtain⟨c,f⟩:=IT h d;simp only[FZ,qC]at h;exact run_checkKey_deep (P:=P) b 9980 20 T h.1.1.1.2 w' 20 v _ c f
def P9 {α:Type} (t:Ty) (k:t.den):List (t.den×α)->Nat->Option Nat
 | [],_=>none
 |x::l,i=>bif GX t k x.1 then some i else P9 t k l (i+1)
def F8 {α:Type} (t:Ty) (k:t.den):List (t.den×α)->Option α
 | []=>none
 |x::l=>bif GX t k x.1 then some x.2 else F8 t k l
def Eb {α:Type} (t:Ty) (k:t.den) (v:α):List (t.den×α)->List (t.den×α)
 | []=> [(k,v)]
 |x::l=>bif GX t k x.1 then(k,v)::l else x::Eb t k v l
def AS {T:TypeId} {g:Bool} {a:Ty} {n:Type} {Rv:Value->n->Prop} {v:Value} {k:a.den} (h:FZ P T g a=true) (D:V4 (C9 a w Z) g v k) (w':World):
 ∀ {l:List (a.den×n)} {es:List MapEntry},T5 (V4 (C9 a w Z) g) Rv es l->(Instr.findKey T v es).run P w'= .ok ((P9 a k l 0).bind λj=>(es[j]?).map λe=>(j,e.val)) w':=by
 have J:∀ {l:List (a.den×n)} {es:List MapEntry} (i:Nat),T5 (V4 (C9 a w Z) g) Rv es l->(Instr.findAsking T v es i).run P w'= .ok ((P9 a k l i).bind λj=>(es[j-i]?).map λe=>(j,e.val)) w':=by
  intro l
  induction l with
  |nil=>intro es i b;rw[show es= []from b];rfl
  |cons x l u=>
   intro es i b;obtain⟨e,M,rfl,f,o,F⟩:=b;have I:=gZ h D f w';unfold Instr.findAsking P9;simp only[Sem.run_bind,Op.equal,Op.maxDepth,I,Result.andThen_ok];cases GX a k x.1 with
   |true=>simp
   |false=>
    simp only[wC,yF,rJ];rw[u (i+1) F];cases H:P9 a k l (i+1)with
    |none=>rfl
    |some j=>
     have N:i+1<=j:=by
      have:∀(l:List (a.den×n)) (i j:Nat),P9 a k l i=some j->i<=j:=by
       intro l
       induction l with
       |nil=>intro i j t;cases t
       |cons y l u=>
        intro i j t;unfold P9 at t;cases A:GX a k y.1 with
        |true=>simp[A]at t;omega
        |false=>simp[A]at t;have:=u _ _ t;omega
      exact this _ _ _ H
     simp only[wG];rw[(ω:j-i=(j-(i+1))+1)];simp
 intro l es b;have G:=J 0 b;by_cases z:(match P.underlying T with|some (.array _ _) |some (.struct _)=>true| _=>false)=true
 . rw[run_findKey_eq w' z];exact G
 have B:=h;simp only[FZ,qC]at B;obtain⟨⟨⟨⟨d,_⟩,_⟩,_⟩,s⟩:=B;have E:∀(r:TypeDesc),P.underlying T=some r->(∀(v v':Value) (x y:a.den),V4 (C9 a w Z) g v x->V4 (C9 a w Z) g v' y->Instr.sameNow r v v'=some (GX a x y))->∀ {l:List (a.den×n)} {es:List MapEntry} (i:Nat),T5 (V4 (C9 a w Z) g) Rv es l->Instr.findNow r v es i=some ((P9 a k l i).bind λj=>(es[j-i]?).map λe=>(j,e.val)):=by
  intro r N I l
  induction l with
  |nil=>intro es i b;rw[show es= []from b];rfl
  |cons x l A=>
   intro es i b;obtain⟨e,M,rfl,f,o,F⟩:=b;unfold Instr.findNow P9;rw[I _ _ _ _ D f];cases u:GX a k x.1 with
   |true=>simp
   |false=>
    simp only[rJ];rw[A (i+1) F];cases H:P9 a k l (i+1)with
    |none=>rfl
    |some j=>
     have O:i+1<=j:=by
      have:∀(l:List (a.den×n)) (i j:Nat),P9 a k l i=some j->i<=j:=by
       intro l
       induction l with
       |nil=>intro i j t;cases t
       |cons y l A=>
        intro i j t;unfold P9 at t;cases u:GX a k y.1 with
        |true=>simp[u]at t;omega
        |false=>simp[u]at t;have:=A _ _ t;omega
      exact this _ _ _ H
     simp only[wG];rw[(ω:j-i=(j-(i+1))+1)];simp
 unfold A0e at d;split at d
 . rename_i q c;simp only[c,rO]at s;subst s;cases a<;>simp only at d<;>try cases d
   have:=qA d;subst this;have:=E _ c (λv v' x y f o=>by
    have t:=f.1;have u:=o.1;simp only[sN,vR]at t u;rw[t,u];simp[Instr.sameNow,GX,BEq.beq]) 0 b
   simp[Instr.findKey,run_underlying c,this]
 . rename_i c;simp only[c,rO]at s;subst s;cases a<;>simp only at d<;>try cases d
   have:=E _ c (λv v' x y f o=>by
    have t: [v]= [.bool x]:=f;have u: [v']= [.bool y]:=o;simp only[sN,vR]at t u;rw[t,u];simp[Instr.sameNow,GX]) 0 b
   simp[Instr.findKey,run_underlying c,this]
 . rename_i c;simp[c]at z
 . rename_i c;simp[c]at z
 cases d
end
def Oq (k:IntKind) (n:Int):GZ k (k.wrap n):=by
 unfold GZ;cases k<;>simp only[IntKind.wrap,IntKind.min,IntKind.max,IntKind.signed,IntKind.bits]<;>simp<;>(try split)<;>omega
def A0w (k:IntKind):GZ k 0:=by unfold GZ;cases k<;>decide
def B7j (k:IntKind):k.min<=0/\0<=k.max:=A0w k
def B9g {k:IntKind} {a b:Int} (l:GZ k a):GZ k (a.tmod b):=by
 have j:=B7j k;unfold GZ at*;rcases g4w 0 a with h|h
 . have d:=zO b h;have f:a.tmod b<=a:=by
    rw[uS h];by_cases g:b=0
    . subst g;simp
    have i:=yP a b;rcases g4w 0 b with c|c
    . have:=tV c (g0t h c);omega
    have:=zU c (zL h c);omega
   omega
 have d:0<=(-a).tmod b:=zO b ω;have f:(-a).tmod b<= -a:=by
  rw[uS ω];by_cases g:b=0
  . subst g;simp
  have i:=yP (-a) b;rcases g4w 0 b with c|c
  . have:=tV c (g0t (ω:0<= -a) c);omega
  have:=zU c (zL (ω:0<= -a) c);omega
 rw[Int.neg_tmod]at d f;omega
def B5p {k:IntKind} {a:Int} (n:Nat) (f:GZ k a):GZ k (a.fdiv (2^n)):=by
 have d:=B7j k;have b:(0:Int)<2^n:=Int.pow_pos δ;have c:(1:Int)<=2^n:=b;unfold GZ at*;rw[sP _ ω];constructor
 . rw[g2p b];have:k.min*2^n<=k.min*1:=Int.mul_le_mul_of_nonpos_left d.1 c;omega
 have:a/2^n<k.max+1:=by
  rw[g2o b];have:(k.max+1)*1<=(k.max+1)*2^n:=uG c ω;omega
 omega
structure TI where
 ty:Ty
 agg:Bool
 elem:TypeId:=0
 fields:List (Nat×Nat×Bool):= []
 arr:Nat:=0
 bytes:Nat:=0
 eq:Bool:=false
 key:TypeId:=0
 rows:Bool:=false
 nest:List Nat:= []
def zc (t:Ty) (vs:List Value):Option (List Value):=
 match t with
 | .int k=>(match vs with| .int k' n::r=>bif decide (k=k')&&decide (n=0)then some r else none| _=>none)
 | .bool=>(match vs with| .bool b::r=>bif b then none else some r| _=>none)
 | .str=>(match vs with| .string s::r=>bif s.data.isEmpty then some r else none| _=>none)
 | .unit=>some vs
 | .pair a b=>(zc a vs).bind (zc b)
 | .sl _=>(match vs with| .slice none 0 0::r=>some r| _=>none)
 | .ptr _=>(match vs with| .pointer none::r=>some r| _=>none)
 | .mp _ _ _ _=>(match vs with| .map none::r=>some r| _=>none)
def Em:Ty->List Value
 | .int k=> [.int k 0]
 | .bool=> [.bool false]
 | .str=> [.string ⟨#[]⟩]
 | .unit=> []
 | .pair a b=>Em a++Em b
 | .sl _=> [.slice none 0 0]
 | .ptr _=> [.pointer none]
 | .mp _ _ _ _=> [.map none]
def nY:∀ {t:Ty} {vs r:List Value},zc t vs=some r->vs=Em t++r
 | .int k,vs,r,h=>by
  simp only[zc]at h;split at h
  . rename_i c n d;cases a:decide (k=c)<;>simp[a]at h;cases b:decide (n=0)<;>simp at b a<;>simp[b]at h;subst b a h;rfl
  cases h
 | .bool,vs,r,h=>by
  simp only[zc]at h;split at h
  . rename_i b a;cases b<;>simp at h;subst h;rfl
  cases h
 | .str,vs,r,h=>by
  simp only[zc]at h;split at h
  . rename_i s b;cases a:s.data.isEmpty<;>simp[a]at h;subst h;have:s=⟨#[]⟩:=by cases s;simp at a;simp[a]
    rw[this];rfl
  cases h
 | .unit,vs,r,h=>by simp[zc]at h;subst h;rfl
 | .pair b c,vs,r,h=>by
  simp only[zc]at h;cases a:zc b vs with
  |none=>simp[a]at h
  |some d=>
   simp[a]at h;rw[nY a,nY h];simp[Em]
 | .sl t,vs,r,h=>by
  simp only[zc]at h;split at h
  . cases h;rfl
  cases h
 | .ptr t,vs,r,h=>by
  simp only[zc]at h;split at h
  . cases h;rfl
  cases h
 | .mp _ _ _ _,vs,r,h=>by
  simp only[zc]at h;split at h
  . cases h;rfl
  cases h
def isB (P:Program) (T:TypeId):Bool:=match P.underlying T with|some .bool=>true| _=>false
def A5d (P:Program) (T:TypeId) (f sz:Nat) (agg:Bool):Bool:=
 match P.underlying T with
 |some (.struct a)=>(match a[f]? with|some x=>bif agg then dV P x.type sz else(Ei P x.type&&Nat.beq sz 1) |none=>false)
 | _=>false
def AN (P:Program) (T:TypeId):Nat->List (Nat×Nat×Bool)->Bool
 | _,[]=>true
 |f,(b,sz,a)::r=>QP P T f b&&A5d P T f sz a&&AN P T (f+1) r
def Rt (P:Program) (T:TypeId) (t:Ty):Bool:=match Fp P T with|some z=>(match zc t z.cells.toList with|some []=>true| _=>false) |none=>false
def OV (P:Program) (T:TypeId) (a:Bool):Bool:=match Fp P T with|some (.agg _)=>a|some (.tuple _)=>false|some _=> !a|none=>false
def Wu (P:Program) (T:TypeId) (ti:TI):Bool:=
 Tu P T ti.ty.size&&(bif ti.agg then dV P T ti.ty.size else(Ei P T&&Nat.beq ti.ty.size 1))&&Rt P T ti.ty&&
 (match ti.ty with
  | .bool=>isB P T
  | .str=>(match P.underlying T with|some .string=>true| _=>false)
  | .sl t=>Hu P T ti.elem t.size&&Rt P ti.elem t&&(match P.info? ti.elem with|some i=>Nat.beq i.bytes ti.bytes|none=>false)
  | .int k=>(match P.underlying T with|some (.int k')=>decide (k=k') | _=>false)
  | .mp a b c d=>(match P.underlying T with|some (.map k e)=>Nat.beq k ti.key&&Nat.beq e ti.elem| _=>false)&&FZ P ti.key a b&&Rt P ti.elem d&&OV P ti.elem c
  | _=>true)&&
 (bif ti.fields.isEmpty then true else(AN P T 0 ti.fields&&(match EX P T with|some pl=>decide (pl=ti.fields.map λx=>(x.1,x.2.1)) |none=>false)))&&
 (bif Nat.beq ti.arr 0 then true else(match P.underlying T with|some (.array n e)=>Nat.beq n ti.arr&&Nat.beq e ti.elem| _=>false))&&
 (bif ti.eq then FZ P T ti.agg ti.ty else true)
def Qq:Value->C
 | .int k n=>bif decide (k.min<=n)&&decide (n<=k.max)then .val (.int k) n else .raw (.int k n)
 | .bool b=> .val .bool b
 | .string s=> .val .str s
 |v=>bif v.oneCell' then .raw v else .dead
def lA:Value->SV
 | .agg a=>⟨true,a.toList.map Qq⟩
 |v=>⟨false,[Qq v]⟩
def EJ {w:World} {Z:Nat->Prop} {B:Nat->Value} {n:Nat} (v:Value):RC w Z B (Qq v) v/\Cu n (Qq v):=by
 cases v with
 |int k m=>
  simp only[Qq];cases h:decide (k.min<=m)&&decide (m<=k.max)with
  |true=>simp at h;simp only[qW];exact⟨⟨rfl,h⟩,trivial⟩
  |false=>simp only[rJ];exact⟨⟨rfl,rfl⟩,trivial⟩
 | _=>exact⟨by first|rfl|exact⟨rfl,rfl⟩ |trivial,by first|trivial|rfl⟩
def Da {w:World} {Z:Nat->Prop} {B:Nat->Value} {n:Nat} :∀vs:List Value,Cz w Z B (vs.map Qq) vs/\∀c∈vs.map Qq,Cu n c
 | []=>⟨rfl,by simp⟩
 |v::vs=>⟨⟨v,vs,rfl,(EJ (n:=n) v).1,(Da (n:=n) vs).1⟩,λc a=>by
  simp only[rT,qV]at a;rcases a with rfl|a
  . exact(EJ (w:=w) (Z:=Z) (B:=B) v).2
  exact(Da (w:=w) (Z:=Z) (B:=B) vs).2 c a⟩
def A4w {w:World} {Z:Nat->Prop} {B:Nat->Value} {n:Nat} (v:Value):RS w Z B (lA v) v/\Na n (lA v):=by
 have b:∀v,RS w Z B ⟨false,[Qq v]⟩ v/\Na n ⟨false,[Qq v]⟩:=λv=>⟨⟨v,[],rfl,(EJ (n:=n) v).1,rfl⟩,λc hc=>by simp at hc;rw[hc];exact(EJ (w:=w) (Z:=Z) (B:=B) v).2⟩
 cases v with
 |agg a=>exact⟨⟨a.toList,by simp,(Da (n:=n) a.toList).1⟩,(Da (w:=w) (Z:=Z) (B:=B) a.toList).2⟩
 | _=>exact b _
abbrev Jj:=List (Tmp×Bool)
def A0v (t:Tmp) (b:Bool):Jj->Bool
 | []=>false
 | (c,a)::r=>(Nat.beq c t&&(b==a)) ||A0v t b r
def St.ev (a:St) (ctx:Jj):Operand->Option SV
 | .tmp t=>match a.S t with
  | .one v=>some v
  | .cnd a b v=>bif A0v a b ctx then some v else none
  | _=>none
 | .const v=>some (lA v)
 | .func f=>some ⟨false,[.fn f []]⟩
 | .global _=>none
def gctx (a:St):Nat->Tmp->Bool->Jj
 |0,t,b=> [(t,b)]
 |n+1,t,b=>(t,b)::match a.S t with
  | .cnd c b _=>gctx a n c b
  | _=> []
def SX:SV->Option Bool
 | ⟨false,[.val .bool e]⟩=>some e
 | _=>none
def gval (a:St) (t:Tmp):Option Bool:=match a.S t with
 | .one v=>SX v
 | .cnd _ _ v=>SX v
 | _=>none
def ctxP (a:St):Jj->Prop
 | []=>True
 | (t,b)::r=>match gval a t with
  |some e=>match r with
   | []=>e=b
   |r=>e=b/\ctxP a r
  |none=>ctxP a r
def PX {a:St} {t:Tmp} {b e:Bool} {r:Jj} (c:gval a t=some e):ctxP a ((t,b)::r)↔e=b/\ctxP a r:=by
 simp only[ctxP,c];cases r with
 |nil=>simp[ctxP]
 |cons _ _=>rfl
def R1 (E:H5) (ctx:Jj):Prop:=∀t b,(t,b)∈ctx->E t= .bool b
def gV {t:Tmp} {b:Bool} :∀ {ctx:Jj},A0v t b ctx=true->(t,b)∈ctx
 | (f,d)::r,h=>by
  simp only[A0v,uD,qC]at h;rcases h with⟨c,a⟩ |h
  . have:=qD c;simp at a;subst this a;simp
  simp[gV h]
def HK (b:Bool):undef≠ .bool b:=by simp[undef]
section
variable {za:Zn} {w0 w:World} {Z:Nat->Prop} {B:Nat->Value} {st:St} {E:H5}
def C3.ev (h:C3 za w0 st E w Z B) {ctx:Jj} (c:R1 E ctx) {x:Operand} {v:SV} (a:st.ev ctx x=some v):RS w Z B v (Gw.ev E x)/\Na st.nx v:=by
 cases x with
 |tmp t=>
  have b:=h.slots t;have f:=h.refs t;simp only[St.ev]at a;cases d:st.S t with
  |one u=>rw[d]at b f a;cases a;exact⟨b,f⟩
  |tup _=>rw[d]at a;cases a
  |dead=>rw[d]at a;cases a
  |cnd j i u=>
   rw[d]at b f a;cases g:A0v j i ctx with
   |false=>simp[g]at a
   |true=>
    simp[g]at a;subst a;rcases b with⟨_,b⟩ | ⟨b,_⟩
    . exact⟨b,f⟩
    exact absurd (c j i (gV g)) b
 |const u=>cases a;exact A4w u
 |func f=>cases a;exact⟨⟨_,[],rfl,by show _= _;rfl,rfl⟩,λd c=>by simp at c;subst c;exact λk b=>by cases b⟩
 |global g=>cases a
def C3.gctx (h:C3 za w0 st E w Z B):∀ {n:Nat} {t:Tmp} {b:Bool},E t= .bool b->R1 E (gctx st n t b)
 |0,t,b,c=>λf d a=>by simp[Vc.gctx]at a;rw[a.1,a.2];exact c
 |n+1,t,b,f=>λj i a=>by
  unfold Vc.gctx at a;rcases qV.1 a with a|a
  . cases a;exact f
  have g:=h.slots t;cases d:st.S t with
  |cnd l k u=>
   rw[d]at g a;rcases g with⟨c,_⟩ | ⟨_,c⟩
   . exact h.gctx c j i a
   rw[f]at c;exact absurd c.symm (HK b)
  |one _=>rw[d]at a;cases a
  |tup _=>rw[d]at a;cases a
  |dead=>rw[d]at a;cases a
def Sa {v:SV} {e:Bool} {u:Value} (h:RS w Z B v u) (a:SX v=some e):u= .bool e:=by
 unfold SX at a;split at a
 . cases a;obtain⟨_,_,b,c,_⟩:=h;cases b;simpa[RC,C9]using c
 cases a
def C3.gval (h:C3 za w0 st E w Z B) {t:Tmp} {b e:Bool} (f:E t= .bool b) (a:gval st t=some e):e=b:=by
 have c:=h.slots t;unfold Vc.gval at a;cases d:st.S t with
 |one u=>rw[d]at c a;have:=Sa c a;rw[f]at this;cases this;rfl
 |tup _=>rw[d]at a;cases a
 |dead=>rw[d]at a;cases a
 |cnd i g u=>
  rw[d]at c a;rcases c with⟨_,c⟩ | ⟨_,c⟩
  . have:=Sa c a;rw[f]at this;cases this;rfl
  rw[f]at c;exact absurd c.symm (HK b)
def C3.ctxP (h:C3 za w0 st E w Z B):∀ {ctx:Jj},R1 E ctx->ctxP st ctx
 | [],_=>trivial
 | (t,b)::r,c=>by
  have d:=h.ctxP (ctx:=r) λt b hm=>c t b (qJ _ hm)
  cases a:Vc.gval st t with
  |none=>simp only[Vc.ctxP,a];exact d
  |some e=>exact(PX a).2 ⟨h.gval (c t b (by simp)) a,d⟩
end
def explode:(t:Ty)->t.den->List C
 | .pair a b,x=>explode a x.1++explode b x.2
 | .unit,_=> []
 | .int k,x=> [.val (.int k) x]
 | .bool,x=> [.val .bool x]
 | .str,x=> [.val .str x]
 | .sl t,x=> [.val (.sl t) x]
 | .ptr t,x=> [.pf t x 0]
 | .mp a b c d,x=> [.val (.mp a b c d) x]
def XS (t:Ty):C->Option t.den
 | .val a x=>if h:a=t then some (h▸x)else none
 | .raw (.slice none 0 0)=>match t with
  | .sl _=>some []
  | _=>none
 | .raw (.map none)=>match t with
  | .mp _ _ _ _=>some []
  | _=>none
 | .pf a x 0=>if h:Ty.ptr a=t then some (h▸(show(Ty.ptr a).den from x))else none
 | _=>none
def Mv:(t:Ty)->List C->Option (t.den×List C)
 | .pair a b,c=>(Mv a c).bind λx=>(Mv b x.2).map λy=>((x.1,y.1),y.2)
 | .unit,a=>some ((),a)
 | .int k,c::r=>(XS (.int k) c).map λx=>(x,r)
 | .bool,c::r=>(XS .bool c).map λx=>(x,r)
 | .str,c::r=>(XS .str c).map λx=>(x,r)
 | .sl t,c::r=>(XS (.sl t) c).map λx=>(x,r)
 | .ptr t,c::r=>(XS (.ptr t) c).map λx=>(x,r)
 | .mp a b d f,c::r=>(XS (.mp a b d f) c).map λx=>(x,r)
 | _,_=>none
def Sv (agg:Bool) (t:Ty) (s:SV):Option t.den:=
 bif s.agg==agg then(match Mv t s.cs with|some (x,[])=>some x| _=>none)else none
section
variable {w:World} {Z:Nat->Prop} {B:Nat->Value} {n:Nat}
def Cz.append:∀ {cs cs':List C} {vs a:List Value},Cz w Z B cs vs->Cz w Z B cs' a->Cz w Z B (cs++cs') (vs++a)
 | [],_,_,_,h,b=>by rw[show _= _ from h];exact b
 | _:: _,_,_,a,⟨v,f,e,c,d⟩,b=>⟨v,f++a,by rw[e];rfl,c,Cz.append d b⟩
def O7:∀ {t:Ty} {cs:List Value} {x:t.den},C9 t w Z cs x->Cz w Z B (explode t x) cs
 | .int k,_,_,h=>⟨_,[],h.1,⟨rfl,h.2⟩,rfl⟩
 | .bool,_,_,h=>⟨_,[],h,rfl,rfl⟩
 | .str,_,_,h=>⟨_,[],h,rfl,rfl⟩
 | .unit,_,_,h=>h
 | .pair c d,_,_,⟨c1,f,e,a,b⟩=>by rw[e];exact(O7 a).append (O7 b)
 | .sl t,_,_,h=>by
  obtain⟨a,b,e,r⟩:=h;exact⟨_,[],e,⟨a,b,rfl,r⟩,rfl⟩
 | .ptr t,_,_,h=>by
  obtain⟨b,o,a,e,r⟩:=h;exact⟨_,[],e,⟨b,o,a,rfl,r⟩,rfl⟩
 | .mp d f g i,_,_,h=>by
  rcases h with⟨e,h⟩ | ⟨b,c,a,e,h⟩
  . exact⟨_,[],e, .inl ⟨rfl,h⟩,rfl⟩
  exact⟨_,[],e, .inr ⟨b,c,a,rfl,h⟩,rfl⟩
def F4:∀ {t:Ty} {x:t.den},∀c∈explode t x,Cu n c
 | .int k,_,c,h=>by simp[explode]at h;subst h;trivial
 | .bool,_,c,h=>by simp[explode]at h;subst h;trivial
 | .str,_,c,h=>by simp[explode]at h;subst h;trivial
 | .unit,_,c,h=>by simp[explode]at h
 | .pair a b,x,c,h=>by
  simp only[explode,qZ]at h;rcases h with h|h
  . exact F4 c h
  exact F4 c h
 | .sl t,_,c,h=>by simp[explode]at h;subst h;trivial
 | .ptr t,_,c,h=>by simp[explode]at h;subst h;trivial
 | .mp _ _ _ _,_,c,h=>by simp[explode]at h;subst h;trivial
def kO {t:Ty} {c:C} {x:t.den} {v:Value} (h:RC w Z B c v) (a:XS t c=some x):C9 t w Z [v] x:=by
 unfold XS at a;split at a
 . rename_i j k;split at a
   . rename_i e;subst e;cases a;exact h
   cases a
 . split at a
   . cases a;rw[show v= _ from h.1];exact⟨none,0,rfl,qT _,rQ _,λ_=>rfl, .inl rfl⟩
   cases a
 . split at a
   . cases a;rw[show v= _ from h.1];exact .inl ⟨rfl,rfl⟩
   cases a
 . rename_i j k;split at a
   . rename_i e;subst e;cases a;obtain⟨b,o,d,e,f,g,i⟩:=h;exact⟨b,o,d,by rw[e];rfl,f,g,i⟩
   cases a
 cases a
def C2g:∀ {t:Ty} {cs r:List C} {vs:List Value} {x:t.den},Cz w Z B cs vs->Mv t cs=some (x,r)->∃v1 v2,vs=v1++v2/\C9 t w Z v1 x/\Cz w Z B r v2:=by
 have one:∀(t:Ty) {cs r:List C} {vs:List Value} {x:t.den} (c:C),Cz w Z B (c::cs) vs->(XS t c).map (λx=>(x,cs))=some (x,r)->∃v1 v2,vs=v1++v2/\C9 t w Z v1 x/\Cz w Z B r v2:=by
  intro t cs r vs x c h b;obtain⟨v,g,e,d,f⟩:=h;cases a:XS t c with
  |none=>simp[a]at b
  |some y=>
   simp[a]at b;obtain⟨rfl,rfl⟩:=b;exact⟨[v],g,e,kO d a,f⟩
 intro t
 induction t with
 |pair g h k l=>
  intro cs r vs x j a;simp only[Mv]at a;cases b:Mv g cs with
  |none=>simp[b]at a
  |some y=>
   simp only[b,wG]at a;cases d:Mv h y.2 with
   |none=>simp[d]at a
   |some z=>
    simp[d]at a;obtain⟨rfl,rfl⟩:=a;obtain⟨v1,v2,e,n,o⟩:=k j (by rw[b]);obtain⟨f,v,i,s,u⟩:=l o (by rw[d]);exact⟨v1++f,v,by rw[e,i];simp,⟨v1,f,rfl,n,s⟩,u⟩
 |unit=>intro cs r vs x h a;simp[Mv]at a;subst a;exact⟨[],vs,rfl,rfl,h⟩
 |int k=>intro cs r vs x h a;cases cs with
  |nil=>simp[Mv]at a
  |cons c cs=>exact one _ c h a
 |bool=>intro cs r vs x h a;cases cs with
  |nil=>simp[Mv]at a
  |cons c cs=>exact one _ c h a
 |str=>intro cs r vs x h a;cases cs with
  |nil=>simp[Mv]at a
  |cons c cs=>exact one _ c h a
 |sl t _=>intro cs r vs x h a;cases cs with
  |nil=>simp[Mv]at a
  |cons c cs=>exact one _ c h a
 |ptr t _=>intro cs r vs x h a;cases cs with
  |nil=>simp[Mv]at a
  |cons c cs=>exact one _ c h a
 |mp b d f g _ _=>intro cs r vs x h a;cases cs with
  |nil=>simp[Mv]at a
  |cons c cs=>exact one _ c h a
def Hj {t:Ty} {cs:List C} {vs:List Value} {x:t.den} (h:Cz w Z B cs vs) (c:Mv t cs=some (x,[])):C9 t w Z vs x:=by
 obtain⟨f,d,e,a,b⟩:=C2g h c;rw[show d= []from b,wB]at e;rw[e];exact a
def Et {a:Bool} {t:Ty} {s:SV} {v:Value} {x:t.den} (h:RS w Z B s v) (b:Sv a t s=some x):Bi a t w Z v x:=by
 obtain⟨d,g⟩:=s;unfold Sv at b;cases c:(d==a)with
 |false=>simp[c]at b
 |true=>
  simp only[c,qW]at b;have:d=a:=by simpa using c
  subst this;split at b
  . rename_i y f;cases b;cases d with
    |true=>obtain⟨vs,e,h⟩:=h;exact⟨vs,e,Hj h f⟩
    |false=>exact Hj (vs:= [v]) h f
  cases b
def Bi.explode {a:Bool} {t:Ty} {v:Value} {x:t.den} (h:Bi a t w Z v x):RS w Z B ⟨a,explode t x⟩ v:=by
 cases a with
 |true=>obtain⟨cs,e,h⟩:=h;exact⟨cs,e,O7 h⟩
 |false=>exact O7 (cs:= [v]) h
def Cz.len:∀ {cs:List C} {vs:List Value},Cz w Z B cs vs->cs.length=vs.length
 | [],_,h=>by rw[show _= _ from h];rfl
 | _:: _,_,⟨v,b,e,_,a⟩=>by rw[e,rH,rH,Cz.len a]
def Cz.drop:∀ {cs:List C} {vs:List Value} (i:Nat),Cz w Z B cs vs->Cz w Z B (cs.drop i) (vs.drop i)
 |cs,vs,0,h=>h
 | [],_,i+1,h=>by rw[show _= _ from h];simp;rfl
 | _:: _,_,i+1,⟨v,b,e,_,a⟩=>by rw[e];simp only[List.drop_succ_cons];exact Cz.drop i a
def Cz.take:∀ {cs:List C} {vs:List Value} (i:Nat),Cz w Z B cs vs->Cz w Z B (cs.take i) (vs.take i)
 |cs,vs,0,h=>by simp;rfl
 | [],_,i+1,h=>by rw[show _= _ from h];simp;rfl
 | _:: _,_,i+1,⟨v,c,e,a,b⟩=>by rw[e];simp only[List.take_succ_cons];exact⟨v,_,rfl,a,Cz.take i b⟩
end
def A5n (op:BinOp) (k:IntKind) (a b:Int):Option (Option Prop×C):=
 match op with
 | .add=>some (none, .val (.int k) (k.wrap (a+b)))
 | .sub=>some (none, .val (.int k) (k.wrap (a-b)))
 | .mul=>some (none, .val (.int k) (k.wrap (a*b)))
 | .quo=>some (some (b≠0), .val (.int k) (k.wrap (a.tdiv b)))
 | .rem=>some (some (b≠0), .val (.int k) (a.tmod b))
 | .and=>some (none, .val (.int k) (k.wrap (BitVec.ofInt k.bits a&&&BitVec.ofInt k.bits b).toNat))
 | .or=>some (none, .val (.int k) (k.wrap (BitVec.ofInt k.bits a|||BitVec.ofInt k.bits b).toNat))
 | .xor=>some (none, .val (.int k) (k.wrap (BitVec.ofInt k.bits a^^^BitVec.ofInt k.bits b).toNat))
 | .eql=>some (none, .val .bool (decide (a=b)))
 | .neq=>some (none, .val .bool (decide (a≠b)))
 | .lss=>some (none, .val .bool (decide (a<b)))
 | .leq=>some (none, .val .bool (decide (a<=b)))
 | .gtr=>some (none, .val .bool (decide (b<a)))
 | .geq=>some (none, .val .bool (decide (b<=a)))
 | _=>none
def C7m (op:BinOp) (a b:ByteArray):Option (Option Prop×C):=match op with
 | .eql=>some (none, .val .bool (decide (a=b)))
 | .neq=>some (none, .val .bool (decide (a≠b)))
 | .add=>some (some (a.data.toList.length+b.data.toList.length<=9223372036854775807), .val .str (a++b))
 | _=>none
def C5c (op:BinOp):C->C->Option (Option Prop×C)
 | .val (.int k) a, .val (.int c) b=>
  match op with
  | .shl=>some (some (0<=b), .val (.int k) (k.wrap (a*2^(min b.toNat k.bits))))
  | .shr=>some (some (0<=b), .val (.int k) (a.fdiv (2^(min b.toNat k.bits))))
  |op=>bif decide (k=c)then A5n op k a b else none
 | .val .bool a, .val .bool b=>
  match op with
  | .eql=>some (none, .val .bool (a==b))
  | .neq=>some (none, .val .bool (a !=b))
  | _=>none
 | .val .str a, .val .str b=>C7m op a b
 | _,_=>none
section
variable {za:Zn} {w0 w:World} {Z:Nat->Prop} {B:Nat->Value} {P:Program} {E:H5}
def D1i {ty:TypeId} {T T':TypeId} {x y:Operand} {a b:Bool} (g:Gw.ev E x= .bool a) (h:Gw.ev E y= .bool b) (d:P.underlying T=some .bool):Gw.E4 P E ty (.binOp .eql T x y T') w (.bool (a==b)) w:=λ_ _ _ _=>by
 have c:=run_equalIn_bool' (P:=P) w 9999 T a b d;have f:(eqGuard .eql T x y (.bool a) (.bool b)).run P w= .ok () w:=rfl;have d:(binOp .eql T (.bool a) (.bool b)).run P w= .ok (.bool (a==b)) w:=by
  show((Op.equal T (.bool a) (.bool b))>>=λr=>pure (Value.bool r)).run P w= _;unfold Op.equal Op.maxDepth;rw[Sem.run_bind,c];rfl
 simp only[execOp,g,h];simp[f,d]
def B6o {T:TypeId} (h:isB P T=true):P.underlying T=some .bool:=by
 unfold isB at h;split at h
 . assumption
 cases h
def B1j {op:BinOp} {k:IntKind} {a b:Int} {φ:Option Prop} {c:C} (h:A5n op k a b=some (φ,c)) (d:HC φ) (f:GZ k a):∃v,(∀(w':World) (T:TypeId),(binOp op T (.int k a) (.int k b)).run P w'= .ok v w')/\RC w Z B c v/\∀n,Cu n c:=by
 cases op<;>simp only[A5n,rF,g0p,reduceCtorEq]at h<;>(try exact h.elim)<;>obtain⟨rfl,rfl⟩:=h
 case rem=>exact⟨_,λw' T=>by simp[binOp,Op.intDiv,show b≠0 from d,go_sem],⟨rfl,B9g f⟩,λ_=>trivial⟩
 case quo=>exact⟨_,λw' T=>by simp[binOp,Op.intDiv,show b≠0 from d,go_sem],⟨rfl,Oq _ _⟩,λ_=>trivial⟩
 case add|sub|mul=>exact⟨_,λw' T=>by simp[binOp,Op.intArith,go_sem],⟨rfl,Oq _ _⟩,λ_=>trivial⟩
 case and|or|xor=>exact⟨_,λw' T=>by simp[binOp,Op.intBits,go_sem],⟨rfl,Oq _ _⟩,λ_=>trivial⟩
 all_goals exact⟨.bool _,λw' T=>by simp[binOp,Op.intCmp,go_sem];try rfl,rfl,λ_=>trivial⟩
def A7m {op:BinOp} {ty:TypeId} {T T':TypeId} {x y:Operand} {a b:ByteArray} {v:Value} (g:Gw.ev E x= .string a) (h:Gw.ev E y= .string b) (f:(Op.stringOp op a b).run P w= .ok v w):Gw.E4 P E ty (.binOp op T x y T') w v w:=λ_ _ _ _=>by
 have d:(eqGuard op T x y (.string a) (.string b)).run P w= .ok () w:=by cases op<;>rfl
 have c:(binOp op T (.string a) (.string b)).run P w= .ok v w:=by cases op<;>exact f
 simp only[execOp,g,h];simp[go_sem,d,c]
def A9w (a b:ByteArray):(a.toList==b.toList)=decide (a=b):=by
 rw[ByteArray.toList_eq,ByteArray.toList_eq];by_cases h:a=b
 . subst h;simp
 rw[qX h];exact vE.2 λe=>h (ByteArray.ext (zA.1 e))
def C3f {op:BinOp} {a b:ByteArray} {x y:Operand} {c:C} {φ:Option Prop} {T T' ty:TypeId} (h:C7m op a b=some (φ,c)) (i:HC φ) (d:Gw.ev E x= .string a) (f:Gw.ev E y= .string b):∃v,(∀w',Gw.E4 P E ty (.binOp op T x y T') w' v w')/\RC w Z B c v/\∀n,Cu n c:=by
 unfold C7m at h;split at h
 . cases h;exact⟨_,λw'=>A7m d f (v:= .bool (a.toList==b.toList)) rfl,by rw[A9w];rfl,λ_=>trivial⟩
 . cases h;exact⟨_,λw'=>A7m d f (v:= .bool (!(a.toList==b.toList))) rfl,by rw[A9w,decide_not];rfl,λ_=>trivial⟩
 . cases h;have g:¬((a.size+b.size:Nat):Int)>i64.max:=by
    have j:a.data.toList.length+b.data.toList.length<=9223372036854775807:=i;have k:i64.max=9223372036854775807:=δ
    have l:a.size=a.data.toList.length:=by rw[sE];rfl
    have o:b.size=b.data.toList.length:=by rw[sE];rfl
    omega
   exact⟨.string (a++b),λw'=>A7m d f (by unfold Op.stringOp;simp only[g,yF];rfl),rfl,λ_=>trivial⟩
 cases h
def C0h {op:BinOp} {x y:Operand} {cx r c:C} {φ:Option Prop} {T T' ty:TypeId} (h:C5c op cx r=some (φ,c)) (i:HC φ) (a:RC w Z B cx (Gw.ev E x)) (b:RC w Z B r (Gw.ev E y)) (g:isB P T=true\/∀e,cx≠ .val .bool e):
 ∃v,(∀w',Gw.E4 P E ty (.binOp op T x y T') w' v w')/\RC w Z B c v/\∀n,Cu n c:=by
 unfold C5c at h;split at h
 . rename_i k f A d;obtain⟨a,s⟩:=a;obtain⟨b,D⟩:=b;simp only[sN,vR]at a b;split at h
   . cases h;have j:¬d<0:=Int.not_lt.2 i;have o:∀w',Gw.E4 P E ty (.binOp .shl T x y T') w' (.int k (k.wrap (f*2^(min d.toNat k.bits)))) w':=λw'=>B9p a b (by simp[binOp,Op.shift,j,go_sem])
     exact⟨_,o,⟨rfl,Oq _ _⟩,λ_=>trivial⟩
   . cases h;have j:¬d<0:=Int.not_lt.2 i;have o:∀w',Gw.E4 P E ty (.binOp .shr T x y T') w' (.int k (f.fdiv (2^(min d.toNat k.bits)))) w':=λw'=>B9p a b (by simp[binOp,Op.shift,j,go_sem])
     exact⟨_,o,⟨rfl,B5p _ s⟩,λ_=>trivial⟩
   cases l:decide (k=A)with
   |false=>simp[l]at h
   |true=>
    simp only[l,qW]at h;have:=qA l;subst this;obtain⟨v,u,z⟩:=B1j (P:=P) (w:=w) (Z:=Z) (B:=B) h i s;exact⟨v,λw'=>B9p a b (u w' T),z⟩
 . rename_i f d;have a:Gw.ev E x= .bool f:=by simpa[RC,C9]using a
   have b:Gw.ev E y= .bool d:=by simpa[RC,C9]using b
   have t:P.underlying T=some .bool:=by
    rcases g with g|g
    . exact B6o g
    exact absurd rfl (g f)
   split at h
   . cases h;exact⟨_,λw'=>D1i a b t,rfl,λ_=>trivial⟩
   . cases h;exact⟨_,λw'=>D1l a b t,rfl,λ_=>trivial⟩
   cases h
 . exact C3f h i (by simpa[RC,C9]using a) (by simpa[RC,C9]using b)
 cases h
end
structure Cx where
 P:Program
 tys:List (Nat×TI)
def Bl {α:Type} (s:Nat):List (Nat×α)->Option α
 | []=>none
 | (t,x)::l=>bif Nat.beq t s then some x else Bl s l
def Cx.ti (cx:Cx) (T:TypeId):Option TI:=Bl T cx.tys
def H4 (P:Program):List (Nat×TI)->Bool
 | []=>true
 | (T,ti)::l=>Wu P T ti&&H4 P l
def C1 {P:Program} :∀ {l:List (Nat×TI)},H4 P l=true->∀ {T:TypeId} {ti:TI},Bl T l=some ti->Wu P T ti=true
 | (T',c)::l,h,T,ti,a=>by
  simp only[H4,qC]at h;simp only[Bl]at a;cases b:Nat.beq T' T with
  |true=>simp[b]at a;have:=qD b;subst a this;exact h.1
  |false=>simp[b]at a;exact C1 h.2 a
def c1:SV->Option C
 | ⟨false,[c]⟩=>some c
 | _=>none
def faC (off:Nat):C->Option C
 | .box k o=>some (.box k (o+off))
 | .elp k sz i o=>some (.elp k sz i (o+off))
 | .pf t x o=>some (.pf t x (o+off))
 | _=>none
def cut (off n:Nat) (cs:List C):Option (List C):=(λs=>bif Nat.beq s.length n then some s else none) ((cs.drop off).take n)
def HB (q:Nat):List (Nat×Nat)->Option Nat
 | []=>none
 | (i,p)::r=>bif Nat.beq p q then some i else HB q r
def C2p (a:St) (k:Nat):Option ((t:Ty)×List t.den):=match a.L k with
 | .row t _ l=>some ⟨t,l⟩
 | .al j=>match a.L j with
  | .rows t _ _ a al none=>(HB k al).map λi=>⟨t,a.getD i []⟩
  | _=>none
 | _=>none
def hdC (a:St) (k:Nat):Option ((t:Ty)×List t.den):=match a.L k with
 | .rows t _ _ b _ _=>some ⟨.sl t,b⟩
 | .nest t _ _ b _ _=>bif Nat.beq t.size 1 then some ⟨t,b⟩else none
 | _=>C2p a k
def A8t (b:St) (n:Nat):C->Option (List C)
 | .box k a=>match b.L k with
  | .box _ c=>cut a n c
  | .sbox q t x=>bif Nat.beq q k then cut a n (explode t x)else none
  | _=>none
 | .pf t x a=>cut a n (explode t x)
 | .elp k sz i a=>match C2p b k with
  |some ⟨t,l⟩=>bif Nat.beq sz t.size then cut a n (explode t (l.getD i t.dflt))else none
  |none=>none
 | _=>none
def gx {α:Type} (d:α) (l:List α) (i:Int):α:=l.getD i.toNat d
def C6d (a:St) (i:Int):C->Option (Option Prop×C)
 | .val (.sl t) l=>some (some (0<=i/\i<(l.length:Int)), .pf t (gx t.dflt l i) 0)
 | .row k=>match hdC a k with
  |some ⟨t,l⟩=>some (some (0<=i/\i<(l.length:Int)), .elp k t.size i.toNat 0)
  |none=>none
 | .win k sz a b=>some (some (0<=i/\i<b-a), .elp k sz (a+i).toNat 0)
 | _=>none
def C1o (a:St):C->Option Int
 | .val (.sl _) l=>some (l.length:Int)
 | .row k=>match hdC a k with
  |some ⟨_,l⟩=>some (l.length:Int)
  |none=>none
 | .mp k=>match a.L k with
  | .map _ _ _ _ a=>some (a.length:Int)
  | _=>none
 | .raw (.slice none 0 0)=>some 0
 | .win _ _ b a=>some (a-b)
 | .val .str s=>some (s.data.toList.length:Int)
 | _=>none
def YV:SV->Option Int
 | ⟨false,[.val (.int _) n]⟩=>some n
 | _=>none
def A6v (b:St) (lo a:Option Int):C->Option (Option Prop×C)
 | .val (.sl t) l=>some (some (0<=lo.getD 0/\lo.getD 0<=a.getD (l.length:Int)/\a.getD (l.length:Int)<=(l.length:Int)), .val (.sl t) ((l.take (a.getD (l.length:Int)).toNat).drop (lo.getD 0).toNat))
 | .row k=>match b.L k with
  | .row t _ l=>some (some (0<=lo.getD 0/\lo.getD 0<=a.getD (l.length:Int)/\a.getD (l.length:Int)<=(l.length:Int)), .win k t.size (lo.getD 0) (a.getD (l.length:Int)))
  | _=>none
 | _=>none
def A5u:Op->Bool
 | .load _ _=>true
 | .lookup _ _ _ _=>true
 | _=>false
section
variable {za:Zn} {w0 w:World} {Z:Nat->Prop} {B:Nat->Value} {st:St} {E:H5} {P:Program}
def Zq (P:Program) (st:St) (E:H5) (w:World) (Z:Nat->Prop) (B:Nat->Value) (ty:TypeId) (op:Op) (d:DV):Prop:=
 ∃v,(∀a,(A5u op=true->R7 w a)->Gw.E4 P E ty op a v a)/\(∀E',RD w Z B E' d v)/\NC st.nx d
def Hl {ty:TypeId} {op:Op} {c:C} {v:Value} (f:∀w',(A5u op=true->R7 w w')->Gw.E4 P E ty op w' v w') (b:RC w Z B c v) (d:Cu st.nx c):Zq P st E w Z B ty op (.one ⟨false,[c]⟩):=
 ⟨v,f,λ_=>⟨v,[],rfl,b,rfl⟩,λg a=>by simp at a;subst a;exact d⟩
def pF {s:SV} {c:C} {v:Value} (h:RS w Z B s v) (d:Na st.nx s) (a:c1 s=some c):RC w Z B c v/\Cu st.nx c:=by
 unfold c1 at a;split at a
 . cases a;obtain⟨_,_,e,b,_⟩:=h;cases e;exact⟨b,d _ (by simp)⟩
 cases a
def C1h {s:SV} {n:Int} {v:Value} (h:RS w Z B s v) (b:YV s=some n):∃k,v= .int k n/\GZ k n:=by
 unfold YV at b;split at b
 . cases b;obtain⟨_,_,e,a,_⟩:=h;cases e;obtain⟨a,c⟩:=a;simp only[sN,vR]at a;exact⟨_,a,c⟩
 cases b
def C8n {T ty:TypeId} {x:Operand} {c j:C} {f off:Nat} (d:QP P T f off=true) (a:RC w Z B c (Gw.ev E x)) (g:Cu st.nx c) (h:faC off c=some j):Zq P st E w Z B ty (.fieldAddr T x f) (.one ⟨false,[j]⟩):=by
 unfold faC at h;split at h<;>cases h
 . obtain⟨b,e,i⟩:=a;exact Hl (λk _=>DX i d) ⟨b,e,rfl⟩ g
 . obtain⟨b,m,l,e,r,i⟩:=a;exact Hl (λk _=>DX i d) ⟨b,m,l,e,r,by rw[uM]⟩ g
 obtain⟨b,t,n,e,s,o,a⟩:=a;exact Hl (λk _=>DX e d) ⟨b,t,n,by rw[uM],s,o,a⟩ g
def Vf {cs cs':List C} {vs:List Value} {off n:Nat} (h:Cz w Z B cs vs) (a:cut off n cs=some cs'):Cz w Z B cs' ((vs.drop off).take n)/\((vs.drop off).take n).length=n/\∀c∈cs',c∈cs:=by
 unfold cut at a;have d:=(h.drop off).take n;cases b:Nat.beq ((cs.drop off).take n).length n with
 |false=>simp only[b,rJ]at a;cases a
 |true=>
  simp only[b,qW,rF]at a;subst a;exact⟨d,by rw[<-d.len];exact qD b,λc a=>vP (rU a)⟩
def A8u {T ty:TypeId} {x:Operand} {b o:Nat} {vs:List Value} {agg:Bool} (f:Gw.ev E x= .pointer (some ⟨b,o,none⟩)) (g:J0 w ⟨b,o,none⟩ vs)
 (a:(agg=true/\dV P T vs.length=true)\/(agg=false/\Ei P T=true/\vs.length=1)):∃v,(∀w',w'.heap[b]? =w.heap[b]?->Gw.E4 P E ty (.load T x) w' v w')/\((agg=true/\v= .agg vs.toArray)\/(agg=false/\vs= [v])):=by
 have d:∀w':World,w'.heap[b]? =w.heap[b]?->J0 w' ⟨b,o,none⟩ vs:=λw' c j v hj=>by
  have:=g j v hj;rw[K5]at this|-;rw[<-this];exact World.cell?_of_block c
 rcases a with⟨rfl,a⟩ | ⟨rfl,a,h⟩
 . exact⟨.agg vs.toArray,λw' c=>A7l f a rfl (d w' c), .inl ⟨rfl,rfl⟩⟩
 match vs,h with
 | [v],_=>
  refine⟨v,λw' c=>nX f a ?_, .inr ⟨rfl,rfl⟩⟩;have:=d w' c 0 v rfl;rwa[K5]at this
def MD {T ty:TypeId} {x:Operand} {b o:Nat} {cs:List C} {vs:List Value} {agg:Bool} (k:Gw.ev E x= .pointer (some ⟨b,o,none⟩)) (g:b<w.heap.size) (h:J0 w ⟨b,o,none⟩ vs) (a:Cz w Z B cs vs) (i:∀c∈cs,Cu st.nx c)
 (j:(agg=true/\dV P T vs.length=true)\/(agg=false/\Ei P T=true/\vs.length=1)):Zq P st E w Z B ty (.load T x) (.one ⟨agg,cs⟩):=by
 obtain⟨v,d,f⟩:=A8u (ty:=ty) k h j;refine⟨v,λn l=>d n ((l rfl).block b g),?_,i⟩;rcases f with⟨rfl,rfl⟩ | ⟨rfl,rfl⟩
 . exact λ_=>⟨vs,rfl,a⟩
 exact λ_=>a
def Lx {q i:Nat} :∀ {al:List (Nat×Nat)},HB q al=some i->(i,q)∈al
 | [],h=>by cases h
 | (j,p)::r,h=>by
  simp only[HB]at h;cases a:Nat.beq p q with
  |true=>simp only[a,qW,rF]at h;have:=qD a;subst this;subst h;simp
  |false=>simp only[a,rJ]at h;exact qJ _ (Lx h)
def nG {U:Nat->Prop} {t:Ty} {k e e' i q:Nat} {ls:List (List t.den)} {al:List (Nat×Nat)} (h:RL U w Z B k (.rows t e e' ls al none)) (u:HB q al=some i):
 ∃xs b,w.ownsRow 0 e 1 (B k) ls.length xs/\AtV xs i (B q)/\w.ownsRow 0 e' t.size (B q) (ls.getD i []).length b/\G8 (C9 t w Z) b (ls.getD i []):=by
 obtain⟨xs,a,⟨n,o,v⟩,x,y⟩:=h;rcases n _ (Lx u)with d| ⟨f,c⟩
 case inr=>
  have l:=a.1;rw[qE,rW (by simp only at f;omega)];refine⟨xs,[],a, .inr ⟨f,c⟩,?_,rfl⟩;simp only at c;rw[c];exact World.ownsRow_nil _ _ _ _
 have r:i<ls.length:=by have:=(sU.1 d).1;have l:=a.1;omega
 have s:ls[i]? =some (ls.getD i []):=by rw[qE,qQ r];rfl
 obtain⟨b,g,j⟩:=o i _ _ rfl s d;exact⟨xs,b,a, .inl d,g,j⟩
def nF (h:C3 za w0 st E w Z B) {k:Nat} {t:Ty} {l:List t.den} (a:C2p st k=some ⟨t,l⟩):∃e xs,w.ownsRow 0 e t.size (B k) l.length xs/\G8 (C9 t w Z) xs l:=by
 unfold C2p at a;split at a
 . rename_i s e x c;cases a;have b:=h.locs k;rw[c]at b;obtain⟨xs,o,i,_⟩:=b;exact⟨e,xs,o,i⟩
 . rename_i r c;split at a
   . rename_i s e d y al n;simp only[qL]at a;obtain⟨v,j,a⟩:=a;cases a;have b:=h.locs r;rw[n]at b;obtain⟨_,u,_,_,f,g⟩:=nG b j;exact⟨d,u,f,g⟩
   cases a
 cases a
def B6f (h:C3 za w0 st E w Z B) {k:Nat} {t:Ty} {l:List t.den} (a:hdC st k=some ⟨t,l⟩):∃e xs,w.ownsRow 0 e t.size (B k) l.length xs:=by
 unfold hdC at a;split at a
 . rename_i g e i n al s d;cases a;have b:=h.locs k;rw[d]at b;obtain⟨xs,f,_⟩:=b;exact⟨e,xs,f⟩
 . rename_i g e i n o r d;cases c:Nat.beq g.size 1 with
   |false=>simp only[c,rJ]at a;cases a
   |true=>
    simp only[c,qW]at a;cases a;have b:=h.locs k;rw[d]at b;obtain⟨xs,j,_⟩:=b;exact⟨e,xs,by rw[qD c];exact j.own⟩
 obtain⟨e,xs,f,_⟩:=nF h a;exact⟨e,xs,f⟩
def C1s (h:C3 za w0 st E w Z B) {T ty:TypeId} {x:Operand} {c:C} {cs:List C} {n:Nat} {agg:Bool} (A:RC w Z B c (Gw.ev E x)) (a:A8t st n c=some cs)
 (z:(agg=true/\dV P T n=true)\/(agg=false/\Ei P T=true/\n=1)):Zq P st E w Z B ty (.load T x) (.one ⟨agg,cs⟩):=by
 unfold A8t at a;split at a
 . rename_i D l;split at a
   . rename_i ag ad s;have r:=h.locs D;have O:=h.refl D;rw[s]at r O;obtain⟨k,ah,e,_,_,Q,u⟩:=r;obtain⟨V,o,i⟩:=A;rw[e]at o;cases o;obtain⟨d,f,g⟩:=Vf u a;have:=M5 Q.cellsAt l n;rw[rZ]at this;exact MD i Q.lt this d (λc b=>O c (g c b)) (by rw[f];exact z)
   . rename_i q t aa s;cases G:Nat.beq q D with
     |false=>simp only[G,rJ]at a;cases a
     |true=>
      simp only[G,qW]at a;have:=qD G;subst this;have r:=h.locs q;rw[s]at r;obtain⟨_,⟨k,a8,W,y,J,b,H⟩,_⟩:=r;simp only[sN,vR]at y;obtain⟨V,o,i⟩:=A;rw[y]at o;cases o;obtain⟨d,f,g⟩:=Vf (O7 (B:=B) H) a;have u:=M5 b l n;rw[rZ]at u;exact MD i (h.zlt _ J) u d (λc b=>F4 c (g c b)) (by rw[f];exact z)
   cases a
 . rename_i t aa l;obtain⟨k,a8,W,i,J,b,H⟩:=A;obtain⟨d,f,g⟩:=Vf (O7 (B:=B) H) a;exact MD i (h.zlt k J) (M5 b l n) d (λc b=>F4 c (g c b)) (by rw[f];exact z)
 . rename_i D sz M l;split at a
   . rename_i t N s;cases I:Nat.beq sz t.size with
     |false=>simp[I]at a
     |true=>
      simp only[I,qW]at a;have a6:=qD I;subst a6;obtain⟨e,a9,y,a1⟩:=nF h s;obtain⟨k,m,ab,X,R,i⟩:=A;rw[X]at y;have a5:m=N.length:=by
       rcases y.2 with⟨F,_⟩ | ⟨_,_,_,F,_⟩<;>cases F
       rfl
      subst a5;have a4:=G8.get (λ_ _ h=>C9.length h) a1 (qQ R);have a3:N.getD M t.dflt=N[M]:=by rw[qE,qQ R];rfl
      rw[a3]at a;obtain⟨d,f,g⟩:=Vf (O7 (B:=B) a4) a;have Y:=(World.ownsRow.lt y k rfl).2;have a0:J0 w ⟨k,0,none⟩ a9:=λj v hj=>by
       rcases y.2 with⟨F,_⟩ | ⟨af,ac,ae,F,_,a2,_,_,_,a7⟩
       . cases F
       cases F;rw[K5,rZ];simp only[World.cell?,a2];rw[<-a7,wD]at hj;split at hj
       . simpa using hj
       cases hj
      have U:=M5 (M5 a0 (M*t.size) t.size) l n;rw[rZ]at U;exact MD i Y U d (λc b=>F4 c (g c b)) (by rw[f];exact z)
   cases a
 cases a
def H0 {α:Type} {d:α} {l:List α} {i:Int} (a:0<=i) (b:i<(l.length:Int)):l[i.toNat]? =some (gx d l i):=by
 have a:i.toNat<l.length:=ω
 rw[gx,qE,qQ a];rfl
def B6j (h:C3 za w0 st E w Z B) {T ty e:TypeId} {x ix:Operand} {c u:C} {i:Int} {φ:Option Prop} {a9:IntKind} (H:RC w Z B c (Gw.ev E x)) (G:Gw.ev E ix= .int a9 i) (b:C6d st i c=some (φ,u)) (J:HC φ)
 (D:∀s,(∃t y,u= .pf t y 0/\s=t.size)\/(∃k j,u= .elp k s j 0)->Hu P T e s=true) (Q:Cu st.nx c):Zq P st E w Z B ty (.indexAddr T x ix) (.one ⟨false,[u]⟩):=by
 unfold C6d at b;split at b
 . rename_i t M;cases b;obtain⟨n,l⟩:=J;have o:=D t.size (.inl ⟨t,_,rfl,rfl⟩);obtain⟨A,f,O,aj,ak,am,F⟩:=H;simp only[sN,vR]at O;have a1:=H0 (d:=t.dflt) n l;rcases F with F| ⟨N,U,ad,X,a8,Y,a0⟩
   . subst F;simp at l;omega
   subst X;have a2:=G8.get (λ_ _ h=>C9.length h) a0 a1;refine Hl (v:= .pointer (some ⟨N,U+i.toNat*t.size+0,none⟩)) (λr _=>?_) ⟨N,U+i.toNat*t.size,_,rfl,a8,M5 Y _ t.size,a2⟩ trivial;have:=B9q (P:=P) (w:=r) (ty:=ty) (sz:=t.size) O G o n l;rwa[K5]at this
 . rename_i k;split at b
   . rename_i t M a4;cases b;obtain⟨n,l⟩:=J;have o:=D t.size (.inr ⟨_,_,rfl⟩);obtain⟨ac,an,a7⟩:=B6f h a4;rcases a7.2 with⟨_,a5⟩ | ⟨g,f,ab,z,_⟩
     . rw[a5]at l;omega
     have I:Gw.ev E x= .slice (some ⟨g,0,none⟩) M.length f:=(show Gw.ev E x=B k from H).trans z;refine Hl (v:= .pointer (some ⟨g,i.toNat*t.size+0,none⟩)) (λr _=>?_) ⟨g,M.length,f,z,ω,rfl⟩ Q;have:=B9q (P:=P) (w:=r) (ty:=ty) (sz:=t.size) I G o n l;rwa[K5,rZ]at this
   cases b
 . rename_i k sz a a3;cases b;obtain⟨n,l⟩:=J;have o:=D sz (.inr ⟨_,_,rfl⟩);obtain⟨A,aa,f,z,V,W,ae,af,ag,ah,ai,R⟩:=H;have a6:¬f=a.toNat:=ω
   rw[qG a6]at R;obtain⟨g,rfl⟩:∃g,A=some ⟨g,0,none⟩:=by
    cases A with
    |none=>have:=W rfl;omega
    |some x=>obtain⟨g,rfl⟩:=V x rfl;exact⟨g,rfl⟩
   have I:Gw.ev E x= .slice (some ⟨g,a.toNat*sz,none⟩) (a3.toNat-a.toNat) (f-a.toNat):=by
    rw[R,wQ,K5,rZ]
   refine Hl (v:= .pointer (some ⟨g,(a+i).toNat*sz+0,none⟩)) (λr _=>?_) ⟨g,aa,f,z,ω,rfl⟩ Q;have:=B9q (P:=P) (w:=r) (ty:=ty) (sz:=sz) I G o n ω;rw[K5]at this;rw[show(a+i).toNat*sz+0=a.toNat*sz+i.toNat*sz by rw[<-vA,(ω:(a+i).toNat=a.toNat+i.toNat),tD]];exact this
 cases b
def C6l (h:C3 za w0 st E w Z B) {T ty e:TypeId} {s:Nat} {x:Operand} {c:C} {n:Int} (d:RC w Z B c (Gw.ev E x)) (a:C1o st c=some n) (F:Hu P T e s=true) (z:∀k,c≠ .mp k) (A:∀s,c≠ .val .str s):
 Zq P st E w Z B ty (.call ⟨.builtin .len, #[x], #[T]⟩) (.one ⟨false,[.val (.int .i64) n]⟩):=by
 have mk:∀(f:Option Addr) (m b:Nat),Gw.ev E x= .slice f m b->m<=maxLen->Zq P st E w Z B ty (.call ⟨.builtin .len, #[x], #[T]⟩) (.one ⟨false,[.val (.int .i64) (m:Int)]⟩):=λf m b g hm=>
  Hl (λa0 _=>D1j g F) ⟨rfl,by
   unfold GZ;have V:i64.min= -9223372036854775808:=δ
   have W:i64.max=9223372036854775807:=δ
   simp only[maxLen]at hm;omega⟩ trivial
 unfold C1o at a;split at a
 . cases a;obtain⟨f,b,j,u,y,_⟩:=d;simp only[sN,vR]at j;exact mk f _ b j (qY u y)
 . rename_i k;split at a
   . rename_i Y X v;cases a;obtain⟨H,a1,D⟩:=B6f h v;have d:Gw.ev E x=B k:=d;rcases D.2 with⟨g,a⟩ | ⟨I,b,G,i,_,_,r,t,_⟩
     . rw[a];exact mk none 0 0 (d.trans g) (rQ _)
     exact mk _ _ b (d.trans i) (qY r t)
   cases a
 . exact absurd rfl (z _)
 . cases a;exact mk none 0 0 (show _= _ from d.1) (rQ _)
 . rename_i k sz o l;cases a;obtain⟨f,n,b,i,R,U,J,M,N,O,Q,g⟩:=d;have:=mk _ _ _ g ω;rwa[(ω:((l.toNat-o.toNat:Nat):Int)=l-o)]at this
 . exact absurd rfl (A _)
 cases a
end
section
variable {za:Zn} {w0 w:World} {Z:Nat->Prop} {B:Nat->Value} {st:St} {E:H5} {P:Program}
def B0b {T e ty:TypeId} {x:Operand} {lo d:Option Operand} {a:Option Addr} {len b size l h:Nat} (u:Gw.ev E x= .slice a len b) (s:Hu P T e size=true)
 (c:match lo with|none=>l=0|some o=>∃k,Gw.ev E o= .int k (l:Int)) (hhi:match d with|none=>h=len|some o=>∃k,Gw.ev E o= .int k (h:Int)) (hlh:l<=h) (hhc:h<=b) (w:World):
 Gw.E4 P E ty (.slice T x lo d none) w (.slice (if b=l then a else a.map (·.add (l*size))) (h-l) (b-l)) w:=λ_ _ _ _=>by
 obtain⟨t,v⟩:=Kh s;have j:=Gw.Fw (P:=P) (w:=w) v;have f:(l:Int)<=(h:Int):=ω
 have g:(h:Int)<=(b:Int):=ω
 have n:(Instr.sliceBounds true len b (lo.map (Gw.ev E)) (d.map (Gw.ev E)) none).run P w= .ok (l,h,b) w:=by
  unfold Instr.sliceBounds;cases d with
  |none=>
   simp only at hhi;subst hhi;cases lo with
   |none=>simp only at c;subst c;simp[go_sem]
   |some o=>obtain⟨k,i⟩:=c;simp[Instr.sliceBound,asIntOf,i,f,hlh,go_sem]
  |some z=>
   obtain⟨y,i⟩:=hhi;cases lo with
   |none=>simp only at c;subst c;simp[Instr.sliceBound,asIntOf,i,g,hhc,go_sem]
   |some o=>obtain⟨k,r⟩:=c;simp[Instr.sliceBound,asIntOf,r,i,f,g,hlh,hhc,go_sem]
 simp only[execOp,u];unfold Instr.sliceAt Instr.slice;simp only[Sem.run_bind,run_underlying t,Result.andThen_ok,Option.map_none,n,j,Sem.run_pure]
def B3r (E:H5):Option Operand->Option Int->Prop
 |none,i=>i=none
 |some o,i=>∃k j,i=some j/\Gw.ev E o= .int k j
def A9m {t:Ty} {a:Option Addr} {n c:Nat} {l:List t.den} {L H:Int} (h:C9 (.sl t) w Z [.slice a n c] l) (D:0<=L) (E:L<=H) (r:H<=(n:Int)):
 C9 (.sl t) w Z [.slice (if c=L.toNat then a else a.map (·.add (L.toNat*t.size))) (H.toNat-L.toNat) (c-L.toNat)] ((l.take H.toNat).drop L.toNat):=by
 obtain⟨A,B,i,F,I,x,d⟩:=h;simp only[sN,vR,Value.slice.injEq]at i;obtain⟨rfl,rfl,rfl⟩:=i;have f:((l.take H.toNat).drop L.toNat).length=H.toNat-L.toNat:=by simp;omega
 refine⟨_,_,by rw[f],by rw[f];omega,ω,λb=>?_,?_⟩
 . split at b
   . omega
   have:=x (by simpa using b);omega
 by_cases G:H.toNat=L.toNat
 . left;exact qR (by rw[f];omega)
 right;rcases d with d| ⟨k,z,g,s,b,u,v⟩
 . subst d;simp at r;omega
 subst s;have o:=G8.drop (λ_ _ h=>C9.length h) L.toNat (G8.take (λ_ _ h=>C9.length h) H.toNat v);refine⟨k,z+L.toNat*t.size,(g.take (H.toNat*t.size)).drop (L.toNat*t.size),?_,b,?_,o⟩
 . rw[qG ω,wQ,K5]
 have j:=M5 u 0 (H.toNat*t.size);rw[uH,tD]at j;have y:=M5 j (L.toNat*t.size) ((g.take (H.toNat*t.size)).drop (L.toNat*t.size)).length;rwa[vG]at y
def A2t (h:C3 za w0 st E w Z B) {T ty e:TypeId} {x:Operand} {lo j:Option Operand} {o n:Option Int} {c u:C} {φ:Option Prop} (d:RC w Z B c (Gw.ev E x)) (g:A6v st o n c=some (φ,u)) (ai:Cu st.nx c) (a2:HC φ)
 (G:B3r E lo o) (F:B3r E j n)
 (a0:∀s,(∃t y,u= .val (.sl t) y/\s=t.size)\/(∃k lo j,u= .win k s lo j)->Hu P T e s=true):Zq P st E w Z B ty (.slice T x lo j none) (.one ⟨false,[u]⟩):=by
 unfold A6v at g;split at g
 . rename_i t l;cases g;have O:=a0 t.size (.inl ⟨t,_,rfl,rfl⟩);obtain⟨V,W,J⟩:=a2;obtain⟨i,a,Y,an,ap,ag,M⟩:=d;simp only[sN,vR]at Y;generalize f:o.getD 0=L at*;generalize z:n.getD (l.length:Int)=H at*;have N:((l.take H.toNat).drop L.toNat).length=H.toNat-L.toNat:=by simp;omega
   refine Hl (λR _=>B0b (l:=L.toNat) (h:=H.toNat) Y O ?_ ?_ ω ω R) ?_ trivial
   . cases lo with
     |none=>rw[show o=none from G]at f;simp at f;simp only;omega
     |some r=>obtain⟨k,ab,b,Q⟩:=G;subst b;simp at f;subst f;exact⟨k,by rw[Q];congr 1;omega⟩
   . cases j with
     |none=>rw[show n=none from F]at z;simp at z;simp only;omega
     |some r=>obtain⟨k,ab,b,Q⟩:=F;subst b;simp at z;subst z;exact⟨k,by rw[Q];congr 1;omega⟩
   refine⟨_,_,by rw[N],by rw[N];omega,ω,λI=>?_,?_⟩
   . split at I
     . omega
     have:=ag (by simpa using I);omega
   by_cases ao:H.toNat=L.toNat
   . left;exact qR (by rw[N];omega)
   right;rcases M with M| ⟨a3,r,U,a9,I,aa,ac⟩
   . subst M;simp at J;omega
   subst a9;have b:=G8.drop (λ_ _ h=>C9.length h) L.toNat (G8.take (λ_ _ h=>C9.length h) H.toNat ac);refine⟨a3,r+L.toNat*t.size,(U.take (H.toNat*t.size)).drop (L.toNat*t.size),?_,I,?_,b⟩
   . rw[qG ω,wQ,K5]
   have a1:=M5 aa 0 (H.toNat*t.size);rw[uH,tD]at a1;have aj:=M5 a1 (L.toNat*t.size) ((U.take (H.toNat*t.size)).drop (L.toNat*t.size)).length;rwa[vG]at aj
 . rename_i k;split at g
   . rename_i t am l ad;cases g;have O:=a0 t.size (.inr ⟨_,_,_,rfl⟩);obtain⟨V,W,J⟩:=a2;have f:=h.locs k;rw[ad]at f;obtain⟨aq,ah,_,_⟩:=f;have a8:Gw.ev E x=B k:=d;generalize D:o.getD 0=L at*;generalize A:n.getD (l.length:Int)=H at*;obtain⟨i,a,X,a4,a7,a5,a6⟩:∃i a,B k= .slice i l.length a/\(∀x,i=some x->∃v,x=⟨v,0,none⟩)/\(i=none->a=0)/\l.length<=a/\a<=maxLen:=by
      rcases ah.2 with⟨Q,ae⟩ | ⟨v,a,ak,Q,_,_,af,ab,_⟩
      . exact⟨none,0,by rw[Q,ae],λx d=>(by cases d),λ_=>rfl,ω,rQ _⟩
      exact⟨some ⟨v,0,none⟩,a,Q,λx d=>⟨v,by cases d;rfl⟩,λd=>(by cases d),af,ab⟩
     refine Hl (λR _=>B0b (l:=L.toNat) (h:=H.toNat) (a8.trans X) O ?_ ?_ ω ω R) ⟨i,l.length,a,X,a4,a7,V,W,J,a5,a6,rfl⟩ ai
     . cases lo with
       |none=>rw[show o=none from G]at D;simp at D;simp only;omega
       |some r=>obtain⟨k,ab,b,Q⟩:=G;subst b;simp at D;subst D;exact⟨k,by rw[Q];congr 1;omega⟩
     cases j with
     |none=>rw[show n=none from F]at A;simp at A;simp only;omega
     |some r=>obtain⟨k,ab,b,Q⟩:=F;subst b;simp at A;subst A;exact⟨k,by rw[Q];congr 1;omega⟩
   cases g
 cases g
def C1i (P:Program) (T:TypeId) (k:IntKind):Bool:=match P.underlying T with|some (.int k')=>decide (k=k') | _=>false
def gW {T:TypeId} {k:IntKind} (h:C1i P T k=true):P.underlying T=some (.int k):=by
 unfold C1i at h;split at h
 . rename_i b a;have:=qA h;subst this;exact a
 cases h
def C0n {T T' ty:TypeId} {x:Operand} {k k':IntKind} {a:Int} (b:RC w Z B (.val (.int k) a) (Gw.ev E x)) (c:∃d,P.underlying T=some d) (f:C1i P T' k'=true):Zq P st E w Z B ty (.convert T T' x) (.one ⟨false,[.val (.int k') (k'.wrap a)]⟩):=by
 obtain⟨b,_⟩:=b;simp only[sN,vR]at b;obtain⟨d,g⟩:=c;have h:=gW f;refine Hl (v:= .int k' (k'.wrap a)) (λi _=>?_) ⟨rfl,Oq _ _⟩ trivial;intro _ _ _ _;simp[execOp,convert,b,run_underlying g,run_underlying h,Conv.intToInt,go_sem]
def unC (op:UnOp):C->Option C
 | .val .bool b=>match op with
  | .not=>some (.val .bool (!b))
  | _=>none
 | .val (.int k) a=>match op with
  | .neg=>some (.val (.int k) (k.wrap (-a)))
  | .xor=>some (.val (.int k) (k.wrap (BitVec.ofInt k.bits (if k.signed then -1 else k.max)^^^BitVec.ofInt k.bits a).toNat))
  | _=>none
 | _=>none
def D1f {op:UnOp} {T ty:TypeId} {x:Operand} {c b:C} (a:RC w Z B c (Gw.ev E x)) (h:unC op c=some b):Zq P st E w Z B ty (.unOp op T x) (.one ⟨false,[b]⟩):=by
 unfold unC at h;split at h
 . split at h
   . cases h;rename_i f _;have a:Gw.ev E x= .bool f:=by simpa[RC,C9]using a
     exact Hl (λd _=>D1n a) rfl trivial
   cases h
 . obtain⟨a,_⟩:=a;simp only[sN,vR]at a;split at h
   . cases h;exact Hl (λd _=>D1m a) ⟨rfl,Oq _ _⟩ trivial
   . cases h;refine Hl (v:= .int _ _) (λd _ _ _ _ _=>by simp[execOp,a,Op.unary,Op.intBits,go_sem]) ⟨rfl,Oq _ _⟩ trivial
   cases h
 cases h
def AO (place:Nat->Option (Nat×Nat)):List C->List (Nat×List C)->Option (List C)
 |a,[]=>some a
 |a,(i,c)::r=>match place i with
  |none=>none
  |some (b,sz)=>bif Nat.beq c.length sz&&Nat.ble (b+sz) a.length then AO place (a.take b++c++a.drop (b+sz)) r else none
def Ft:C->Bool
 | .dead=>false
 | _=>true
def C9.one1 {t:Ty} {v:Value} {x:t.den} (h:C9 t w Z [v] x):v.oneCell'=true:=C9.oneCell h v (by simp)
def RC.one (h:C3 za w0 st E w Z B) {c:C} {v:Value} (b:Ft c=true) (a:RC w Z B c v):v.oneCell'=true:=by
 cases c with
 |val t x=>exact C9.one1 a
 |row k=>rw[show v= _ from a];exact h.bone k
 |box k f=>obtain⟨d,_,e⟩:=a;rw[e];rfl
 |elp k sz i f=>obtain⟨d,_,_,_,_,e⟩:=a;rw[e];rfl
 |win k sz f d=>obtain⟨_,_,_,_,_,_,_,_,_,_,_,e⟩:=a;rw[e];rfl
 |pf t x f=>obtain⟨d,_,_,e,_⟩:=a;rw[e];rfl
 |mp k=>rw[show v= _ from a];exact h.bone k
 |fn f d=>rw[show v= _ from a];rfl
 |fv _ _ _ _ _ _=>obtain⟨_,_,e,_⟩:=a;rw[e];rfl
 |raw d=>rw[a.1];exact a.2
 |dead=>cases b
end
end Go.Vc
