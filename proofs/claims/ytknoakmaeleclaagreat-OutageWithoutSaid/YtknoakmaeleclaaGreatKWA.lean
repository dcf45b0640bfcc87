/- Part. -/
import Derived.Orders
import Derived.OrdersHeld
import Derived.Below
import Derived.KernelRfl
import Derived.Deep.LoopGhost
import Derived.WalkKit
import Derived.OwnWalk
import Derived.Maps.RangeRun
import Derived.DeepKeys3
set_option linter.all false
namespace Go
theorem ω {p:Prop} (h:p:=by omega):p:=h
theorem δ {p:Prop} (h:p:=by decide):p:=h
def qA:=@of_decide_eq_true
def qB:=@of_decide_eq_false
def qC:=@Bool.and_eq_true
def qD:=@List.getD_eq_getElem?_getD
def qE:=@Nat.eq_of_beq_eq_true
def qF:=@Int.natCast_nonneg
def qG:=@if_neg
def qH:=@Int.le_refl
def qI:=@Option.bind_eq_bind
def qJ:=@Int.toNat_natCast
def qK:=@List.mem_singleton
def qL:=@List.getElem?_eq_getElem
def qM:=@List.length_set
def qN:=@if_pos
def qO:=@List.mem_cons_of_mem
def qP:=@Option.map_eq_some_iff
def qQ:=@Nat.le_of_ble_eq_true
def qR:=@Decidable.byContradiction
def qS:=@List.mem_cons
def qT:=@List.eq_nil_of_length_eq_zero
def qU:=@List.length_singleton
def qV:=@Nat.le_refl
def qW:=@List.take_of_length_le
def qX:=@cond_true
def qY:=@Nat.le_trans
def qZ:=@List.length_take
def rA:=@Bool.or_eq_false_iff
def rB:=@List.mem_append
def rC:=@decide_eq_false
def rD:=@Nat.mul_le_mul_right
def rE:=@decide_eq_true
def rF:=@Option.some.injEq
def rG:=@decide_eq_false_iff_not
def rH:=@List.mem_cons_self
def rI:=@List.length_cons
def rJ:=@Nat.lt_of_lt_of_le
def rK:=@cond_false
def rL:=@Rat.add_zero
def rM:=@Nat.lt_succ_self
def rN:=@List.length_replicate
def rO:=@Bool.not_eq_true'
def rP:=@Nat.zero_le
def rQ:=@List.length_append
def rR:=@Nat.pow_le_pow_right
def rS:=@decide_eq_true_eq
def rT:=@List.getElem?_eq_none
def rU:=@List.take_add_one
def rV:=@Array.getElem?_eq_some_iff
def rW:=@List.mem_of_mem_take
def rX:=@List.getElem?_take_of_lt
def rY:=@Nat.pow_succ
def rZ:=@Rat.zero_mul
def sA:=@congrArg
def sB:=@Int.toNat_of_nonneg
def sC:=@Nat.mul_le_mul_left
def sD:=@Nat.lt_or_ge
def sE:=@List.map_cons
def sF:=@Nat.mul_comm
def sG:=@Nat.zero_add
def sH:=@Rat.mul_zero
def sI:=@List.drop_of_length_le
def sJ:=@List.getElem?_set_self
def sK:=@List.nodup_cons
def sL:=@Int.fdiv_eq_ediv_of_nonneg
def sM:=@Int.mul_le_mul_of_nonneg_right
def sN:=@Nat.mul_assoc
def sO:=@List.cons.injEq
def sP:=@Array.length_toList
def sQ:=@List.getElem?_eq_some_iff
def sR:=@Rat.zero_add
def sS:=@List.mem_map
def sU:=@List.length_drop
def sV:=@List.getElem?_set_ne
def sW:=@List.mem_append_left
def sX:=@Nat.pos_of_ne_zero
def sY:=@Nat.mul_add
def sZ:=@List.getElem?_append_right
def tA:=@List.mem_of_getElem?
def tC:=@Rat.sub_eq_add_neg
def tD:=@Bool.or_eq_true
def tF:=@Nat.min_eq_left
def tG:=@Rat.one_mul
def tH:=@Nat.lt_irrefl
def tI:=@Array.getElem?_setIfInBounds
def tJ:=@List.length_map
def tK:=@Decidable.not_not
def tL:=@List.getElem?_map
def tN:=@List.all_cons
def tO:=@Rat.mul_assoc
def tP:=@Nat.pow_pos
def tR:=@Rat.mul_one
def tS:=@Nat.add_zero
def tT:=@List.mem_append_right
def tU:=@Int.mul_nonneg
def tV:=@List.nodup_append
def tW:=@List.pairwise_append
def tX:=@Nat.div_lt_iff_lt_mul
def tY:=@Nat.pow_add
def tZ:=@Rat.div_def
def uA:=@Int.natAbs_natCast
def uB:=@List.all_eq_true
def uC:=@Nat.mod_eq_of_lt
def uD:=@Nat.ne_of_lt
def uE:=@Array.toArray_toList
def uF:=@Int.mul_le_mul_of_nonneg_left
def uG:=@Int.tmod_eq_emod_of_nonneg
def uH:=@Nat.le_succ
def uI:=@Nat.succ_mul
def uJ:=@List.getElem?_append_left
def uK:=@List.pairwise_iff_getElem
def uL:=@List.drop_zero
def uM:=@Nat.mul_le_mul
def uN:=@Nat.div_eq_of_lt
def uO:=@List.map_append
def uP:=@Nat.lt_succ_of_lt
def uQ:=@Nat.not_lt_zero
def uR:=@List.mem_range
def uS:=@List.take_append_drop
def uT:=@Int.eq_ofNat_of_zero_le
def uU:=@List.getElem?_cons_succ
def uV:=@Nat.add_mul
def uW:=@List.getElem?_range
def uX:=@Array.getElem?_eq_getElem
def uY:=@Int.natCast_mul
def uZ:=@Int.sign_eq_one_of_pos
def vA:=@List.append_assoc
def vB:=@Int.dvd_mul_of_dvd_right
def vC:=@Nat.add_assoc
def vD:=@List.append_nil
def vE:=@Int.natAbs_mul
def vF:=@List.pairwise_singleton
def vG:=@List.mem_iff_getElem
def vH:=@Nat.ne_of_beq_eq_false
def vJ:=@List.nil_append
def vK:=@List.take_length
def vL:=@List.mem_map_of_mem
def vM:=@beq_eq_false_iff_ne
def vN:=@Nat.le_div_iff_mul_le
def vO:=@Int.ofNat_lt
def vP:=@List.getElem?_replicate
def vQ:=@List.mem_of_mem_drop
def vR:=@Nat.eq_zero_or_pos
def vS:=@Rat.mul_inv_cancel
def vT:=@List.length_nil
def vV:=@Nat.add_comm
def vW:=@Nat.div_div_eq_div_mul
def vX:=@Nat.le_of_lt
def vY:=@and_true
def vZ:=@List.drop_drop
def wA:=@Option.map_some
def wB:=@Bool.false_eq_true
def wC:=@Nat.lt_of_le_of_lt
def wD:=@Rat.inv_mul_cancel
def wE:=@List.cons_append
def wF:=@List.not_mem_nil
def wG:=@Option.bind_some
def wH:=@Option.getD_some
def wI:=@Bool.false_or
def wJ:=@List.getElem?_set
def wK:=@List.size_toArray
def wL:=@Nat.mod_lt
def wM:=@Rat.neg_zero
def wN:=@if_true
def wO:=@List.length_pos_iff
def wP:=@Option.isNone_iff_eq_none
def wQ:=@Array.getElem?_toList
def wR:=@Bool.and_eq_false_iff
def wS:=@List.getElem?_take
def wT:=@List.getElem_mem
def wU:=@Nat.mul_zero
def wV:=@List.Perm.refl
def wW:=@List.mapM_cons
def wX:=@List.ext_getElem?
def wY:=@Int.natCast_add
def wZ:=@List.mem_filter
def xA:=@Nat.div_add_mod
def xB:=@Nat.div_le_self
def xC:=@Int.le_of_lt
def xD:=@Nat.gcd_comm
def xE:=@Nat.mul_lt_mul_of_pos_right
def xF:=@Nat.sub_self
def xG:=@Nat.mul_one
def xH:=@Nat.one_mul
def xI:=@List.ext_getElem
def xJ:=@decide_eq_decide
def xK:=@Int.natAbs_neg
def xL:=@Int.sign_eq_neg_one_of_neg
def xM:=@List.getElem?_drop
def xN:=@Nat.lt_of_mul_lt_mul_right
def xO:=@Rat.num_divInt_den
def xP:=@Int.natAbs_ediv_le_natAbs
def xQ:=@Int.sign_eq_zero_iff_zero
def xR:=@List.drop_eq_getElem_cons
def xS:=@Int.natCast_pow
def xT:=@List.range_succ
def xU:=@Option.some.inj
def xV:=@List.pairwise_map
def xW:=@Nat.le_succ_of_le
def xX:=@Nat.zero_mul
def xY:=@Int.mul_ediv_cancel_left
def xZ:=@Nat.lt_succ_iff_lt_or_eq
def yA:=@Iff.rfl
def yB:=@List.any_eq_true
def yC:=@List.getElem_inj
def yD:=@Nat.mul_div_cancel_left
def yE:=@Rat.mkRat_eq_div
def yF:=@if_false
def yG:=@Nat.pow_mul
def yH:=@BitVec.toNat_ofInt
def yI:=@Int.ofNat_dvd_left
def yJ:=@Nat.beq_refl
def yK:=@Rat.mul_comm
def yL:=@decide_eq_true_iff
def yM:=@List.foldl_cons
def yN:=@Rat.mul_eq_zero
def yO:=@List.any_cons
def yP:=@Int.mul_ediv_add_emod
def yQ:=@List.getElem?_toArray
def yR:=@Nat.add_mul_div_right
def yS:=@Array.getD_eq_getD_getElem?
def yT:=@List.flatMap_cons
def yU:=@List.idxOf_lt_length_of_mem
def yV:=@List.length_range
def yW:=@Nat.gcd_dvd_right
def yX:=@Array.replicate_succ
def yY:=@Array.replicate_zero
def yZ:=@Int.tdiv_eq_ediv_of_nonneg
def zA:=@Nat.pow_lt_pow_right
def zC:=@Rat.mkRat_zero
def zD:=@Array.mapM_eq_mapM_toList
def zE:=@Int.mul_neg_of_pos_of_neg
def zF:=@List.mem_or_eq_of_mem_set
def zG:=@Nat.add_mul_mod_self_left
def zH:=@List.append_toArray
def zI:=@List.drop_set_of_lt
def zJ:=@List.getElem_of_mem
def zK:=@List.take_set_of_le
def zL:=@Nat.div_mul_le_self
def zM:=@Array.getElem?_replicate
def zO:=@Array.setIfInBounds_comm
def zP:=@Bool.not_true
def zQ:=@Int.ediv_nonpos_of_nonneg_of_nonpos
def zR:=@List.length_erase_of_mem
def zS:=@Rat.add_assoc
def zT:=@Int.tmod_nonneg
def zU:=@List.drop_left'
def zV:=@Nat.mul_ne_zero
def zW:=@Rat.intCast_mul
def zX:=@Rat.num_eq_zero
def zY:=@Bool.not_eq_false'
def zZ:=@Int.emod_lt_of_pos
def g0a:=@Int.mul_nonneg_of_nonpos_of_nonpos
def g0b:=@List.mem_replicate
def g0c:=@List.pairwise_cons
def g0d:=@Nat.mul_right_comm
def g0e:=@Int.gcd_dvd_right
def g0f:=@Int.lt_trichotomy
def g0g:=@Int.natAbs_add_le
def g0h:=@List.any_eq_false
def g0i:=@List.length_pos_of_mem
def g0j:=@List.nodup_nil
def g0k:=@List.push_toArray
def g0l:=@List.take_zero
def g0m:=@Nat.mul_left_comm
def g0n:=@Nat.mul_div_mul_right
def g0o:=@Array.toList_inj
def g0p:=@Int.gcd_dvd_left
def g0q:=@List.take_append
def g0r:=@Nat.le_add_right
def g0s:=@Rat.divInt_ofNat
def g0t:=@Bool.true_and
def g0u:=@List.mem_erase_of_ne
def g0v:=@Nat.add_le_add_right
def g0w:=@Nat.mul_pos
def g0x:=@Nat.shiftLeft_add_eq_or_of_lt
def g0y:=@or_false
def g0z:=@Int.ediv_nonneg
def g1a:=@List.take_left'
def g1b:=@Array.toList_filter
def g1c:=@Array.toList_modify
def g1d:=@List.filter_eq_self
def g1e:=@List.mergeSort_perm
def g1f:=@List.toList_toArray
def g1g:=@Nat.pow_le_pow_left
def g1h:=@Rat.mkRat_mul_mkRat
def g1i:=@Bool.true_or
def g1j:=@Nat.pow_zero
def g1k:=@Rat.add_comm
def g1l:=@getElem!_pos
def g1m:=@Bool.false_and
def g1n:=@Bool.not_false
def g1o:=@Int.natAbs_sign_of_ne_zero
def g1p:=@List.drop_take
def g1q:=@List.getElem_idxOf
def g1r:=@List.take_take
def g1s:=@Nat.gcd_zero_right
def g1t:=@Rat.mkRat_self
def g1u:=@beq_iff_eq
def g1v:=@Array.toList_push
def g1w:=@List.getElem_take
def g1x:=@Nat.lt_trichotomy
def g1y:=@Rat.neg_num
def g1z:=@Nat.gcd_pos_of_pos_right
def g2a:=@Nat.le_of_dvd
def g2b:=@Option.isSome_iff_exists
def g2c:=@Array.toList_map
def g2d:=@Classical.axiomOfChoice
def g2e:=@List.filter_cons
def g2f:=@List.zipIdx_cons
def g2g:=@Nat.add_sub_cancel_left
def g2h:=@Nat.gcd_pos_of_pos_left
def g2i:=@Nat.le_of_not_lt
def g2j:=@Option.bind_eq_some_iff
def g2k:=@Option.bind_none
def g2l:=@Option.getD_none
def g2m:=@Array.getElem?_eq_none
def g2n:=@Bool.or_true
def g2o:=@Int.ediv_lt_iff_lt_mul
def g2p:=@Int.le_ediv_iff_mul_le
def g2q:=@Int.mul_comm
def g2r:=@List.length_eq_one_iff
def g2s:=@List.set_set
def g2t:=@Nat.sub_zero
def g2u:=@decide_false
def g2v:=@Int.emod_nonneg
def g2w:=@Nat.le_max_left
def g2x:=@Nat.min_le_left
def g2y:=@Nat.mul_add_div
def g2z:=@Nat.mul_add_mod
def g3a:=@Rat.den_intCast
def g3b:=@Rat.intCast_neg
def g3c:=@Rat.natCast_mul
def g3d:=@Rat.natCast_pos
def g3e:=@Rat.num_intCast
def g3f:=@Array.getElem?_modify
def g3g:=@List.Perm.append_left
def g3h:=@List.length_filter_le
def g3i:=@List.set_append_right
def g3j:=@Rat.divInt_mul_divInt
def g3k:=@Array.toList_extract
def g3l:=@Decidable.of_not_not
def g3m:=@Int.dvd_add
def g3n:=@Int.ediv_emod_unique
def g3o:=@List.drop_left
def g3p:=@List.range_eq_range'
def g3q:=@List.take_left
def g3r:=@Nat.add_le_add
def g3s:=@Nat.add_mul_div_left
def g3t:=@Nat.div_one
def g3u:=@Nat.gcd_rec
def g3v:=@Prod.ext
def g3w:=@Rat.add_mul
def g3x:=@Rat.den_pos
def g3y:=@Rat.mul_nonneg
def g3z:=@Rat.neg_den
def g4a:=@or_congr
def g4b:=@Int.natCast_eq_zero
def g4c:=@Int.neg_ediv_of_dvd
def g4d:=@Nat.add_le_add_left
def g4e:=@Nat.pos_iff_ne_zero
def g4f:=@Rat.intCast_natCast
def g4g:=@Int.ofNat.inj
def g4h:=@Int.toNat_mul
def g4i:=@List.cons.inj
def g4j:=@Rat.lt_irrefl
def g4k:=@ne_eq
def g4l:=@Array.foldl_toList
def g4m:=@List.Pairwise.take
def g4n:=@List.filter_append
def g4o:=@List.set_cons_succ
def g4p:=@Nat.lt_of_le_of_ne
def g4q:=@Nat.lt_or_gt_of_ne
def g4r:=@Nat.mul_div_cancel
def g4s:=@Option.toList_some
def g4t:=@Rat.add_neg_cancel
def g4u:=@Decidable.em
def g4v:=@Int.emod_eq_of_lt
def g4w:=@Int.le_total
def g4x:=@Int.le_trans
def g4y:=@Int.lt_or_le
def g4z:=@Int.sign_mul
def g5a:=@Nat.zero_div
def g5b:=@Int.natCast_ediv
def g5c:=@Int.sign_pos_iff
def g5d:=@List.drop_append
def g5e:=@List.getElem_set
def g5f:=@List.isEmpty_iff
def g5g:=@List.nodup_range
def g5h:=@List.range'_succ
def g5i:=@Nat.gcd_dvd_left
def g5j:=@Nat.le_max_right
def g5k:=@Nat.shiftLeft_eq
def g5l:=@Nat.succ_le_succ
def g5m:=@Nat.mod_one
def g5n:=@decide_true
def g5o:=@Int.not_lt
def g5p:=@and_congr
def g5q:=@not_congr
def g5r:=@not_or
end Go
namespace Go.Gw
open Go Go.RowKit
open Go.IntKind (i64)
abbrev I2:=Nat->Value
def upd (E:I2) (d:Nat) (v:Value):I2:=λt=>bif Nat.beq t d then v else E t
def pB (E:I2):Option Tmp->Value->I2
 |some d,v=>upd E d v
 |none,_=>E
def ev (E:I2):Operand->Value
 | .tmp t=>E t
 | .const v=>v
 | .global g=> .pointer (some ⟨g,0,none⟩)
 | .func f=> .func (.func f) #[] #[]
def E6 {t d:Nat} (h:t≠d):Nat.beq t d=false:=by
 cases a:Nat.beq t d with
 |false=>rfl
 |true=>exact absurd (qE a) h
def C0 (E:I2) (d:Nat) (v:Value):upd E d v d=v:=by simp[upd]
def C5 (E:I2) (d t:Nat) (v:Value) (h:t≠d):upd E d v t=E t:=by
 have:Nat.beq t d=false:=E6 h;simp[upd,this]
structure C6 (n:Nat) (a:Act) (E:I2):Prop where
 size:a.tmps.size=n
 get:∀t,a.tmps.getD t undef=E t
 defers:a.defers= []
def C6.ev {n:Nat} {a:Act} {E:I2} (h:C6 n a E):a.eval=Gw.ev E:=by
 funext x;cases x with
 |tmp t=>exact h.get t
 | _=>rfl
def A1e (n:Nat) (l:List Oper):Bool:=l.all λo=>match o.dst with|some d=>decide (d<n) |none=>true
def C6.put {n:Nat} {a:Act} {E:I2} (h:C6 n a E) (o:Option Tmp) (v:Value) (g:∀d,o=some d->d<n):C6 n (a.put o v) (pB E o v):=by
 cases o with
 |none=>exact h
 |some d=>
  have c:=g d rfl;refine⟨by simp[Act.put,h.size],λt=>?_,h.defers⟩;have i:=h.size;have f:=h.get t;by_cases b:t=d
  . subst b;simp[Act.put,pB,C0,tI,i,c]
  . simp only[pB,C5 _ _ _ _ b];rw[<-f];simp[Act.put,tI,Ne.symm b]
def Bg (all:List Oper) (E:I2) (j:Nat):Option Bool:=
 match(all[j]?).bind (·.dst)with
 |some t=>match E t with| .bool b=>some b| _=>none
 |none=>none
def D8 (all:List Oper) (o:Oper) (E:I2):Bool:=
 match o.guard with
 |none=>true
 |some (j,a)=>Bg all E j==some a
def C6.yielded {n:Nat} {a:Act} {E:I2} (h:C6 n a E) (all:List Oper) (j:Nat):yielded all.toArray a.tmps j=Bg all E j:=by
 unfold Go.yielded Bg;rw[yQ];cases d:(all[j]?).bind (·.dst)with
 |none=>simp
 |some t=>
  simp only[wG];have b:=h.get t;cases c:a.tmps[t]? with
  |none=>
   have:a.tmps.getD t undef=undef:=by simp[c]
   rw[this]at b;simp[<-b,undef]
  |some v=>
   have:a.tmps.getD t undef=v:=by simp[c]
   rw[this]at b;rw[<-b];cases v<;>rfl
def C6.wanted {n:Nat} {a:Act} {E:I2} (h:C6 n a E) (all:List Oper) (o:Oper):Region.wanted o (Go.yielded all.toArray a.tmps)=D8 all o E:=by
 unfold Region.wanted D8;cases o.guard with
 |none=>rfl
 |some g=>simp only[h.yielded]
def N6 (P:Program) (all:List Oper) (o:Oper) (next:I2->World->Prop) (E:I2) (w:World):Prop:=
 if D8 all o E=true then
  match(execOp (ev E) o).run P w with
  | .ok (.value v) a=>next (pB E o.dst v) a
  | .ok .skip a=>next (pB E o.dst undef) a
  | .ok (.enter f a) b=>Calls P f a b λe c=>∃v,e= .returned v/\next (pB E o.dst v) c
  | _=>False
 else next (pB E o.dst undef) w
def C5b (P:Program) (all:List Oper) (next:I2->World->Prop):List Oper->I2->World->Prop
 | []=>next
 |o::r=>N6 P all o (C5b P all next r)
def FR (n:Nat) (Q:Exit->I2->World->Prop):Exit->Act->World->Prop:=λe a w=>∃E,C6 n a E/\Q e E w
def O4 {P:Program} {all:List Oper} {o:Oper} {next b:I2->World->Prop} (h:∀E w,next E w->b E w) {E:I2} {w:World} (hs:N6 P all o next E w):N6 P all o b E w:=by
 unfold N6 at*;split
 . rename_i a;simp only[a,wN]at hs;generalize (execOp (ev E) o).run P w=r at*;cases r with
   |ok m c=>
    cases m<;>simp only at hs|-
    case value v=>exact h _ _ hs
    case skip=>exact h _ _ hs
    case enter f args=>exact hs.mono λe d ⟨v,he,hn⟩=>⟨v,he,h _ _ hn⟩
   |halt x c=>exact hs
 . rename_i a;simp only[a]at hs;exact h _ _ hs
def JM {P:Program} {n:Nat} {all:List Oper} (g:A1e n all=true) {i:Nat} {o:Oper} (k:all[i]? =some o) {Q:Exit->Act->World->Prop} {K:Act->World->Prop} {next:I2->World->Prop}
 (c:∀a E w,C6 n a E->next E w->K a w) {a:Act} {E:I2} {w:World} (hr:C6 n a E) (h:N6 P all o next E w):wpOp P all.toArray Q i K a w:=by
 have b:∀d,o.dst=some d->d<n:=λd b=>by
  have:=uB.1 g o (tA k);simpa[b]using this
 unfold wpOp;simp only[yQ,k];rw[hr.wanted];unfold N6 at h;split
 . rename_i j;simp only[j,wN]at h;refine .inl ?_;unfold Oper.wp;rw[hr.ev];generalize (execOp (ev E) o).run P w=r at*;cases r with
   |ok m l=>
    cases m<;>simp only at h
    case value v=>exact c _ _ _ (hr.put _ _ b) h
    case skip=>exact c _ _ _ (hr.put _ _ b) h
    case enter f args=>
     refine h.mono λe s ⟨v,he,g⟩=>?_
     subst he;exact c _ _ _ (hr.put _ _ b) g
   |halt x l=>exact h.elim
 . rename_i j;simp only[j]at h;exact c _ _ _ (hr.put _ _ b) h
def bM {P:Program} {n:Nat} {all:List Oper} (d:A1e n all=true) {Q:Exit->I2->World->Prop} :
 ∀(b:List Oper) (k:Nat),(∀j,b[j]? =all[k+j]?)->∀(a:Act) (E:I2) (w:World),C6 n a E->C5b P all (Q .normal) b E w->
  wpOps P all.toArray (FR n Q) (List.range' k b.length) a w
 | [],_,_,a,E,w,c,h=>⟨E,c,h⟩
 |o::b,k,c,a,E,w,l,h=>by
  have g:all[k]? =some o:=by simpa using(c 0).symm
  rw[rI,g5h,wpOps_cons];refine JM d g (λf E' s r i=>?_) l h;exact bM d b (k+1) (λj=>by have:=c (j+1);simpa[vC,vV 1 j]using this) f E' s r i
inductive kV where
 |done
 |q (i:Nat) (p:kV)
 |p (i:Nat) (p:kV)
 |e (i:Nat) (p:kV)
 |br (i:Nat) (p:kV) (j:Nat) (p':kV)
def H6 (tails:List Nat) (listed:Array Bool):Bool:=tails.any λi=>listed.getD i false
inductive Reach (ops:Array Oper) (j:Nat):Nat->Prop
 |one {oj:Oper} {e:Edge} :ops[j]? =some oj->e∈oj.after->Region.binds .any e=true->Reach ops j e.on
 |more {i:Nat} {oi:Oper} {e:Edge} :Reach ops j i->ops[i]? =some oi->e∈oi.after->Region.binds .any e=true->Reach ops j e.on
def A9g (all:List Oper) (i:Nat):List Nat:=match all[i]? with
 |some o=>(o.after.toList.filter λe=>Region.binds .any e).map (·.on)
 |none=> []
def A8c (all:List Oper):List Nat->List Nat->List Nat
 | [],s=>s
 |i::r,s=>A8c all r (bif s.contains i then s++(A9g all i).filter (λx=> !(s.contains x))else s)
def ET (all:List Oper) (a tails:List Nat):Bool:=
 tails.all λj=>(λs=>a.all λi=>s.contains i) (A8c all (List.range j).reverse (A9g all j))
def pU {all:List Oper} {i x:Nat} (h:x∈A9g all i):∃a e,all.toArray[i]? =some a/\e∈a.after/\Region.binds .any e=true/\e.on=x:=by
 unfold A9g at h;split at h
 . rename_i o f;obtain⟨e,d,rfl⟩:=sS.1 h;obtain⟨b,c⟩:=wZ.1 d;exact⟨o,e,by rw[yQ];exact f,by simpa using b,c,rfl⟩
 . cases h
def jV {all:List Oper} {j:Nat} :∀ {r s:List Nat},(∀x∈s,Reach all.toArray j x)->∀x∈A8c all r s,Reach all.toArray j x
 | [],_,h,x,a=>h x a
 |i::r,s,h,x,g=>by
  refine jV (r:=r) (λy a=>?_) x g;cases b:s.contains i with
  |false=>rw[b]at a;exact h y a
  |true=>
   rw[b]at a;simp only[qX,rB]at a;rcases a with a|a
   . exact h y a
   . obtain⟨k,e,c,d,f,rfl⟩:=pU (wZ.1 a).1;exact .more (h i (by simpa using b)) c d f
def BJ {all:List Oper} {a tails:List Nat} (i:ET all a tails=true):∀(j:Nat) (b:Oper),all.toArray[j]? =some b->j∈tails->∀h∈a,Reach all.toArray j h:=by
 intro j b r g h f;have c:=uB.1 i j g;have d:=uB.1 c h f;refine jV (λx k=>?_) h (by simpa using d);obtain⟨s,e,l,n,o,rfl⟩:=pU k;exact .one l n o
def JG (P:Program) (S:World->Prop) (all:List Oper) (o:Oper) (next:I2->World->Prop) (E:I2) (w:World):Prop:=
 (D8 all o E=true/\∃v,(∀a,S a->(execOp (ev E) o).run P a= .ok (.value v) a)/\next (pB E o.dst v) w)\/
 (D8 all o E=false/\next (pB E o.dst undef) w)
def iC (P:Program) (S:World->Prop) (all:List Oper) (tails:List Nat) (next:I2->World->Prop):kV->Bool->I2->World->Prop
 | .done,_=>next
 | .q i p,t=>λE w=>∃o,all[i]? =some o/\JG P S all o (iC P S all tails next p t) E w
 | .p i p,t=>λE w=>∃o,all[i]? =some o/\JG P (λ_=>True) all o (iC P S all tails next p t) E w
 | .e i p,t=>λE w=>∃o,all[i]? =some o/\N6 P all o (λE' a=>((t||tails.contains i)=true\/S a)/\iC P S all tails next p (t||tails.contains i) E' a) E w
 | .br i p j b,t=>λE w=>(∃o,all[i]? =some o/\N6 P all o (λE' a=>((t||tails.contains i)=true\/S a)/\iC P S all tails next p (t||tails.contains i) E' a) E w)/\
  (∃o,all[j]? =some o/\N6 P all o (λE' a=>((t||tails.contains j)=true\/S a)/\iC P S all tails next b (t||tails.contains j) E' a) E w)
section held
variable {P:Program} {ops:Array Oper} {Q:Exit->Act->World->Prop} {S:World->Prop} {heads tails:List Nat}
def Ab (P:Program) (ops:Array Oper) (Q:Exit->Act->World->Prop) (S:World->Prop) (tails:List Nat):Nat->Array Bool->Act->World->Prop
 |0,listed,a,w=>Region.ready .any ops listed= []/\Q .normal a w
 |fuel+1,listed,a,w=>
  (Region.ready .any ops listed= []->Q .normal a w)/\∀i∈Region.ready .any ops listed,wpOp P ops Q i (λc b=>(H6 tails (listed.setIfInBounds i true)=true\/S b)/\Ab P ops Q S tails fuel (listed.setIfInBounds i true) c b) a w
def eJ:∀(fuel:Nat) (listed:Array Bool) (a:Act) (w:World),Ab P ops Q S tails fuel listed a w->wpAny P .any ops Q fuel listed a w
 |0,_,_,_,h=>h
 |fuel+1,_,_,_,h=>⟨h.1,λi d=>wpOp_mono (λb f c=>eJ fuel _ b f c.2) (h.2 i d)⟩
def A5a (ops:Array Oper) (listed:Array Bool):Prop:=∀(i:Nat) (a:Oper),ops[i]? =some a->listed.getD i false=true->∀e∈a.after,Region.binds .any e=true->listed.getD e.on false=true
def eO (ops:Array Oper) (heads tails:List Nat) (listed:Array Bool):Prop:=A5a ops listed/\(H6 tails listed=true->∀h∈heads,listed.getD h false=true)
def A0t (ops:Array Oper) (n:Nat):A5a ops (Array.replicate n false):=λi b _ a=>by
 simp only[yS,zM]at a;split at a<;>cases a
def Reach.listed {ops:Array Oper} {listed:Array Bool} {j h:Nat} (d:A5a ops listed) (g:j∈Region.ready .any ops listed) (k:Reach ops j h):listed.getD h false=true:=by
 induction k with
 |one i f c=>
  obtain⟨_,l,a,b⟩:=mem_ready.1 g;rw[i]at a;cases a;exact b _ f c
 |more _ c b a f=>exact d _ _ c f _ b a
def GX {listed:Array Bool} {i:Nat} (h:listed.getD i true=false):listed.getD i false=false:=by
 rcases sD i listed.size with a|a
 . simp[a]at h|-;exact h
 . simp[g2m a]
def J0 {listed:Array Bool} {i:Nat} (c:i∉tails):H6 tails (listed.setIfInBounds i true)=H6 tails listed:=by
 unfold H6;rw[Bool.eq_iff_iff,yB,yB];constructor
 . rintro⟨x,a,h⟩;have b:i≠x:=λe=>c (by rw[e];exact a)
   exact⟨x,a,by rw[getD_set_ne false b]at h;exact h⟩
 . rintro⟨x,a,h⟩;have b:i≠x:=λe=>c (by rw[e];exact a)
   exact⟨x,a,by rw[getD_set_ne false b];exact h⟩
def Ep {listed:Array Bool} {i:Nat} (h:H6 tails listed=true):H6 tails (listed.setIfInBounds i true)=true:=by
 unfold H6 at*;rw[yB]at*;obtain⟨x,a,h⟩:=h;exact⟨x,a,getD_set_true h⟩
def eO.set (u:∀(j:Nat) (c:Oper),ops[j]? =some c->j∈tails->∀h∈heads,Reach ops j h) {listed:Array Bool} {j:Nat} (a:eO ops heads tails listed) (k:j∈Region.ready .any ops listed):eO ops heads tails (listed.setIfInBounds j true):=by
 obtain⟨_,c,o,t⟩:=mem_ready.1 k;refine⟨λs v b n e f d=>?_,λr h g=>?_⟩
 . by_cases i:s=j
   . subst i;rw[o]at b;cases b;exact getD_set_true (t e f d)
   . rw[getD_set_ne false (Ne.symm i)]at n;exact getD_set_true (a.1 s v b n e f d)
 . by_cases l:j∈tails
   . exact getD_set_true ((u j c o l h g).listed a.1 k)
   . rw[J0 l]at r;exact getD_set_true (a.2 r h g)
def OV {i:Nat} {f:Oper} {v:Value} (z:ops[i]? =some f) (F:i∈heads) (Z:i∉tails) (J:∀(j:Nat) (o:Oper) cs b,ops[j]? =some o->o.op≠ .select cs b)
 (O:∀(j:Nat) (d:Oper),ops[j]? =some d->j∈tails->∀h∈heads,Reach ops j h)
 (W:∀c a w,Q (.panic c) (a.put f.dst v) w->Q (.panic c) a w):
 ∀(g:Nat) (listed:Array Bool) (a:Act) (w:World),eO ops heads tails listed->
  (∀j d,ops[j]? =some d->j≠i->listed.getD j true=false->(∀e∈d.after,Region.binds .any e=true->e.on≠i)->f.apart ops d=true)->
  i∈Region.ready .any ops listed->YieldsIf P ops S f v a->S w->
  Ab P ops Q S tails g (listed.setIfInBounds i true) (a.put f.dst v) w->Ab P ops Q S tails (g+1) listed a w:=by
 intro g
 induction g with
 |zero=>
  intro listed a w _ _ n r k H;refine⟨λh=>(by rw[h]at n;cases n),λj hj=>?_⟩;by_cases l:j=i
  . subst l;exact r.wpOp z k ⟨.inr k,H⟩
  . have:=ready_mono hj l;rw[H.1]at this;cases this
 |succ g a5=>
  intro listed a w y E u R D H;have B:listed.getD i false=false:=GX (mem_ready.1 u).1;refine⟨λh=>(by rw[h]at u;cases u),λj hj=>?_⟩;by_cases n:j=i
  . subst n;exact R.wpOp z D ⟨.inr D,H⟩
  . obtain⟨I,d,t,X⟩:=mem_ready.1 hj;have a3:∀e∈d.after,Region.binds .any e=true->e.on≠i:=λe he hb heq=>by
     have l:=X e he hb;rw[heq]at l;rw[B]at l;cases l
    have A:j∉tails:=λA=>by
     have:=(O j d t A i F).listed y.1 hj;rw[B]at this;cases this
    have a4:H6 tails listed=false:=by
     cases M:H6 tails listed with
     |false=>rfl
     |true=>have:=y.2 M i F;rw[B]at this;cases this
    have l:=H.2 j (ready_mono hj n);have V:=wpOp_putIf t (E j d t n I a3) (λcs b=>J i f cs b z) (λcs b=>J j d cs b t) W R l;have Y:∀k r,ops[k]? =some r->k≠i->(listed.setIfInBounds j true).getD k true=false->
     (∀e∈r.after,Region.binds .any e=true->e.on≠i)->f.apart ops r=true:=λk r a0 a1 N a2=>by
     refine E k r a0 a1 ?_ a2;by_cases G:j=k
     . subst G;exact I
     . rw[getD_set_ne true G]at N;exact N
    refine wpOp_mono (λU T x=>?_) V;have s:S T:=by
     rcases x.2.1 with M|s
     . rw[J0 A,J0 Z,a4]at M;cases M
     . exact s
    refine⟨.inr s,a5 (listed.setIfInBounds j true) U T (y.set O hj) Y (ready_mono u (Ne.symm n)) x.1 s ?_⟩;rw[zO _ _ n];exact x.2.2
def DI {i:Nat} {d:Oper} {v:Value} (t:ops[i]? =some d) (U:i∉tails) (B:∀(j:Nat) (o:Oper) cs b,ops[j]? =some o->o.op≠ .select cs b)
 (N:∀c a w,Q (.panic c) (a.put d.dst v) w->Q (.panic c) a w):
 ∀(h:Nat) (listed:Array Bool) (a:Act) (w:World),
  (∀j f,ops[j]? =some f->j≠i->listed.getD j true=false->(∀e∈f.after,Region.binds .any e=true->e.on≠i)->d.apart ops f=true)->
  i∈Region.ready .any ops listed->YieldsIf P ops (λ_=>True) d v a->(H6 tails listed=true\/S w)->
  Ab P ops Q S tails h (listed.setIfInBounds i true) (a.put d.dst v) w->Ab P ops Q S tails (h+1) listed a w:=by
 intro h
 induction h with
 |zero=>
  intro listed a w _ k r n H;refine⟨λl=>(by rw[l]at k;cases k),λj hj=>?_⟩;by_cases g:j=i
  . subst g;exact r.wpOp t trivial ⟨n.imp Ep id,H⟩
  . have:=ready_mono hj g;rw[H.1]at this;cases this
 |succ h a0=>
  intro listed a w y r F O H;have X:listed.getD i false=false:=GX (mem_ready.1 r).1;refine⟨λJ=>(by rw[J]at r;cases r),λj hj=>?_⟩;by_cases g:j=i
  . subst g;exact F.wpOp t trivial ⟨O.imp Ep id,H⟩
  . obtain⟨A,f,u,R⟩:=mem_ready.1 hj;have Z:∀e∈f.after,Region.binds .any e=true->e.on≠i:=λe he hb heq=>by
     have l:=R e he hb;rw[heq]at l;rw[X]at l;cases l
    have l:=H.2 j (ready_mono hj g);have M:=wpOp_putIf u (y j f u g A Z) (λcs b=>B i d cs b t) (λcs b=>B j f cs b u) N F l;have T:∀k n,ops[k]? =some n->k≠i->(listed.setIfInBounds j true).getD k true=false->
     (∀e∈n.after,Region.binds .any e=true->e.on≠i)->d.apart ops n=true:=λk n V W E Y=>by
     refine y k n V W ?_ Y;by_cases z:j=k
     . subst z;exact A
     . rw[getD_set_ne true z]at E;exact E
    refine wpOp_mono (λI G s=>?_) M;have x:H6 tails (listed.setIfInBounds j true)=true\/S G:=by
     refine s.2.1.imp (λD=>?_) id;rw[zO _ _ (Ne.symm g),J0 U]at D;exact D
    refine⟨x,a0 (listed.setIfInBounds j true) I G T (ready_mono r (Ne.symm g)) s.1 x ?_⟩;rw[zO _ _ g];exact s.2.2
end held
def V2 {l:List Nat} {i:Nat} (h:l.contains i=false):i∉l:=by
 intro a;have:l.contains i=true:=by simpa using a
 rw[h]at this;cases this
def A0m {tails:List Nat} {listed:Array Bool} {i:Nat} (b:i<listed.size):H6 tails (listed.setIfInBounds i true)=(H6 tails listed||tails.contains i):=by
 cases a:tails.contains i with
 |false=>rw[J0 (V2 a)];simp
 |true=>
  rw[g2n];unfold H6;rw[yB];exact⟨i,by simpa using a,by simp[tI,b]⟩
def C0x {ops:Array Oper} {listed:Array Bool} {i:Nat} (h:i∈Region.ready .any ops listed):i<listed.size:=by
 have:=(mem_ready.1 h).1;rcases sD i listed.size with a|a
 . exact a
 . simp[g2m a]at this
def Cz (n:Nat):Code->Bool
 | .region _ ops _=>A1e n ops.toList
 | .seq a b=>Cz n a&&Cz n b
 | .cond _ a b=>Cz n a&&Cz n b
 | .block _ b=>Cz n b
 | .loop b=>Cz n b
 | .scope b=>Cz n b
 | .rangeFunc .. =>false
 | _=>true
def Wp (P:Program) (n:Nat) (c:Code) (Q:Exit->I2->World->Prop) (E:I2) (w:World):Prop:=
 Cz n c=true->∀a,C6 n a E->c.wp P (FR n Q) a w
inductive Fr where
 |code (c:Code)
 |blk (id:Nat)
 |ops (all rest:List Oper)
 |dops (S:World->Prop) (all:List Oper) (tails:List Nat) (p:kV) (t:Bool)
 |chk (S:World->Prop)
 |upto (I:I2->World->Prop)
def Den (P:Program) (n:Nat) (R:I2->World->Prop):List Fr->Exit->I2->World->Prop
 | [], .normal=>R
 | [], .ret=>R
 | [],_=>λ_ _=>False
 | .code c::k, .normal=>Wp P n c (Den P n R k)
 | .blk _::k, .normal=>Den P n R k .normal
 | .ops a b::k, .normal=>C5b P a (Den P n R k .normal) b
 | .dops S a b p t::k, .normal=>iC P S a b (Den P n R k .normal) p t
 | .chk S::k, .normal=>λE w=>S w/\Den P n R k .normal E w
 | .upto I:: _, .normal=>I
 | .blk id::k, .exit j=>if j=id then Den P n R k .normal else Den P n R k (.exit j)
 | _::k,e=>Den P n R k e
structure Go (P:Program) (n:Nat) (R:I2->World->Prop) (k:List Fr) (E:I2) (w:World):Prop where
 out:Den P n R k .normal E w
section rules
variable {P:Program} {n:Nat} {R:I2->World->Prop} {k:List Fr} {E:I2} {w:World}
def Vd:∀k:List Fr,R E w->Den P n R k .ret E w
 | [],h=>h
 | .code _::k,h=>Vd k h
 | .blk _::k,h=>Vd k h
 | .ops _ _::k,h=>Vd k h
 | .dops _ _ _ _ _::k,h=>Vd k h
 | .chk _::k,h=>Vd k h
 | .upto _::k,h=>Vd k h
def go_ret (h:R E w):Go P n R (.code .ret::k) E w:=⟨λ_ b a=>wp_ret ⟨E,a,Vd k h⟩⟩
def pP (a:List Nat) (E E0:I2):Prop:=∀t,a.contains t=false->E t=E0 t
def pP.refl (a:List Nat) (E:I2):pP a E E:=λ_ _=>rfl
def pP.upd {b:List Nat} {E E0:I2} {d:Nat} {v:Value} (c:b.contains d=true) (h:pP b E E0):pP b (upd E d v) E0:=λt a=>by
 rw[C5]
 . exact h t a
 . intro e;subst e;rw[c]at a;cases a
end rules
def TJ (args:List Value):I2:=λt=>(args[t]?).getD undef
def TC {P:Program} {f:FuncId} {fn:Func} {c:Code} {args:List Value} {w:World} {Φ:Value->World->Prop} (j:P.funcs[f]? =some fn) (i:fn.body=some c)
 (r:args.length<=fn.ntmps) (k:Cz fn.ntmps c=true) (R:I2->World->Prop)
 (g:∀E w (tmps:Array Value),(∀t,tmps.getD t undef=E t)->R E w->∃v,(results fn tmps).run P w= .ok v w/\Φ v w)
 (h:Go P fn.ntmps R [.code c] (TJ args) w):
 Calls P f args.toArray w λe w'=>∃v,e= .returned v/\Φ v w':=by
 refine calls_of_wp j i ?_;have l:C6 fn.ntmps {tmps:=args.toArray++Array.replicate (fn.ntmps-args.toArray.size) undef,defers:= []} (TJ args):=by
  refine⟨by simp;omega,λt=>?_,rfl⟩;unfold TJ;simp only[yS,Array.getElem?_append,wK,yQ,zM];split
  . rfl
  . rename_i n;rw[rT ω];split<;>rfl
 refine wp_mono (h.out k _ l) ?_;rintro e d w' ⟨E',b,a⟩;cases e with
 |normal=>obtain⟨v,n,o⟩:=g E' w' d.tmps b.get a;exact⟨b.defers,v,n,v,rfl,o⟩
 |ret=>obtain⟨v,n,o⟩:=g E' w' d.tmps b.get a;exact⟨b.defers,v,n,v,rfl,o⟩
 |exit n=>exact a.elim
 |goto n=>exact a.elim
 |panic c=>exact a.elim
 |outgrown=>exact a.elim
def E8 (P:Program) (E:I2) (ty:TypeId) (op:Op) (w:World) (v:Value) (w':World):Prop:=
 ∀(d:Option Tmp) (b:String) (a:Array Edge) (g:Option (Nat×Bool)),(execOp (ev E) ⟨d,op,ty,b,a,g⟩).run P w= .ok (.value v) w'
def KP (P:Program) (E:I2) (ty:TypeId) (op:Op) (w w':World):Prop:=
 ∀(d:Option Tmp) (b:String) (a:Array Edge) (g:Option (Nat×Bool)),(execOp (ev E) ⟨d,op,ty,b,a,g⟩).run P w= .ok .skip w'
def B6a (P:Program) (E:I2) (ty:TypeId) (op:Op) (w:World) (f:FuncId) (args:List Value):Prop:=
 ∀(d:Option Tmp) (b:String) (a:Array Edge) (g:Option (Nat×Bool)),(execOp (ev E) ⟨d,op,ty,b,a,g⟩).run P w= .ok (.enter f args.toArray) w
def Ret (P:Program) (f:FuncId) (args:List Value) (w:World) (Φ:Value->World->Prop):Prop:=
 Calls P f args.toArray w λe a=>∃v,e= .returned v/\Φ v a
def Ret.mono {P:Program} {f:FuncId} {args:List Value} {w:World} {Φ Φ':Value->World->Prop} (h:Ret P f args w Φ) (a:∀v w',Φ v w'->Φ' v w'):Ret P f args w Φ':=
 Calls.mono h λ_ _ ⟨v,he,hv⟩=>⟨v,he,a _ _ hv⟩
def MQ {all:List Oper} {d:Option Tmp} {op:Op} {ty:TypeId} {pos:String} {aft:Array Edge} {j t:Nat} {b:Bool} {E:I2} (a:(all[j]?).bind (·.dst)=some t) (c:E t= .bool b):D8 all ⟨d,op,ty,pos,aft,some (j,b)⟩ E=true:=by
 simp[D8,Bg,a,c]
section frames
variable {P:Program} {n:Nat} {R:I2->World->Prop} {k:List Fr} {E:I2} {w:World} {all rest:List Oper} {d:Nat} {op:Op} {ty:TypeId} {pos:String} {aft:Array Edge} {g:Option (Nat×Bool)}
variable {S:World->Prop} {i:Nat} {p:kV} {tails:List Nat} {t:Bool}
end frames
def Ig (P:Program) (t:TypeId):Bool:=match P.underlying t with|some (.struct _)=>false|some (.array _ _)=>false|some _=>true|none=>false
def pV (P:Program) (t:TypeId) (s:Nat):Bool:=
 (match P.underlying t with|some (.struct _)=>true|some (.array _ _)=>true| _=>false)&&(match P.info? t with|some i=>i.size==s|none=>false)
def Tt (P:Program) (t:TypeId) (s:Nat):Bool:=match P.info? t with|some i=>i.size==s|none=>false
def QF (P:Program) (t:TypeId) (f off:Nat):Bool:=
 match P.underlying t with
 |some (.struct a)=>(match a[f]? with|some x=>x.offset==off&&(match P.info? x.type with|some i=> !(i.size==0) |none=>false) |none=>false)
 | _=>false
def Ih (P:Program) (t e:TypeId) (s:Nat):Bool:=(match P.underlying t with|some (.slice e')=>e'==e| _=>false)&&Tt P e s
def enters (P:Program) (f:FuncId):Bool:=match P.funcs[f]? with|some fn=> !(fn.name== "runtime.NumGoroutine")&&fn.body.isSome|none=>false
def Gh (P:Program) (t:TypeId):Option Value:=(P.info? t).bind (·.zero)
section ops
variable {P:Program} {E:I2} {w:World} {ty:TypeId}
def C2o {x:Operand} :E8 P E ty (.move x) w (ev E x) w:=λ_ _ _ _=>rfl
def A4s {x:Operand} :E8 P E ty (.assign x) w (ev E x) w:=λ_ _ _ _=>rfl
def D0q {c a b:Operand} {t:Bool} (d:ev E c= .bool t):E8 P E ty (.pick c a b) w (bif t then ev E a else ev E b) w:=λ_ _ _ _=>by
 cases t<;>simp[execOp,d,asBool,go_sem]
def B5t {x:Operand} {vs:Array Value} {v:Value} {i:Nat} (b:ev E x= .tuple vs) (a:vs[i]? =some v):E8 P E ty (.extract x i) w v w:=λ_ _ _ _=>by
 simp[execOp,b,Instr.extract,a,go_sem]
def D4a {T:TypeId} {x:Operand} {b:Bool} (a:ev E x= .bool b):E8 P E ty (.unOp .not T x) w (.bool !b) w:=λ_ _ _ _=>by
 simp[execOp,a,Op.unary,go_sem]
def D3z {T:TypeId} {x:Operand} {k:IntKind} {a:Int} (b:ev E x= .int k a):E8 P E ty (.unOp .neg T x) w (.int k (k.wrap (-a))) w:=λ_ _ _ _=>by
 simp[execOp,b,Op.unary,Op.intArith,go_sem]
def A1j {op:BinOp} {T:TypeId} {x y:Operand} {k k':IntKind} {a b:Int} :(eqGuard op T x y (.int k a) (.int k' b)).run P w= .ok () w:=by
 unfold eqGuard;cases op<;>rfl
def C2m {op:BinOp} {T T':TypeId} {x y:Operand} {k k':IntKind} {a b:Int} {v:Value} (d:ev E x= .int k a) (f:ev E y= .int k' b) (h:(binOp op T (.int k a) (.int k' b)).run P w= .ok v w):E8 P E ty (.binOp op T x y T') w v w:=λ_ _ _ _=>by
 simp only[execOp,d,f];have c:=A1j (P:=P) (w:=w) (op:=op) (T:=T) (x:=x) (y:=y) (k:=k) (k':=k') (a:=a) (b:=b);simp[go_sem,c,h]
def D0n {x y:Operand} {ts:Array TypeId} {k k':IntKind} {a b:Int} (d:ev E x= .int k a) (f:ev E y= .int k' b):E8 P E ty (.call ⟨.builtin .max, #[x,y],ts⟩) w (.int k (max a b)) w:=λ_ _ _ _=>by
 have c:(if b>a then b else a)=max a b:=by by_cases h:a<b<;>simp only[gt_iff_lt,h,wN,yF]<;>omega
 simp[execOp,resolve,invoke,builtin,Builtin.max_,Builtin.max2,d,f,go_sem];exact c
def D0o {x y z:Operand} {ts:Array TypeId} {k k' d:IntKind} {a b c:Int} (f:ev E x= .int k a) (g:ev E y= .int k' b) (i:ev E z= .int d c):E8 P E ty (.call ⟨.builtin .max, #[x,y,z],ts⟩) w (.int k (max (max a b) c)) w:=λ_ _ _ _=>by
 have d:∀a b:Int,(if b>a then b else a)=max a b:=λa b=>by by_cases h:a<b<;>simp only[gt_iff_lt,h,wN,yF]<;>omega
 simp only[execOp,resolve,invoke,builtin,Builtin.max_,go_sem];simp[f,g,i,Builtin.max2,d,go_sem]
def D0p {x y:Operand} {ts:Array TypeId} {k k':IntKind} {a b:Int} (d:ev E x= .int k a) (f:ev E y= .int k' b):E8 P E ty (.call ⟨.builtin .min, #[x,y],ts⟩) w (.int k (min a b)) w:=λ_ _ _ _=>by
 have c:(if b<a then b else a)=min a b:=by by_cases h:b<a<;>simp only[h,wN,yF]<;>omega
 simp[execOp,resolve,invoke,builtin,Builtin.min_,Builtin.min2,d,f,go_sem];exact c
def D3w {x:Operand} {t e:TypeId} {s len c:Nat} {a:Option Addr} (g:ev E x= .slice a len c) (b:Ih P t e s=true):E8 P E ty (.call ⟨.builtin .len, #[x], #[t]⟩) w (.int .i64 len) w:=λ_ _ _ _=>by
 have f:P.underlying t=some (.slice e):=by
  unfold Ih at b;simp only[qC]at b;obtain⟨b,_⟩:=b;split at b
  . rename_i h d;simp at b;subst b;exact d
  . cases b
 simp[execOp,resolve,invoke,builtin,Builtin.len_,g,run_underlying f,goInt,go_sem]
end ops
def Gx {P:Program} {E:I2} {w:World} {ty:TypeId} {c:Operand} {f:FuncId} {b args:List Value} {as:List Operand} {ts:Array TypeId} (i:ev E c= .func (.func f) #[] b.toArray) (a:enters P f=true) (h:as.map (ev E)++b=args):
 B6a P E ty (.call ⟨.value c,as.toArray,ts⟩) w f args:=λ_ _ _ _=>by
 unfold enters at a;split at a
 . rename_i fn j;simp only[qC,rO]at a;have g:¬fn.body=none:=by intro hb;rw[hb]at a;simp at a
   have d:¬fn.name= "runtime.NumGoroutine" :=by simpa using a.1
   subst h;simp[execOp,resolve,i,Deferred.ofValue,invoke,callFunc,j,d,g,go_sem]
 . cases a
def D3x {P:Program} {E:I2} {w:World} {ty:TypeId} {fn:Fn} {a:List Operand} {vs:List Value} (b:a.map (ev E)=vs):E8 P E ty (.makeFunc fn #[] a.toArray) w (.func fn #[] vs.toArray) w:=λ_ _ _ _=>by
 subst b;simp[execOp,Instr.makeFunc]
def D3y {P:Program} {E:I2} {w:World} {ty:TypeId} {T T':TypeId} {x y:Operand} {a b:Bool} (g:ev E x= .bool a) (h:ev E y= .bool b) (hT:P.underlying T=some .bool):E8 P E ty (.binOp .neq T x y T') w (.bool (a !=b)) w:=λ_ _ _ _=>by
 have c:=run_equalIn_bool' (P:=P) w 9999 T a b hT;have f:(eqGuard .neq T x y (.bool a) (.bool b)).run P w= .ok () w:=rfl;have d:(binOp .neq T (.bool a) (.bool b)).run P w= .ok (.bool (a !=b)) w:=by
  show((Op.equal T (.bool a) (.bool b))>>=λr=>pure (Value.bool (!r))).run P w= _;unfold Op.equal Op.maxDepth;rw[Sem.run_bind,c];rfl
 simp only[execOp,g,h];simp[f,d]
def KN (w:World) (b:Nat) (cs:Array Value) (t:TypeId):Prop:=w.heap[b]? =some (.cells cs t (0,0))
structure R8 (w w':World):Prop extends Below w.heap.size w w' where
 drw:True
def KN.lt {w:World} {b:Nat} {cs:Array Value} {t:TypeId} (h:KN w b cs t):b<w.heap.size:=(rV.1 h).1
def KN.ext {w w':World} {b:Nat} {cs:Array Value} {t:TypeId} (h:KN w b cs t) (a:R8 w w'):KN w' b cs t:=(a.block b h.lt).trans h
def KN.cell {w:World} {b o:Nat} {cs:Array Value} {t:TypeId} {v:Value} (h:KN w b cs t) (a:cs[o]? =some v):w.cell? ⟨b,o,none⟩=some v:=by
 unfold KN at h;simp[World.cell?,h,a]
def R8.refl (w:World):R8 w w:=⟨Below.refl _ _,trivial⟩
def R8.trans {a b c:World} (h:R8 a b) (k:R8 b c):R8 a c:=⟨Below.trans h.toBelow (Below.mono k.toBelow h.size),trivial⟩
def R8.drew {a b:World} (h:R8 a b):R8 a b.drew:=⟨Below.drew h.toBelow,trivial⟩
def R8.alloc (w:World) (o:Obj):R8 w (w.alloc o):=⟨(Below.refl _ _).alloc (qV _) o,trivial⟩
section mem
variable {P:Program} {E:I2} {w:World} {ty:TypeId}
def Jm {t:TypeId} (h:Ig P t=true):(isAgg t).run P w= .ok false w:=by
 unfold Ig at h;cases a:P.underlying t with
 |none=>simp[a]at h
 |some d=>cases d<;>simp[a]at h<;>simp[isAgg,run_underlying a,go_sem]
def Rh {t:TypeId} {s:Nat} (h:pV P t s=true):(isAgg t).run P w= .ok true w/\(sizeOf t).run P w= .ok s w:=by
 unfold pV at h;simp only[qC]at h;obtain⟨d,a⟩:=h;constructor
 . cases c:P.underlying t with
   |none=>simp[c]at d
   |some f=>cases f<;>simp[c]at d<;>simp[isAgg,run_underlying c,go_sem]
 . cases b:P.info? t with
   |none=>simp[b]at a
   |some i=>simp[b]at a;simp[sizeOf,typeInfo,b,a,go_sem]
def Gt {t:TypeId} {s:Nat} (h:Tt P t s=true):(sizeOf t).run P w= .ok s w:=by
 unfold Tt at h;cases a:P.info? t with
 |none=>simp[a]at h
 |some i=>simp[a]at h;simp[sizeOf,typeInfo,a,h,go_sem]
def pI {T:TypeId} {x:Operand} {a:Addr} {v:Value} (f:ev E x= .pointer (some a)) (d:Ig P T=true) (c:w.cell? a=some v):E8 P E ty (.load T x) w v w:=λ_ _ _ _=>by
 have b:=Jm (P:=P) (w:=w) d;simp[execOp,f,Instr.loadAt,Instr.sureAddr,loadVar,b,c,go_sem]
def J4 (w:World) (a:Addr) (cs:List Value):Prop:=∀j v,cs[j]? =some v->w.cell? (a.add j)=some v
def A9a {T:TypeId} {x:Operand} {a:Addr} {cs:List Value} {s:Nat} (h:ev E x= .pointer (some a)) (b:pV P T s=true) (g:cs.length=s) (f:J4 w a cs):E8 P E ty (.load T x) w (.agg cs.toArray) w:=λ_ _ _ _=>by
 obtain⟨c,d⟩:=Rh (P:=P) (w:=w) b;have b:=run_loadCells_list (P:=P) (w:=w) a cs f;rw[g]at b;unfold loadCells at b;simp[execOp,h,Instr.loadAt,Instr.sureAddr,loadVar,c,d,b,go_sem]
def KN.cellsAt {w:World} {b:Nat} {cs:Array Value} {t:TypeId} (h:KN w b cs t):J4 w ⟨b,0,none⟩ cs.toList:=λj v a=>by
 have:(⟨b,0,none⟩:Addr).add j=⟨b,j,none⟩:=by unfold Addr.add;split<;>simp_all
 rw[this];exact h.cell (by simpa using a)
def L5 (b o n:Nat):(⟨b,o,none⟩:Addr).add n=⟨b,o+n,none⟩:=by unfold Addr.add;split<;>simp_all
def DJ {T:TypeId} {x:Operand} {b o f off:Nat} (k:ev E x= .pointer (some ⟨b,o,none⟩)) (a:QF P T f off=true):E8 P E ty (.fieldAddr T x f) w (.pointer (some ⟨b,o+off,none⟩)) w:=λ_ _ _ _=>by
 unfold QF at a;split at a
 . rename_i r j;split at a
   . rename_i g i;simp only[qC,g1u]at a;obtain⟨h,c⟩:=a;cases d:P.info? g.type with
     |none=>simp[d]at c
     |some n=>
      simp[d]at c;have l:(sizeOf g.type).run P w= .ok n.size w:=by simp[sizeOf,typeInfo,d,go_sem]
      subst h;simp[execOp,k,Instr.fieldAt,Instr.sureAddr,run_underlying j,i,fieldPlace,l,c,L5,go_sem]
   . cases a
 . cases a
def D3t {T:TypeId} {x:Operand} {v:Value} (a:ev E x=v):E8 P E ty (.box T x) w (.pointer (some ⟨w.heap.size,0,none⟩)) (w.alloc (.cells v.cells T)):=λ_ _ _ _=>by
 subst a;simp[execOp,Instr.box,newVar,newRow,go_sem]
def B1w {T:TypeId} {z:Value} (a:Gh P T=some z):E8 P E ty (.alloc T) w (.pointer (some ⟨w.heap.size,0,none⟩)) (w.alloc (.cells z.cells T)):=λ_ _ _ _=>by
 unfold Gh at a;cases b:P.info? T with
 |none=>simp[b]at a
 |some i=>
  simp[b]at a;simp[execOp,Instr.alloc,zeroValue,typeInfo,b,a,newVar,newRow,go_sem]
def Gv (w:World) (cs:Array Value) (t:TypeId):KN (w.alloc (.cells cs t)) w.heap.size cs t:=heap_alloc_new w _
def KN.alloc {w:World} {b:Nat} {cs:Array Value} {t:TypeId} (h:KN w b cs t) (o:Obj):KN (w.alloc o) b cs t:=h.ext (R8.alloc w o)
end mem
def Mc:∀u∈([]:List Value),u.oneCell'=true:=λ_ h=>by cases h
def Nf {v:Value} {l:List Value} (h:v.oneCell'=true) (t:∀u∈l,u.oneCell'=true):∀u∈v::l,u.oneCell'=true:=λu a=>by
 rcases qS.1 a with a|a
 . rw[a];exact h
 . exact t u a
section frames
variable {P:Program} {n:Nat} {R:I2->World->Prop} {k:List Fr} {E:I2} {w:World} {all rest:List Oper} {d:Nat} {ty:TypeId} {pos:String} {aft:Array Edge} {g:Option (Nat×Bool)}
end frames
section tests
variable {P:Program} {n:Nat} {R:I2->World->Prop} {k:List Fr} {E:I2} {w:World} {all rest:List Oper} {d:Nat} {ty:TypeId} {pos:String} {aft:Array Edge} {g:Option (Nat×Bool)} {op:Op} {c:Prop} [Decidable c]
variable {S:World->Prop} {i:Nat} {p:kV} {tails:List Nat} {t:Bool}
end tests
def EP (P:Program) (t:TypeId):Option (List (Nat×Nat)):=
 match P.underlying t with
 |some (.struct a)=>a.toList.mapM λf=>(P.info? f.type).map λi=>(f.offset,i.size)
 | _=>none
def bX {P:Program} {w:World} :∀(a:List Field) (b:List (Nat×Nat)),a.mapM (λf=>(P.info? f.type).map λi=>(f.offset,i.size))=some b->
 (a.mapM λf=>do pure (f.offset, <-sizeOf f.type):Sem (List (Nat×Nat))).run P w= .ok b w
 | [],b,h=>by simp at h;subst h;rfl
 |f::a,b,h=>by
  simp only[wW]at h;cases c:P.info? f.type with
  |none=>simp[c]at h
  |some i=>
   simp only[c,wA,qI,wG]at h;cases d:a.mapM (λf=>(P.info? f.type).map λi=>(f.offset,i.size))with
   |none=>rw[d]at h;simp at h
   |some j=>
    rw[d]at h;simp at h;subst h;have g:=bX (w:=w) a j d;rw[wW];simp[sizeOf,typeInfo,c,go_sem];simp[sizeOf,typeInfo,go_sem]at g;rw[g];rfl
def C6n {P:Program} {E:I2} {w:World} {ty:TypeId} {T:TypeId} {parts:List (Nat×Operand)} {z:Value} {c:List (Nat×Nat)} (cs:Array Value) (b:Gh P T=some z) (a:EP P T=some c)
 (l:Instr.fill (λi=>c[i]?) z.cells (parts.map λx=>(x.1,ev E x.2))=some cs):E8 P E ty (.build T parts.toArray) w (.agg cs) w:=λ_ _ _ _=>by
 unfold Gh at b;unfold EP at a;cases d:P.info? T with
 |none=>simp[d]at b
 |some i=>
  simp[d]at b;cases g:P.underlying T with
  |none=>simp[g]at a
  |some k=>
   cases k<;>simp[g]at a
   case struct fs=>
    have j:=bX (w:=w) fs.toList c a;have h:(fs.mapM λf=>do pure (f.offset, <-sizeOf f.type):Sem (Array (Nat×Nat))).run P w= .ok c.toArray w:=by
     rw[zD];simp at j|-;simp[j]
    simp only[execOp];unfold Instr.build;simp at h;simp[zeroValue,typeInfo,d,b,run_underlying g,h,l]
def A4t {P:Program} {E:I2} {w:World} {ty:TypeId} {T e:TypeId} {len sz:Nat} {parts:List (Nat×Operand)} {z:Value} (cs:Array Value) (a:Gh P T=some z) (hT:P.underlying T=some (.array len e)) (f:Tt P e sz=true)
 (d:Instr.fill (λi=>some (i*sz,sz)) z.cells (parts.map λx=>(x.1,ev E x.2))=some cs):E8 P E ty (.build T parts.toArray) w (.agg cs) w:=λ_ _ _ _=>by
 unfold Gh at a;have c:=Gt (P:=P) (w:=w) f;cases b:P.info? T with
 |none=>simp[b]at a
 |some i=>
  simp[b]at a;simp only[execOp];unfold Instr.build;simp[zeroValue,typeInfo,b,a,run_underlying hT,c,d]
def B6y {w w':World} (c:R8 w w') {a:Addr} {v:Value} (h:w.cell? a=some v):w'.cell? a=some v:=by
 have b:a.block<w.heap.size:=block_lt_of_cell h;rw[c.cell b];exact h
def J4.ext {w w':World} {a:Addr} {cs:List Value} (h:J4 w a cs) (c:R8 w w'):J4 w' a cs:=λj v b=>B6y c (h j v b)
def SlR {α:Type} (w:World) (sz:Nat) (f:α->List Value) (v:Value) (l:List α):Prop:=
 (∃a b,v= .slice a 0 b/\l= [])\/∃c o b,v= .slice (some ⟨c,o,none⟩) l.length b/\l.length<=b/\∀i a,l[i]? =some a->J4 w ⟨c,o+i*sz,none⟩ (f a)
def SlR.ext {α:Type} {w w':World} {sz:Nat} {f:α->List Value} {v:Value} {l:List α} (h:SlR w sz f v l) (k:R8 w w'):SlR w' sz f v l:=by
 rcases h with h| ⟨b,o,c,j,d,g⟩
 . exact .inl h
 . exact .inr ⟨b,o,c,j,d,λn a i=>(g n a i).ext k⟩
def SlR.nil {α:Type} (w:World) (sz:Nat) (f:α->List Value):SlR w sz f (.slice none 0 0) []:= .inl ⟨_,_,rfl,rfl⟩
section sl
variable {P:Program} {E:I2} {w:World} {ty:TypeId} {α:Type} {sz:Nat} {f:α->List Value} {v:Value} {l:List α}
def Ks {t e:TypeId} {s:Nat} (a:Ih P t e s=true):P.underlying t=some (.slice e)/\Tt P e s=true:=by
 unfold Ih at a;simp only[qC]at a;obtain⟨a,b⟩:=a;refine⟨?_,b⟩;split at a
 . rename_i d c;simp at a;subst a;exact c
 . cases a
def C2n {x ix:Operand} {t e:TypeId} {n:IntKind} {i:Int} {a:Addr} {len b:Nat} (k:ev E x= .slice (some a) len b) (g:ev E ix= .int n i) (h:Ih P t e sz=true) (c:0<=i) (d:i<len):E8 P E ty (.indexAddr t x ix) w (.pointer (some (a.add (i.toNat*sz)))) w:=λ_ _ _ _=>by
 obtain⟨j,l⟩:=Ks h;have f:=Gt (P:=P) (w:=w) l;simp[execOp,k,g,Instr.indexAt,asIntOf,run_underlying j,c,d,f,go_sem]
end sl
section owned
variable {w w':World} {base:Nat} {e:TypeId} {sz:Nat} {v:Value} {n:Nat} {xs:List Value}
def C5f (h:w.ownsRow base e sz v n xs) (a:R8 w w'):w'.ownsRow base e sz v n xs:=
 h.kept (row:=none) ⟨a.os,a.tape,a.output,a.size,λk b _=>a.block k b⟩ (by cases v.ownBlock<;>simp)
def KN.grown {b:Nat} {cs:Array Value} {t:TypeId} {row:Option Nat} (h:KN w b cs t) (a:w.grownBy w' row) (c:some b≠row):KN w' b cs t:=(a.block b h.lt c).trans h
def A0o {a:World} (b:R8 a w) (c:w.grownBy w' v.ownBlock) (h:w.ownsRow base e sz v n xs) (d:a.heap.size<=base) (f:w.drawn<=w'.drawn):R8 a w':=
 ⟨b.toBelow.grown c b.size (λk a=>by have:=(h.lt k a).1;omega),trivial⟩
end owned
section frames2
variable {P:Program} {n:Nat} {R:I2->World->Prop} {k:List Fr} {E:I2} {w:World} {all rest:List Oper} {d:Nat} {ty:TypeId} {pos:String} {aft:Array Edge} {g:Option (Nat×Bool)}
def pG {T e:TypeId} {sz len:Nat} {parts:List (Nat×Operand)} {z:Value} (cs:Array Value) (j:Ih P T e sz=true) (a:Gh P e=some z) (l:len*sz<=16777216)
 (f:Instr.fill (λi=>some (i*sz,sz)) ((Array.range (len*sz)).map (z.cells[· %z.cells.size]!)) (parts.map λx=>(x.1,ev E x.2))=some cs) (c:len*sz≠0):
 E8 P E ty (.buildSlice T len parts.toArray) w (.slice (some ⟨w.heap.size,0,none⟩) len len) (w.alloc (.cells cs e)):=λ_ _ _ _=>by
 obtain⟨k,h⟩:=Ks j;unfold Gh at a;have d:=Gt (P:=P) (w:=w) h;cases b:P.info? e with
 |none=>simp[b]at a
 |some i=>
  simp[b]at a;have g:¬(16777216<len*sz):=ω
  simp only[execOp];unfold Instr.buildSlice;simp[run_underlying k,d,g,c,zeroValue,typeInfo,b,a,f,newRow]
def XR (b:Nat) (w w':World):Prop:=w'.os=w.os/\w'.tape=w.tape/\(w'.output=w.output/\w.drawn<=w'.drawn)/\w'.heap.size=w.heap.size/\∀k,k≠b->w'.heap[k]? =w.heap[k]?
def KN.chg {w w':World} {b a:Nat} {cs:Array Value} {t:TypeId} (h:KN w b cs t) (c:XR a w w') (d:b≠a):KN w' b cs t:=(c.2.2.2.2 b d).trans h
def R8.chg {c w w':World} {b:Nat} (h:R8 c w) (a:XR b w w') (d:c.heap.size<=b):R8 c w':=
 ⟨⟨a.1.trans h.os,a.2.1.trans h.tape,a.2.2.1.1.trans h.output,by rw[a.2.2.2.1];exact h.size,λk c=>(a.2.2.2.2 k ω).trans (h.block k c)⟩,trivial⟩
def B6x {w w':World} {b:Nat} (c:XR b w w') {a:Addr} (d:a.block≠b):w'.cell? a=w.cell? a:=World.cell?_of_block (w:=w) (c.2.2.2.2 _ d)
def C5e {w w':World} {b c e sz n:Nat} {v:Value} {xs:List Value} (h:w.ownsRow c e sz v n xs) (a:XR b w w') (d:some b≠v.ownBlock):w'.ownsRow c e sz v n xs:=
 h.kept (row:=some b) ⟨a.1,a.2.1,a.2.2.1.1,by rw[a.2.2.2.1];exact qV _,λk _ c=>a.2.2.2.2 k (λe=>c (by rw[e]))⟩ (.inr (Ne.symm d))
def XL {T d:TypeId} {x y:Operand} {b o s:Nat} {cs:Array Value} {v:Value} (vs:List Value) (n:ev E x= .pointer (some ⟨b,o,none⟩)) (r:ev E y=v) (c:v.cells.toList=vs) (l:Tt P T s=true) (k:vs.length=s) (i:KN w b cs d) (j:o+vs.length<=cs.size) (f:∀u∈vs,u.oneCell'=true):
 KP P E ty (.store T x y) w (w.setRow b (cs.toList.take o++vs++cs.toList.drop (o+vs.length)).toArray):=λ_ _ _ _=>by
 have g:=Gt (P:=P) (w:=w) l;have a:=run_storeCells_at P b o d vs 0 cs w i (by simpa using j) f;have h:v.cells.size=s:=by rw[<-k, <-c];simp
 simp only[tS]at a;subst r;simp[execOp,n,Instr.storeAt,Instr.sureAddr,storeVar,g,h,c,a]
end frames2
section el
variable {P:Program} {E:I2} {w:World} {ty:TypeId}
def J4.get {w:World} {b o j:Nat} {cs:List Value} {v:Value} (h:J4 w ⟨b,o,none⟩ cs) (a:cs[j]? =some v):w.cell? ⟨b,o+j,none⟩=some v:=by
 have:=h j v a;rwa[L5]at this
def C3t {α:Type} {l:List α} {i:Nat} (h:i<l.length):∃a,l[i]? =some a:=⟨_,qL h⟩
def TF {α:Type} {l:List α} {i:Nat} {a:α} (h:l[i]? =some a):i<l.length:=(sQ.1 h).1
end el
section frames
variable {P:Program} {n:Nat} {R:I2->World->Prop} {k:List Fr} {E:I2} {w:World} {all rest:List Oper} {d:Nat} {ty:TypeId} {pos:String} {aft:Array Edge} {g:Option (Nat×Bool)}
end frames
def two (a b:Int):Array Value:= #[.int .i64 a, .int .i64 b]
def Zj {a:Type} (kv:a->Value) (w:World) (b:Nat) (d:List a):Prop:=
 ∃a c,w.heap[b]? =some (.map a c)/\a.toList.map (·.key)=d.map kv/\∀x∈a.toList,x.val= .bool true
def Zj.lt {a:Type} {kv:a->Value} {w:World} {b:Nat} {c:List a} (h:Zj kv w b c):b<w.heap.size:=by
 obtain⟨d,c,a,_⟩:=h;exact(rV.1 a).1
def Zj.ext {c:Type} {kv:c->Value} {w w':World} {b:Nat} {a:List c} (h:Zj kv w b a) (g:R8 w w'):Zj kv w' b a:=by
 have f:=h.lt;obtain⟨c,a,d,r⟩:=h;exact⟨c,a,(g.block b f).trans d,r⟩
def Zj.chg {d:Type} {kv:d->Value} {w w':World} {b a:Nat} {c:List d} (h:Zj kv w b c) (f:XR a w w') (g:b≠a):Zj kv w' b c:=by
 obtain⟨c,a,d,r⟩:=h;exact⟨c,a,(f.2.2.2.2 b g).trans d,r⟩
def Zj.grown {c:Type} {kv:c->Value} {w w':World} {b:Nat} {row:Option Nat} {a:List c} (h:Zj kv w b a) (f:w.grownBy w' row) (i:some b≠row):Zj kv w' b a:=by
 have g:=h.lt;obtain⟨c,a,d,r⟩:=h;exact⟨c,a,(f.block b g i).trans d,r⟩
def iv (i:Int):Value:= .int .i64 i
def sv (s:Int×Int):Value:= .agg (two s.1 s.2)
section maps
variable {P:Program} {E:I2} {w:World} {ty:TypeId} {κ:Type} {kv:κ->Value}
def B5u {t:TypeId} :E8 P E ty (.makeMap t none) w (.map (some w.heap.size)) (w.alloc (.map #[] 0)):=λ_ _ _ _=>by
 simp[execOp,Instr.makeMap]
end maps
section mframes
variable {P:Program} {n:Nat} {R:I2->World->Prop} {k:List Fr} {E:I2} {w:World} {all rest:List Oper} {d:Nat} {ty:TypeId} {pos:String} {aft:Array Edge} {g:Option (Nat×Bool)} {κ:Type}
end mframes
def pK {α:Type} (w:World) (a:Nat) (e:TypeId) (sz:Nat) (f:α->List Value) (v:Value) (l:List α):Prop:=w.ownsRow a e sz v l.length (l.flatMap f)
section own
variable {α:Type} {w w':World} {base:Nat} {e:TypeId} {sz:Nat} {f:α->List Value} {v:Value} {l:List α}
def pK.ext (h:pK w base e sz f v l) (a:R8 w w'):pK w' base e sz f v l:=C5f h a
def pK.chg {b:Nat} (h:pK w base e sz f v l) (a:XR b w w') (c:some b≠v.ownBlock):pK w' base e sz f v l:=C5e h a c
def pK.nil (w:World) (base:Nat) (e:TypeId) (sz:Nat) (f:α->List Value):pK w base e sz f (.slice none 0 0) []:=World.ownsRow_nil w base e sz
def pK.below {a:World} (h:pK w base e sz f v l) (g:R8 a w) (d:w.grownBy w' v.ownBlock) (b:a.heap.size<=base) (c:w.drawn<=w'.drawn):R8 a w':=A0o g d h b c
def pK.lit {b:Nat} {cs:Array Value} {a:α} (g:KN w b cs e) (d:cs.toList=f a) (c:(f a).length=sz) (h:base<=b):pK w base e sz f (.slice (some ⟨b,0,none⟩) 1 1) [a]:=by
 refine⟨by simp[c], .inr ⟨b,1,cs,rfl,h,g,by simp,δ,?_,?_⟩⟩
 . rw[<-sP,d,c];simp
 . rw[d];simp[c,qW]
def pK.grown {g:Type} {a b f:Nat} {c:g->List Value} {v2:Value} {d:List g} (h:pK w a b f c v2 d) (i:w.grownBy w' v.ownBlock) (j:v2.ownBlock=none\/v2.ownBlock≠v.ownBlock):pK w' a b f c v2 d:=h.kept i j
end own
section frames
variable {P:Program} {n:Nat} {R:I2->World->Prop} {k:List Fr} {E:I2} {w:World} {all rest:List Oper} {d:Nat} {ty:TypeId} {pos:String} {aft:Array Edge} {g:Option (Nat×Bool)} {α:Type} {f:α->List Value}
def Wo (off:Nat):∀(l:List Value) (j:Nat) (cs:Array Value),off+j+l.length<=cs.size->
 ((l.zipIdx j).foldl (λcs (x:Value×Nat)=>cs.setIfInBounds (off+x.2) x.1) cs).toList=cs.toList.take (off+j)++l++cs.toList.drop (off+j+l.length)
 | [],j,cs,_=>by simp
 |x::l,j,cs,h=>by
  simp only[g2f,yM];simp only[rI]at h;rw[Wo off l (j+1) _ (by simp;omega)];have a:off+j<cs.size:=ω
  have b:off+j<cs.toList.length:=by simpa using a
  simp only[Array.toList_setIfInBounds];rw[List.take_set,zI ω,(ω:off+(j+1)=(off+j)+1),List.take_succ_eq_append_getElem b];rw[g3i _ _ (by simp;omega)];simp[tF (vX a),(ω:off+j+1+l.length=off+j+(l.length+1))]
def A1m (sz:Nat):∀(vs:List Value) (k:Nat) (cs:Array Value),(∀v∈vs,v.cells.size=sz)->(k+vs.length)*sz<=cs.size->
 ∃r,Instr.fill (λi=>some (i*sz,sz)) cs ((vs.zipIdx k).map λx=>(x.2,x.1))=some r/\r.toList=cs.toList.take (k*sz)++vs.flatMap (·.cells.toList)++cs.toList.drop ((k+vs.length)*sz)/\r.size=cs.size
 | [],k,cs,_,_=>⟨cs,by simp[Instr.fill],by simp,rfl⟩
 |v::vs,k,cs,l,h=>by
  have g:v.cells.size=sz:=l v (by simp);have f:(k+(vs.length+1))*sz=k*sz+vs.length*sz+sz:=by rw[uV,uI];omega
  simp only[rI,f]at h;have A:k*sz+v.cells.size<=cs.size:=ω
  have b:=Wo (k*sz) v.cells.toList 0 cs (by simp;omega);simp only[tS]at b;generalize t:(v.cells.toList.zipIdx 0).foldl (λcs (x:Value×Nat)=>cs.setIfInBounds (k*sz+x.2) x.1) cs=d at b;have j:d.size=cs.size:=by
   have:=sA List.length b;simp only[sP,rQ,qZ,sU]at this;omega
  have a:(k+1+vs.length)*sz=k*sz+vs.length*sz+sz:=by rw[uV,uV];omega
  obtain⟨r,u,w,y⟩:=A1m sz vs (k+1) d (λx hx=>l x (by simp[hx])) (by rw[a,j];exact h);refine⟨r,?_,?_,by rw[y,j]⟩
  . simp only[g2f,sE];unfold Instr.fill;simp only[g];rw[qG (by simp;omega)];rw[<-u, <-t, <-g4l];simp
  . rw[w,b];have o:(k+1)*sz=k*sz+sz:=uI k sz;have s:(k+(vs.length+1))*sz=(k+1+vs.length)*sz:=by rw[a,f]
    have z:(cs.toList.take (k*sz)).length=k*sz:=by simp;omega
    have n:v.cells.toList.length=sz:=by simpa using g
    rw[o,yT,rI,s];have c:(cs.toList.take (k*sz)++v.cells.toList).length=k*sz+sz:=by rw[rQ,z,n]
    congr 1
    . rw[<-vA,g1a c]
    . rw[g5d,sI (by rw[c,a];omega),vJ,vZ,c,n,a];congr 1;omega
end frames
def Frs (n:Nat) (v:Value):Prop:=∀g,v.ownBlock=some g->n<=g
def SlR.chg {α:Type} {w w':World} {sz b:Nat} {f:α->List Value} {v:Value} {l:List α} (h:SlR w sz f v l) (k:XR b w w') (s:∀g,v.ownBlock=some g->g≠b):SlR w' sz f v l:=by
 rcases h with h| ⟨a,y,i,c,n,o⟩
 . exact .inl h
 . refine .inr ⟨a,y,i,c,n,λu d r x z t=>?_⟩;have j:a≠b:=s a (by rw[c];rfl);have:=o u d r x z t;rw[L5]at this|-;rw[B6x k j];exact this
def pK.frs {α:Type} {w:World} {a e sz n:Nat} {f:α->List Value} {v:Value} {l:List α} (h:pK w a e sz f v l) (b:n<=a):Frs n v:=λg a=>by have:=(World.ownsRow.lt h g a).1;omega
def gM (v v2:Value):Prop:=∀g,v.ownBlock=some g->v2.ownBlock≠some g
def gM.symm {v v2:Value} (h:gM v v2):gM v2 v:=λg a b=>h g b a
section
variable {α β:Type} {w w':World} {base e sz base2 e2 sz2:Nat} {f:α->List Value} {f2:β->List Value} {v v' v2:Value} {l:List α} {l2:List β}
def gM.append (d:gM v v2) (c:pK w base2 e2 sz2 f2 v2 l2) (h:v'.ownBlock=v.ownBlock\/v'.ownBlock=some w.heap.size):gM v' v2:=by
 intro g a b;rcases h with h|h
 . exact d g (h▸a) b
 . rw[a]at h;have:=(World.ownsRow.lt c g b).2;cases h;omega
end
inductive Pl where
 |done
 |q (i:Nat) (p:Pl)
 |p (i:Nat) (p:Pl)
 |e (i:Nat) (p:Pl)
 |or (i:Nat) (p:Pl) (q:Pl)
 |al (is js:List Nat) (p:Pl)
def Hj (all:List Oper) (i:Nat):Nat:=((all[i]?).bind (·.dst)).getD 0
def Bz (all:List Oper) (l:List Nat):List Nat:=l.map (Hj all)
def jO (all:List Oper) (i:Nat):List Nat:=match all[i]? with
 |some o=>o.op.operands.toList.filterMap λx=>match x with| .tmp t=>some t| _=>none
 |none=> []
def oD (all:List Oper) (i:Nat):Bool:=match all[i]? with
 |some o=>o.dst.isSome&&o.guard.isNone&&(match o.op with| .select _ _=>false| _=>true)
 |none=>false
def rm (i:Nat) (l:List Nat):List Nat:=l.filter λk=> !Nat.beq k i
def C5w (l a:List Nat):Bool:=l.all λx=> !a.contains x
def aU:List Nat->Bool
 | []=>true
 |x::r=> !r.contains x&&aU r
def B2d (all:List Oper) (a b:List Nat):Bool:=(a++b).all (oD all)&&aU (a++b)&&aU (Bz all (a++b))&&a.all λi=>C5w (jO all i) (Bz all (a++b))
def B2c (all:List Oper) (tails:List Nat) (b:Nat->Array Bool->Bool):Nat->List Nat->List Nat->Array Bool->Bool
 |0,ri,a,listed=>ri.isEmpty&&a.isEmpty&&b 0 listed
 |f+1,ri,a,listed=>match a.find? λj=>(Region.ready .any all.toArray listed).contains j&&Region.free .any all.toArray listed j with
  |some j=> !tails.contains j&&C5w (jO all j) (Bz all (ri++a))&&B2c all tails b f ri (rm j a) (listed.setIfInBounds j true)
  |none=>match ri with
   | []=>a.isEmpty&&b (f+1) listed
   |i0::c=>(Region.ready .any all.toArray listed==i0::c)&&(i0::c).all λi=> !tails.contains i&&B2c all tails b f (rm i (i0::c)) a (listed.setIfInBounds i true)
def Hk (all:List Oper) (f:Nat->Nat->Value) (X:Nat->Obj):List Nat->I2->World->I2×World
 | [],E,w=>(E,w)
 |i::r,E,w=>Hk all f X r (upd E (Hj all i) (f i w.heap.size)) (w.alloc (X i))
def AlV (P:Program) (all:List Oper) (a:List Nat) (F:I2):Prop:=∀j∈a,∃o,all[j]? =some o/\∀w,(execOp (ev F) o).run P w= .ok (.value (F (Hj all j))) w
structure B5z (P:Program) (R:World->World->Prop) (all:List Oper) (is js:List Nat) (f:Nat->Nat->Value) (X:Nat->Obj) (nx:I2->World->Prop) (E:I2) (w:World):Prop where
 one:∀i∈is,∃o,all[i]? =some o/\∀w',(execOp (ev E) o).run P w'= .ok (.value (f i w'.heap.size)) (w'.alloc (X i))
 rel:∀i∈is,∀w',R w w'->R w' (w'.alloc (X i))
 fin:∀l,l.Perm is->∃F,(∀x,x∉Bz all js->F x=(Hk all f X l E w).1 x)/\AlV P all js F/\nx F (Hk all f X l E w).2
def Sw (all:List Oper) (a tails:List Nat):Pl->Nat->Array Bool->Option (List Nat)->Bool
 | .done,_,listed,al=>al.isNone&&(Region.ready .any all.toArray listed).isEmpty
 | .q i p,fuel,listed,al=>match fuel with
  |0=>false
  |fuel+1=>al.isNone&&a.contains i&& !tails.contains i&&Region.free .any all.toArray listed i&&(Region.ready .any all.toArray listed).contains i&&Sw all a tails p fuel (listed.setIfInBounds i true) none
 | .p i p,fuel,listed,al=>match fuel with
  |0=>false
  |fuel+1=>al.isNone&& !tails.contains i&&Region.free .any all.toArray listed i&&(Region.ready .any all.toArray listed).contains i&&Sw all a tails p fuel (listed.setIfInBounds i true) none
 | .e i p,fuel,listed,al=>match fuel with
  |0=>false
  |fuel+1=>(al.getD (Region.ready .any all.toArray listed)== [i])&&Sw all a tails p fuel (listed.setIfInBounds i true) none
 | .or i p q,fuel,listed,al=>match fuel with
  |0=>false
  |fuel+1=>match al.getD (Region.ready .any all.toArray listed)with
   | []=>false
   |j::b=>Nat.beq i j&&Sw all a tails p fuel (listed.setIfInBounds i true) none&&Sw all a tails q (fuel+1) listed (some b)
 | .al b c p,fuel,listed,al=>al.isNone&&B2d all b c&&B2c all tails (λf l=>Sw all a tails p f l none) fuel b c listed
def C7c (all:List Oper) (a tails:List Nat) (p:Pl):Bool:=Region.noSelect all.toArray&&ET all a tails&&Sw all a tails p all.length (Array.replicate all.length false) none
def ZA (P:Program) (R:World->World->Prop) (all:List Oper) (tails:List Nat) (next:I2->World->Prop):Pl->Bool->I2->World->Prop
 | .done,_=>next
 | .q i p,t=>λE w=>∃o,all[i]? =some o/\JG P (R w) all o (ZA P R all tails next p t) E w
 | .p i p,t=>λE w=>∃o,all[i]? =some o/\JG P (λ_=>True) all o (ZA P R all tails next p t) E w
 | .e i p,t=>λE w=>∃o,all[i]? =some o/\N6 P all o (λE' a=>((t||tails.contains i)=true\/R w a)/\ZA P R all tails next p (t||tails.contains i) E' a) E w
 | .or i p q,t=>λE w=>(∃o,all[i]? =some o/\N6 P all o (λE' a=>((t||tails.contains i)=true\/R w a)/\ZA P R all tails next p (t||tails.contains i) E' a) E w)/\ZA P R all tails next q t E w
 | .al a b p,t=>λE w=>∃f X,B5z P R all a b f X (ZA P R all tails next p t) E w
section
variable {P:Program} {ops:Array Oper} {Q:Exit->Act->World->Prop} {S S':World->Prop} {tails:List Nat}
def Ky (c:∀w,S w->S' w):∀(fuel:Nat) (listed:Array Bool) (a:Act) (w:World),Ab P ops Q S tails fuel listed a w->Ab P ops Q S' tails fuel listed a w
 |0,_,_,_,h=>h
 |fuel+1,_,_,_,h=>⟨h.1,λi g=>wpOp_mono (λf d b=>⟨b.1.imp id (c d),Ky c fuel _ f d b.2⟩) (h.2 i g)⟩
def UQ:∀(fuel:Nat) (listed:Array Bool) (a:Act) (w:World),H6 tails listed=true->Ab P ops Q S tails fuel listed a w->Ab P ops Q S' tails fuel listed a w
 |0,_,_,_,_,h=>h
 |fuel+1,_,_,_,b,h=>⟨h.1,λi f=>wpOp_mono (λc g d=>⟨.inl (Ep b),UQ fuel _ c g (Ep b) d.2⟩) (h.2 i f)⟩
end
def My:∀ {l:List Nat},aU l=true->l.Nodup
 | [],_=>g0j
 |x::r,h=>by
  simp only[aU,qC,rO]at h;exact sK.2 ⟨V2 h.1,My h.2⟩
def nJ {i k:Nat} {l:List Nat} :k∈rm i l↔k∈l/\k≠i:=by
 unfold rm;rw[wZ];refine and_congr_right λ_=>⟨λh e=>by subst e;simp at h,λh=>by rw[E6 h];rfl⟩
def B1h {i:Nat} :∀ {l:List Nat},l.Nodup->i∈l->(i::rm i l).Perm l
 | [],_,h=>by cases h
 |x::r,f,h=>by
  obtain⟨b,c⟩:=sK.1 f;by_cases a:x=i
  . subst a;have:rm x (x::r)=r:=by
     unfold rm;rw[g2e,qG (by simp)];exact g1d.2 λk d=>by rw[E6 (show k≠x from λe=>b (by rw[<-e];exact d))];rfl
    rw[this]
  . have:rm i (x::r)=x::rm i r:=by
     unfold rm;rw[g2e,qN (by rw[E6 a];rfl)]
    rw[this];rcases qS.1 h with h|h
    . exact absurd h.symm a
    . exact(List.Perm.swap x i _).trans ((B1h c h).cons x)
def SI {l a:List Nat} (h:C5w l a=true):∀x∈l,x∉a:=λx a=>by
 have:=uB.1 h x a;simp only[rO]at this;exact V2 this
def AU {all:List Oper} {i:Nat} {o:Oper} (h:oD all i=true) (c:all[i]? =some o):o.dst=some (Hj all i)/\o.guard=none/\∀cs b,o.op≠ .select cs b:=by
 unfold oD at h;rw[c]at h;simp only[qC,wP]at h;refine⟨?_,h.1.2,λcs b e=>by rw[e]at h;simp at h⟩;cases a:o.dst with
 |none=>rw[a]at h;simp at h
 |some d=>simp[Hj,c,a]
def B3x {all:List Oper} {i:Nat} {o:Oper} {t:Nat} (a:all[i]? =some o) (h:Operand.tmp t∈o.op.operands):t∈jO all i:=by
 unfold jO;rw[a];exact List.mem_filterMap.2 ⟨.tmp t,by simpa using h,rfl⟩
def QD {all:List Oper} {i:Nat} {o:Oper} {E E':I2} (a:all[i]? =some o) (c:∀cs b,o.op≠ .select cs b) (h:∀t∈jO all i,E t=E' t):execOp (ev E) o=execOp (ev E') o:=
 execOp_congr o c λx d=>by
  cases x with
  |tmp t=>exact h t (B3x a d)
  | _=>rfl
def BA {all:List Oper} {f:Nat->Nat->Value} {X:Nat->Obj} :∀(a b:List Nat) (E:I2) (w:World),Hk all f X (a++b) E w=Hk all f X b (Hk all f X a E w).1 (Hk all f X a E w).2
 | [],_,_,_=>rfl
 |i::a,b,E,w=>BA a b _ _
def Jl {all:List Oper} {f:Nat->Nat->Value} {X:Nat->Obj} {x:Nat} :∀(l:List Nat) (E:I2) (w:World),x∉Bz all l->(Hk all f X l E w).1 x=E x
 | [],_,_,_=>rfl
 |i::l,E,w,h=>by
  simp only[Bz,sE,qS,g5r]at h;simp only[Hk];rw[Jl l _ _ h.2,C5 _ _ _ _ h.1]
def K4 {all:List Oper} {l:List Nat} {x:Nat} :x∈Bz all l↔∃i∈l,Hj all i=x:=by simp[Bz]
def mI {all:List Oper} :∀ {l:List Nat},(Bz all l).Nodup->∀ {i k:Nat},i∈l->k∈l->i≠k->Hj all i≠Hj all k
 | [],_,_,_,h,_,_=>by cases h
 |x::r,c,i,k,hi,a,d=>by
  simp only[Bz,sE]at c;obtain⟨b,f⟩:=sK.1 c;rcases qS.1 hi with hi|hi<;>rcases qS.1 a with a|a
  . exact absurd (hi.trans a.symm) d
  . rw[hi];exact λe=>b (K4.2 ⟨k,a,e.symm⟩)
  . rw[a];exact λe=>b (K4.2 ⟨i,hi,e⟩)
  . exact mI f hi a d
def C7n {P:Program} {R:World->World->Prop} (bq:∀w,R w w) (b2:∀ {a b c},R a b->R b c->R a c) {n:Nat} {all:List Oper} {a4 tails O s:List Nat} (av:A1e n all=true) (bs:Region.noSelect all.toArray=true) (bw:ET all a4 tails=true) {Q:Exit->Act->World->Prop} (bg:∀(c:List PanicEntry) (a a1:Act) (w:World),Q (.panic c) a1 w->Q (.panic c) a w)
 {ap:Nat->Array Bool->Bool} {b8:I2->World->Prop} {t:Bool} {f:Nat->Nat->Value} {X:Nat->Obj} {E:I2} {w:World} (b1:B2d all O s=true) (a0:B5z P R all O s f X b8 E w)
 (bk:∀(l:Nat) (listed:Array Bool) (a:Act) (E':I2) (w':World),ap l listed=true->eO all.toArray a4 tails listed->t=H6 tails listed->C6 n a E'->b8 E' w'->Ab P all.toArray Q (R w') tails l listed a w'):
 ∀(l:Nat) (ri I:List Nat) (listed:Array Bool),B2c all tails ap l ri I listed=true->eO all.toArray a4 tails listed->t=H6 tails listed->∀(a:Act) (Ec:I2) (g:List Nat),C6 n a Ec->(g++ri).Perm O->(∀j∈I,j∈s)->
  (∀r,r.Perm ri->∀F,(∀x,x∉Bz all s->F x=(Hk all f X (g++r) E w).1 x)->AlV P all s F->∀x,x∉Bz all (ri++I)->F x=Ec x)->R w (Hk all f X g E w).2->
  Ab P all.toArray Q (R (Hk all f X g E w).2) tails l listed a (Hk all f X g E w).2:=by
 simp only[B2d,qC,uB]at b1;obtain⟨⟨⟨ba,a7⟩,a8⟩,bz⟩:=b1;have a7:=My a7;have a8:=My a8;have b3:=BJ bw;have fin:∀(l:Nat) (listed:Array Bool),ap l listed=true->eO all.toArray a4 tails listed->t=H6 tails listed->∀(a:Act) (Ec:I2) (g:List Nat),C6 n a Ec->(g++ []).Perm O->(∀r,r.Perm []->∀F,(∀x,x∉Bz all s->F x=(Hk all f X (g++r) E w).1 x)->AlV P all s F->∀x,x∉Bz all ([]++ [])->F x=Ec x)->Ab P all.toArray Q (R (Hk all f X g E w).2) tails l listed a (Hk all f X g E w).2:=by
  intro l listed z o D a Ec g B A y;obtain⟨F,h,i,k⟩:=a0.fin g (by simpa using A);have:F=Ec:=funext λx=>y [] (wV _) F (by simpa using h) i x (by simp[Bz])
  subst this;exact bk l listed a F _ z o D B k
 intro l
 induction l with
 |zero=>
  intro ri I listed h i z a Ec g y o _ k _;simp only[B2c,qC,g5f]at h;obtain⟨⟨rfl,rfl⟩,h⟩:=h;exact fin 0 listed h i z a Ec g y o k
 |succ l b7=>
  intro ri I listed z W ah a Ec g Z A T Y a9;simp only[B2c]at z;split at z
  . rename_i j ar;simp only[qC,rO]at z;obtain⟨⟨an,ao⟩,bx⟩:=z;have ad:j∈I:=List.mem_of_find?_eq_some ar;have ae:=List.find?_some ar;simp only[qC]at ae;have ay:j∈Region.ready .any all.toArray listed:=by simpa using ae.1
    have a5:=V2 an;have bu:=SI ao;obtain⟨F0,a2,a3,_⟩:=a0.fin (g++ri) A;obtain⟨G,D,a6⟩:=a3 j (T j ad);obtain⟨aa,ac,af⟩:=AU (ba j (tT _ (T j ad))) D;have aw:all.toArray[j]? =some G:=by simpa using D
    have bb:∀r,r.Perm ri->∀F,(∀x,x∉Bz all s->F x=(Hk all f X (g++r) E w).1 x)->AlV P all s F->execOp (ev F) G=execOp (ev Ec) G:=λr N F H J=>QD D af λu hu=>Y r N F H J u (bu u hu)
    have aq:=bb ri (wV _) F0 a2 a3;have ai:t=H6 tails (listed.setIfInBounds j true):=by rw[J0 a5];exact ah
    have aj:D8 all G Ec=true:=by simp[D8,ac]
    refine DI (v:=F0 (Hj all j)) aw a5 (Region.noSelect_spec bs) (λc a w B=>bg c a _ w B) l listed a _ (Region.free_spec aw ae.2) ay (.inl ⟨by rw[Z.wanted];exact aj,λw' _=>by rw[Z.ev, <-aq];exact a6 w'⟩) (.inr (bq _)) ?_;refine b7 ri (rm j I) _ bx (W.set b3 ay) ai _ (upd Ec (Hj all j) (F0 (Hj all j))) g ?_ A (λk h=>T k (nJ.1 h).1) (λr N F H J x U=>?_) a9
    . have:=Z.put G.dst (F0 (Hj all j)) λd W=>by
       have:=uB.1 av G (tA D);simpa[W]using this
      rw[aa]at this|-;exact this
    . by_cases am:x=Hj all j
      . subst am;rw[C0];obtain⟨c0,ax,bv⟩:=J j (T j ad);rw[D]at ax;cases ax;have V:=bv w;rw[bb r N F H J, <-aq,a6 w]at V;simp only[Result.ok.injEq,Next.value.injEq,vY]at V;exact V.symm
      . rw[C5 _ _ _ _ am];refine Y r N F H J x λo=>U ?_
        obtain⟨i,y,e⟩:=K4.1 o;refine K4.2 ⟨i,?_,e⟩;rcases rB.1 y with y|y
        . exact sW _ y
        . exact tT _ (nJ.2 ⟨y,λB=>am (by rw[<-e,B])⟩)
  . split at z
    . simp only[qC,g5f]at z;obtain⟨rfl,z⟩:=z;exact fin _ listed z W ah a Ec g Z A Y
    . rename_i b6 b9;have bn:b6::b9≠ []:=by simp
      generalize b6::b9=ri at*;simp only[qC,uB,g1u,rO]at z;obtain⟨az,bh⟩:=z;unfold Ab;refine⟨λbc=>absurd (az.symm.trans bc) bn,λi y=>?_⟩;have bl:=y;rw[az]at y;obtain⟨an,ao⟩:=bh i y;have a5:=V2 an;have M:i∈O:=A.subset (tT _ y);have bm:(g++ri).Nodup:=A.nodup_iff.2 (tV.1 a7).1;obtain⟨G,D,a6⟩:=a0.one i M;obtain⟨aa,ac,af⟩:=AU (ba i (sW _ M)) D;obtain⟨F0,a2,a3,_⟩:=a0.fin (g++ri) A;have bf:∀x,x∉Bz all (O++s)->Ec x=E x:=λx U=>by
       have b4:x∉Bz all O:=λo=>U (by obtain⟨k,h,e⟩:=K4.1 o;exact K4.2 ⟨k,sW _ h,e⟩)
       have b5:x∉Bz all s:=λo=>U (by obtain⟨k,h,e⟩:=K4.1 o;exact K4.2 ⟨k,tT _ h,e⟩)
       have V:=Y ri (wV _) F0 a2 a3 x λo=>by
        obtain⟨k,h,e⟩:=K4.1 o;rcases rB.1 h with h|h
        . exact b4 (K4.2 ⟨k,A.subset (tT _ h),e⟩)
        . exact b5 (K4.2 ⟨k,T k h,e⟩)
       rw[<-V,a2 x b5];exact Jl _ _ _ λo=>by
        obtain⟨k,h,e⟩:=K4.1 o;exact b4 (K4.2 ⟨k,A.subset h,e⟩)
      have bj:=QD (E:=Ec) (E':=E) D af λu hu=>bf u (SI (bz i M) u hu)
      have ai:t=H6 tails (listed.setIfInBounds i true):=by rw[J0 a5];exact ah
      have aj:D8 all G Ec=true:=by simp[D8,ac]
      have bt:N6 P all G (λE' w'=>E'=upd Ec (Hj all i) (f i (Hk all f X g E w).2.heap.size)/\w'=(Hk all f X g E w).2.alloc (X i)) Ec (Hk all f X g E w).2:=by
       unfold N6;rw[qN aj,bj,a6,aa];exact⟨rfl,rfl⟩
      have ag:=a0.rel i M _ a9;refine JM av D (λa1 E' w' bp B=>?_) Z bt;obtain⟨rfl,rfl⟩:=B;refine⟨.inr ag,?_⟩;have ab:Hk all f X (g++ [i]) E w=(upd (Hk all f X g E w).1 (Hj all i) (f i (Hk all f X g E w).2.heap.size),(Hk all f X g E w).2.alloc (X i)):=by rw[BA];rfl
      have b0:=B1h (tV.1 bm).2.1 y;have:=b7 (rm i ri) I _ ao (W.set b3 bl) ai a1 _ (g++ [i]) bp (by
       rw[vA];exact(g3g g b0).trans A) T (λr N F H J x U=>?_) (by rw[ab];exact b2 a9 ag)
      . rw[ab]at this;exact Ky (λc2 be=>b2 ag be) l _ a1 _ this
      . have bi:(i::r).Perm ri:=(N.cons i).trans b0;rw[vA]at H;by_cases ak:x=Hj all i
        . subst ak;have bo:Hj all i∉Bz all s:=λo=>by
           obtain⟨k,h,e⟩:=K4.1 o;exact mI a8 (tT _ h) (sW _ M) (λB=>by
            subst B;exact(tV.1 a7).2.2 k M k h rfl) e
          rw[H _ bo,C0,show g++([i]++r)=(g++ [i])++r from(vA _ _ _).symm,BA,ab];refine(Jl _ _ _ λo=>?_).trans (C0 _ _ _);obtain⟨k,h,e⟩:=K4.1 o;have au:=nJ.1 (N.subset h);exact mI a8 (sW _ (A.subset (tT _ au.1))) (sW _ M) au.2 e
        . rw[C5 _ _ _ _ ak];refine Y (i::r) bi F H J x λo=>U ?_
          obtain⟨k,h,e⟩:=K4.1 o;refine K4.2 ⟨k,?_,e⟩;rcases rB.1 h with h|h
          . exact sW _ (nJ.2 ⟨h,λB=>ak (by rw[<-e,B])⟩)
          . exact tT _ h
def B7m {P:Program} {R:World->World->Prop} (N:∀w,R w w) (a8:∀ {a b c},R a b->R b c->R a c) {n:Nat} {all:List Oper} {J tails:List Nat} (a1:A1e n all=true) (U:Region.noSelect all.toArray=true) (I:ET all J tails=true) {Q:Exit->I2->World->Prop} (aa:∀c E w,¬Q (.panic c) E w):
 ∀(p:Pl) (f:Nat) (listed:Array Bool) (al:Option (List Nat)),Sw all J tails p f listed al=true->eO all.toArray J tails listed->∀(t:Bool),t=H6 tails listed->∀(a:Act) (E:I2) (w:World),C6 n a E->(∀l,al=some l->∀i∈l,i∈Region.ready .any all.toArray listed)->ZA P R all tails (Q .normal) p t E w->
  match al with
  |none=>Ab P all.toArray (FR n Q) (R w) tails f listed a w
  |some l=>∃D,f=D+1/\∀i∈l,wpOp P all.toArray (FR n Q) i (λu o=>(H6 tails (listed.setIfInBounds i true)=true\/R w o)/\Ab P all.toArray (FR n Q) (R w) tails D (listed.setIfInBounds i true) u o) a w:=by
 have T:∀(c:List PanicEntry) (a u:Act) (w:World),FR n Q (.panic c) u w->FR n Q (.panic c) a w:=λc a u w ⟨E,_,h⟩=>(aa c E w h).elim
 have V:∀(i:Nat) (y:Oper),all[i]? =some y->∀d,y.dst=some d->d<n:=λi y B d s=>by
  have:=uB.1 a1 y (tA B);simpa[s]using this
 have M:=BJ I;have one:∀(i:Nat) (p:Pl) (f:Nat) (listed:Array Bool) (t:Bool) (a:Act) (E:I2) (w:World),(∀(f:Nat) (listed:Array Bool) (al:Option (List Nat)),Sw all J tails p f listed al=true->eO all.toArray J tails listed->∀(t:Bool),t=H6 tails listed->∀(a:Act) (E:I2) (w:World),C6 n a E->(∀l,al=some l->∀i∈l,i∈Region.ready .any all.toArray listed)->ZA P R all tails (Q .normal) p t E w->
  match al with
  |none=>Ab P all.toArray (FR n Q) (R w) tails f listed a w
  |some l=>∃D,f=D+1/\∀i∈l,wpOp P all.toArray (FR n Q) i (λu o=>(H6 tails (listed.setIfInBounds i true)=true\/R w o)/\Ab P all.toArray (FR n Q) (R w) tails D (listed.setIfInBounds i true) u o) a w)->
  Sw all J tails p f (listed.setIfInBounds i true) none=true->eO all.toArray J tails listed->t=H6 tails listed->C6 n a E->i∈Region.ready .any all.toArray listed->(∃y,all[i]? =some y/\N6 P all y (λE' o=>((t||tails.contains i)=true\/R w o)/\ZA P R all tails (Q .normal) p (t||tails.contains i) E' o) E w)->
  wpOp P all.toArray (FR n Q) i (λu o=>(H6 tails (listed.setIfInBounds i true)=true\/R w o)/\Ab P all.toArray (FR n Q) (R w) tails f (listed.setIfInBounds i true) u o) a w:=by
  intro i p f listed t a E w A g s z k Z ⟨y,B,h⟩;have H:(t||tails.contains i)=H6 tails (listed.setIfInBounds i true):=by rw[A0m (C0x Z),z]
  refine JM a1 B (λu E' o a2 j=>⟨H▸j.1,?_⟩) k h;have:=A f _ none g (s.set M Z) _ H u E' o a2 (λ_ j=>by cases j) j.2;simp only at this;rcases j.1 with a0|a0
  . exact UQ f _ u o (H▸a0) this
  . exact Ky (λah O=>a8 a0 O) f _ u o this
 intro p
 induction p with
 |done=>
  intro f listed al g _ t _ a E w k _ h;simp only[Sw,qC,wP]at g;obtain⟨rfl,g⟩:=g;have D:Region.ready .any all.toArray listed= []:=by simpa using g
  cases f with
  |zero=>exact⟨D,E,k,h⟩
  |succ f=>exact⟨λ_=>⟨E,k,h⟩,by rw[D];simp⟩
 |q i p A=>
  intro f listed al g s t z a E w k _ h;cases f with
  |zero=>simp[Sw]at g
  |succ f=>
   simp only[Sw,qC,rO,wP]at g;obtain⟨⟨⟨⟨⟨rfl,Y⟩,G⟩,a3⟩,D⟩,g⟩:=g;have Y:i∈J:=by simpa using Y
   have G:=V2 G;have D:i∈Region.ready .any all.toArray listed:=by simpa using D
   obtain⟨y,B,h⟩:=h;have W:all.toArray[i]? =some y:=by simpa using B
   have H:t=H6 tails (listed.setIfInBounds i true):=by rw[J0 G];exact z
   rcases h with⟨I,v,a5,h⟩ | ⟨I,h⟩
   . refine OV (v:=v) W Y G (Region.noSelect_spec U) M (λc a w j=>T c a _ w j) f listed a w s (Region.free_spec W a3) D (.inl ⟨by rw[k.wanted];exact I,λo a4=>by rw[k.ev];exact a5 o a4⟩) (N w) ?_;exact A f _ none g (s.set M D) t H _ _ w (k.put _ _ (V i y B)) (λ_ j=>by cases j) h
   . refine OV (v:=undef) W Y G (Region.noSelect_spec U) M (λc a w j=>T c a _ w j) f listed a w s (Region.free_spec W a3) D (.inr ⟨by rw[k.wanted];exact I,rfl⟩) (N w) ?_;exact A f _ none g (s.set M D) t H _ _ w (k.put _ _ (V i y B)) (λ_ j=>by cases j) h
 |p i p A=>
  intro f listed al g s t z a E w k _ h;cases f with
  |zero=>simp[Sw]at g
  |succ f=>
   simp only[Sw,qC,rO,wP]at g;obtain⟨⟨⟨⟨rfl,G⟩,Y⟩,D⟩,g⟩:=g;have G:=V2 G;have D:i∈Region.ready .any all.toArray listed:=by simpa using D
   obtain⟨y,B,h⟩:=h;have W:all.toArray[i]? =some y:=by simpa using B
   have H:t=H6 tails (listed.setIfInBounds i true):=by rw[J0 G];exact z
   rcases h with⟨I,v,a4,h⟩ | ⟨I,h⟩
   . refine DI (v:=v) W G (Region.noSelect_spec U) (λc a w j=>T c a _ w j) f listed a w (Region.free_spec W Y) D (.inl ⟨by rw[k.wanted];exact I,λo a3=>by rw[k.ev];exact a4 o a3⟩) (.inr (N w)) ?_;exact A f _ none g (s.set M D) t H _ _ w (k.put _ _ (V i y B)) (λ_ j=>by cases j) h
   . refine DI (v:=undef) W G (Region.noSelect_spec U) (λc a w j=>T c a _ w j) f listed a w (Region.free_spec W Y) D (.inr ⟨by rw[k.wanted];exact I,rfl⟩) (.inr (N w)) ?_;exact A f _ none g (s.set M D) t H _ _ w (k.put _ _ (V i y B)) (λ_ j=>by cases j) h
 |e i p A=>
  intro f listed al g s t z a E w k a3 h;cases f with
  |zero=>simp[Sw]at g
  |succ f=>
   simp only[Sw,qC,g1u]at g;obtain⟨D,g⟩:=g;cases al with
   |none=>
    simp only[g2l]at D;have Z:i∈Region.ready .any all.toArray listed:=by rw[D];simp
    refine⟨λG=>by rw[D]at G;simp at G,?_⟩;intro Y W;obtain rfl:Y=i:=by rw[D]at W;simpa using W
    exact one Y p f listed t a E w A g s z k Z h
   |some l=>
    simp only[wH]at D;subst D;refine⟨f,rfl,λG W=>?_⟩;obtain rfl:G=i:=by simpa using W
    exact one G p f listed t a E w A g s z k (a3 _ rfl G (by simp)) h
 |or i p q ae af=>
  intro f listed al g s t z a E w k ab h;cases f with
  |zero=>simp[Sw]at g
  |succ f=>
   simp only[Sw]at g;cases D:al.getD (Region.ready .any all.toArray listed)with
   |nil=>rw[D]at g;simp at g
   |cons ag a3=>
    rw[D]at g;simp only[qC]at g;obtain⟨⟨Y,ac⟩,ad⟩:=g;have Y:=qE Y;subst Y;have a7:∀m∈i::a3,m∈Region.ready .any all.toArray listed:=λm G=>by
     cases al with
     |none=>rw[g2l]at D;rw[D];exact G
     |some l=>rw[wH]at D;exact ab l rfl m (by rw[D];exact G)
    have a9:=one i p f listed t a E w ae ac s z k (a7 i (by simp)) h.1;have O:=af (f+1) listed (some a3) ad s t z a E w k (λl j m G=>by cases j;exact a7 m (by simp[G])) h.2;obtain⟨W,a6,O⟩:=O;have a6:W=f:=ω
    subst a6;have a5:∀m∈i::a3,wpOp P all.toArray (FR n Q) m (λu o=>(H6 tails (listed.setIfInBounds m true)=true\/R w o)/\Ab P all.toArray (FR n Q) (R w) tails W (listed.setIfInBounds m true) u o) a w:=λm G=>by
     rcases qS.1 G with rfl|G
     . exact a9
     . exact O m G
    cases al with
    |none=>
     rw[g2l]at D;exact⟨λa4=>by rw[D]at a4;simp at a4,λm G=>a5 m (by rw[D]at G;exact G)⟩
    |some l=>
     rw[wH]at D;subst D;exact⟨W,rfl,a5⟩
 |al ac a3 p A=>
  intro f listed al g s t z a E w k _ h;simp only[Sw,qC,wP]at g;obtain⟨⟨rfl,a9⟩,g⟩:=g;obtain⟨ae,X,a7⟩:=h;refine C7n N a8 a1 U I T (t:=t) a9 a7 (λa4 ad u E' o a6 a5 H a2 D=>A a4 ad none a6 a5 t H u E' o a2 (λ_ j=>by cases j) D) f ac a3 listed g s z a E [] k (wV _) (λ_ j=>j) (λr hrp F g1 g2 x D=>?_) (N w);have ab:x∉Bz all a3:=λW=>D (by obtain⟨Y,G,e⟩:=K4.1 W;exact K4.2 ⟨Y,tT _ G,e⟩)
  rw[g1 x ab,vJ];exact Jl _ _ _ λW=>D (by obtain⟨Y,G,e⟩:=K4.1 W;exact K4.2 ⟨Y,sW _ (hrp.subset G),e⟩)
end Go.Gw
namespace Go.Vc
open Go Go.RowKit Go.Gw
open Go.IntKind (i64)
inductive Ty where
 |int (k:IntKind)
 |bool
 |str
 |unit
 |pair (a b:Ty)
 |sl (t:Ty)
 |ptr (t:Ty)
 |mp (ka:Bool) (kt:Ty) (va:Bool) (vt:Ty)
 deriving DecidableEq
@[reducible] def Ty.den:Ty->Type
 | .int _=>Int
 | .bool=>Bool
 | .str=>ByteArray
 | .unit=>Unit
 | .pair a b=>a.den×b.den
 | .sl t=>List t.den
 | .ptr t=>t.den
 | .mp _ a _ b=>List (a.den×b.den)
def Ty.size:Ty->Nat
 | .unit=>0
 | .pair a b=>a.size+b.size
 | _=>1
def Ty.dflt:(t:Ty)->t.den
 | .int _=>(0:Int)
 | .bool=>false
 | .str=>⟨#[]⟩
 | .unit=>()
 | .pair a b=>(a.dflt,b.dflt)
 | .sl _=> []
 | .ptr t=>t.dflt
 | .mp _ _ _ _=> []
def LU (k:IntKind) (n:Int):Prop:=k.min<=n/\n<=k.max
def Ty.wf:(t:Ty)->t.den->Prop
 | .int k,n=>LU k n
 | .bool,_=>True
 | .str,_=>True
 | .unit,_=>True
 | .pair a b,x=>a.wf x.1/\b.wf x.2
 | .sl t,l=>l.length<=9223372036854775807/\∀x∈l,t.wf x
 | .ptr t,x=>t.wf x
 | .mp _ a _ b,l=>∀x∈l,a.wf x.1/\b.wf x.2
def G3 {α:Type} (R:List Value->α->Prop):List Value->List α->Prop
 |a,[]=>a= []
 |b,x::l=>∃c1 a,b=c1++a/\R c1 x/\G3 R a l
def U9 {α:Type} (R:List Value->α->Prop):Bool->Value->α->Prop
 |true,v,x=>∃a:List Value,v= .agg a.toArray/\R a x
 |false,v,x=>R [v] x
def MOk (a:Array MapEntry) (b:Nat):Prop:=(∀x∈a.toList,x.born<b)/\(a.toList.map (·.born)).Nodup
def U2 {a b:Type} (Rk:Value->a->Prop) (Rv:Value->b->Prop):List MapEntry->List (a×b)->Prop
 |a,[]=>a= []
 |b,x::l=>∃e a,b=e::a/\Rk e.key x.1/\Rv e.val x.2/\U2 Rk Rv a l
def C6:(t:Ty)->World->(Nat->Prop)->List Value->t.den->Prop
 | .int k,_,_,a,n=>a= [.int k n]/\LU k n
 | .bool,_,_,a,b=>a= [.bool b]
 | .str,_,_,a,s=>a= [.string s]
 | .unit,_,_,a,_=>a= []
 | .pair b c,w,Z,d,x=>∃c1 a,d=c1++a/\C6 b w Z c1 x.1/\C6 c w Z a x.2
 | .sl t,w,Z,f,l=>∃b a,f= [.slice b l.length a]/\l.length<=a/\a<=maxLen/\(b=none->a=0)/\(l= []\/∃c o d,b=some ⟨c,o,none⟩/\Z c/\J4 w ⟨c,o,none⟩ d/\G3 (C6 t w Z) d l)
 | .ptr t,w,Z,c,x=>∃b o a,c= [.pointer (some ⟨b,o,none⟩)]/\Z b/\J4 w ⟨b,o,none⟩ a/\C6 t w Z a x
 | .mp f g h i,w,Z,d,l=>(d= [.map none]/\l= [])\/∃b a c,d= [.map (some b)]/\Z b/\w.heap[b]? =some (.map a c)/\MOk a c/\U2 (U9 (C6 g w Z) f) (U9 (C6 i w Z) h) a.toList l
def U9.mono {α:Type} {R R':List Value->α->Prop} (h:∀c x,R c x->R' c x):∀ {a:Bool} {v:Value} {x:α},U9 R a v x->U9 R' a v x
 |true,_,_,⟨b,e,d⟩=>⟨b,e,h _ _ d⟩
 |false,_,_,b=>h _ _ b
def U2.mono {b d:Type} {Rk Rk':Value->b->Prop} {Rv Rv':Value->d->Prop} (h:∀c x,Rk c x->Rk' c x) (a:∀c x,Rv c x->Rv' c x):∀ {l:List (b×d)} {es:List MapEntry},U2 Rk Rv es l->U2 Rk' Rv' es l
 | [],_,b=>b
 | _:: _,_,⟨e,b,i,d,f,g⟩=>⟨e,b,i,h _ _ d,a _ _ f,U2.mono h a g⟩
def U2.mem {b c:Type} {Rk:Value->b->Prop} {Rv:Value->c->Prop} :∀ {l:List (b×c)} {es:List MapEntry} {x:b×c},U2 Rk Rv es l->x∈l->∃e∈es,Rk e.key x.1/\Rv e.val x.2
 |y::l,_,x,⟨e,n,j,f,g,i⟩,a=>by
  rw[j];rcases qS.1 a with rfl|a
  . exact⟨e,by simp,f,g⟩
  . obtain⟨d,k,h⟩:=U2.mem i a;exact⟨d,by simp[k],h⟩
section each
variable {α:Type} {R R':List Value->α->Prop}
def G3.mono (h:∀c x,R c x->R' c x):∀ {l:List α} {cs:List Value},G3 R cs l->G3 R' cs l
 | [],_,a=>a
 | _:: _,_,⟨c1,a,e,b,d⟩=>⟨c1,a,e,h _ _ b,G3.mono h d⟩
def G3.append:∀ {l a:List α} {cs cs':List Value},G3 R cs l->G3 R cs' a->G3 R (cs++cs') (l++a)
 | [],_,cs,cs',h,b=>by cases h;simpa using b
 | _:: _,_,_,cs',⟨c1,b,e,d,f⟩,c=>⟨c1,b++cs',by simp[e],d,G3.append f c⟩
def G3.length {s:Nat} (a:∀c x,R c x->c.length=s):∀ {l:List α} {cs:List Value},G3 R cs l->cs.length=l.length*s
 | [],_,h=>by cases h;simp
 | _::l,_,⟨c1,f,e,b,d⟩=>by
  have:=G3.length a d;rw[e,rQ,a _ _ b,this,rI,uI];omega
def G3.get {s:Nat} (f:∀c x,R c x->c.length=s):∀ {l:List α} {cs:List Value} {i:Nat} {x:α},G3 R cs l->l[i]? =some x->R ((cs.drop (i*s)).take s) x
 | [],_,_,_,_,a=>by simp at a
 |y::l,_,i,x,⟨c1,h,e,b,g⟩,a=>by
  have d:=f _ _ b;cases i with
  |zero=>
   simp at a;subst a;rw[e,xX,uL,g1a d];exact b
  |succ i=>
   simp at a;have:=G3.get f g a;rw[e,uI,vV, <-vZ,zU d];exact this
def G3.set {s:Nat} (g:∀c x,R c x->c.length=s):∀ {l:List α} {cs:List Value} {i:Nat} {x:α} {c:List Value},G3 R cs l->R c x->i<l.length->G3 R (cs.take (i*s)++c++cs.drop (i*s+s)) (l.set i x)
 | [],_,_,_,_,_,_,a=>by simp at a
 |y::l,_,i,x,c,⟨c1,h,e,b,d⟩,f,k=>by
  have a:=g _ _ b;cases i with
  |zero=>
   refine⟨c,h,?_,f,d⟩;rw[e,xX,sG,g0l,vJ,zU a]
  |succ i=>
   have n:i<l.length:=by simpa using k
   refine⟨c1,_,?_,b,G3.set g d f n⟩;have j:(i+1)*s=s+i*s:=by rw[uI,vV]
   rw[e,j,g0q,qW ω,a,g2g,g5d,sI ω,a];simp[(ω:s+i*s+s-s=i*s+s)]
def G3.take {s:Nat} (b:∀c x,R c x->c.length=s):∀ {l:List α} {cs:List Value} (n:Nat),G3 R cs l->G3 R (cs.take (n*s)) (l.take n)
 | [],_,n,h=>by cases h;simp;rfl
 | _::l,_,n,⟨c1,g,e,a,d⟩=>by
  have f:=b _ _ a;cases n with
  |zero=>simp;rfl
  |succ n=>
   refine⟨c1,_,?_,a,G3.take b n d⟩;rw[e,show(n+1)*s=s+n*s from by rw[uI,vV],g0q,qW ω,f,g2g]
def G3.drop {s:Nat} (d:∀c x,R c x->c.length=s):∀ {l:List α} {cs:List Value} (n:Nat),G3 R cs l->G3 R (cs.drop (n*s)) (l.drop n)
 | [],_,n,h=>by cases h;simp;rfl
 | _::l,_,n,⟨c1,f,e,a,b⟩=>by
  have g:=d _ _ a;cases n with
  |zero=>simp;exact⟨c1,f,e,a,b⟩
  |succ n=>
   have:=G3.drop d n b;rw[e,show(n+1)*s=s+n*s from by rw[uI,vV], <-vZ,zU g];exact this
end each
def C6.length:∀ {t:Ty} {w:World} {Z:Nat->Prop} {cs:List Value} {x:t.den},C6 t w Z cs x->cs.length=t.size
 | .int _,_,_,_,_,h=>by rw[h.1];rfl
 | .bool,_,_,_,_,h=>by rw[show _= _ from h];rfl
 | .str,_,_,_,_,h=>by rw[show _= _ from h];rfl
 | .unit,_,_,_,_,h=>by rw[show _= _ from h];rfl
 | .pair c d,_,_,_,_,⟨c1,f,e,a,b⟩=>by rw[e,rQ,C6.length a,C6.length b];rfl
 | .sl _,_,_,_,_,⟨_,_,e,_⟩=>by rw[e];rfl
 | .ptr _,_,_,_,_,⟨_,_,_,e,_⟩=>by rw[e];rfl
 | .mp _ _ _ _,_,_,_,_,h=>by
  rcases h with⟨e,_⟩ | ⟨_,_,_,e,_⟩<;>rw[e]<;>rfl
def N9 (Z:Nat->Prop) (w w':World):Prop:=∀b,Z b->w'.heap[b]? =w.heap[b]?
def Zt {Z:Nat->Prop} {w w':World} {b o:Nat} {a:List Value} (h:J4 w ⟨b,o,none⟩ a) (c:Z b) (d:N9 Z w w'):J4 w' ⟨b,o,none⟩ a:=λj v a=>by
 have:=h j v a;rw[L5]at this|-;rw[<-this];exact World.cell?_of_block (d b c)
def C6.mono:∀ {t:Ty} {w w':World} {Z Z':Nat->Prop} {cs:List Value} {x:t.den},(∀b,Z b->Z' b)->N9 Z w w'->C6 t w Z cs x->C6 t w' Z' cs x
 | .int _,_,_,_,_,_,_,_,_,h=>h
 | .bool,_,_,_,_,_,_,_,_,h=>h
 | .str,_,_,_,_,_,_,_,_,h=>h
 | .unit,_,_,_,_,_,_,_,_,h=>h
 | .pair h b,_,_,_,_,_,_,c,a,⟨c1,d,e,f,g⟩=>⟨c1,d,e,C6.mono c a f,C6.mono c a g⟩
 | .sl t,_,_,_,_,_,_,d,c,⟨f,g,e,j,n,o,i⟩=>⟨f,g,e,j,n,o,i.imp id fun⟨b,r,h,ha,a,k,l⟩=>⟨b,r,h,ha,d b a,Zt k a c,l.mono λ_ _=>C6.mono d c⟩⟩
 | .ptr t,_,_,_,_,_,_,d,c,⟨b,o,f,e,a,g,h⟩=>⟨b,o,f,e,d b a,Zt g a c,C6.mono d c h⟩
 | .mp d f g i,_,_,_,_,_,_,c,a,h=>h.imp id fun⟨b,es,cl,e,d,hh,g,f⟩=>⟨b,es,cl,e,c b d,by rw[a b d];exact hh,g,f.mono (λ_ _ h=>h.mono λ_ _=>C6.mono c a) (λ_ _ h=>h.mono λ_ _=>C6.mono c a)⟩
def U9.wf' {t:Ty} {R:List Value->t.den->Prop} (b:∀cs x,R cs x->t.wf x):∀ {a:Bool} {v:Value} {x:t.den},U9 R a v x->t.wf x
 |true,_,_,⟨_,_,h⟩=>b _ _ h
 |false,_,_,h=>b _ _ h
def C6.wf:∀ {t:Ty} {w:World} {Z:Nat->Prop} {cs:List Value} {x:t.den},C6 t w Z cs x->t.wf x
 | .int _,_,_,_,_,h=>h.2
 | .bool,_,_,_,_,_=>trivial
 | .str,_,_,_,_,_=>trivial
 | .unit,_,_,_,_,_=>trivial
 | .pair c d,_,_,_,_,⟨c1,f,e,a,b⟩=>⟨C6.wf a,C6.wf b⟩
 | .sl t,_,_,_,o,⟨g,k,e,n,d,_,h⟩=>⟨by simp only[maxLen]at d;omega,by
  rcases h with h| ⟨j,r,l,_,_,_,b⟩
  . intro x a;rw[h]at a;cases a
  . intro x a;obtain⟨i,c,f⟩:=zJ a;exact C6.wf (t:=t) (G3.get (R:=C6 t _ _) (s:=t.size) (λ_ _ h=>C6.length h) b (i:=i) (by rw[qL c,f]))⟩
 | .ptr t,_,_,_,_,⟨b,o,c,e,d,f,a⟩=>C6.wf (t:=t) a
 | .mp o r v y,_,_,_,u,h=>by
  rcases h with⟨_,e⟩ | ⟨f,j,g,e,k,l,n,d⟩
  . intro x a;rw[e]at a;cases a
  . intro x a;obtain⟨m,_,b,c⟩:=d.mem a;exact⟨U9.wf' (λ_ _=>C6.wf) b,U9.wf' (λ_ _=>C6.wf) c⟩
def C6.oneCell:∀ {t:Ty} {w:World} {Z:Nat->Prop} {cs:List Value} {x:t.den},C6 t w Z cs x->∀u∈cs,u.oneCell'=true
 | .int _,_,_,_,_,h=>by rw[h.1];exact Nf rfl Mc
 | .bool,_,_,_,_,h=>by rw[show _= _ from h];exact Nf rfl Mc
 | .str,_,_,_,_,h=>by rw[show _= _ from h];exact Nf rfl Mc
 | .unit,_,_,_,_,h=>by rw[show _= _ from h];exact Mc
 | .pair a d,_,_,_,_,⟨c1,f,e,b,c⟩=>by
  rw[e];intro u a;rcases rB.1 a with a|a
  . exact C6.oneCell b u a
  . exact C6.oneCell c u a
 | .sl _,_,_,_,_,⟨_,_,e,_⟩=>by rw[e];exact Nf rfl Mc
 | .ptr _,_,_,_,_,⟨_,_,_,e,_⟩=>by rw[e];exact Nf rfl Mc
 | .mp _ _ _ _,_,_,_,_,h=>by
  rcases h with⟨e,_⟩ | ⟨_,_,_,e,_⟩<;>rw[e]<;>exact Nf rfl Mc
def G3.oneCell {t:Ty} {w:World} {Z:Nat->Prop} :∀ {l:List t.den} {cs:List Value},G3 (C6 t w Z) cs l->∀u∈cs,u.oneCell'=true
 | [],_,h=>by rw[show _= _ from h];exact Mc
 | _:: _,_,⟨c1,a,e,b,c⟩=>by
  rw[e];intro u a;rcases rB.1 a with a|a
  . exact C6.oneCell b u a
  . exact G3.oneCell c u a
def U5 {w:World} {b o:Nat} {c:List Value} (h:J4 w ⟨b,o,none⟩ c) (i n:Nat):J4 w ⟨b,o+i,none⟩ ((c.drop i).take n):=λj v a=>by
 rw[L5];rw[wS]at a;split at a
 . rw[xM]at a;have:=h (i+j) v a;rw[L5]at this;rw[vC];exact this
 . cases a
@[reducible] def De:List (Bool×Ty)->Type
 | []=>Unit
 | (_,t)::r=>t.den×De r
inductive C where
 |val (t:Ty) (x:t.den)
 |row (k:Nat)
 |box (k off:Nat)
 |elp (k sz i off:Nat)
 |win (k sz:Nat) (lo hi:Int)
 |pf (t:Ty) (x:t.den) (off:Nat)
 |mp (k:Nat)
 |fn (f:FuncId) (caps:List Nat)
 |fv (P:Program) (as:List (Bool×Ty)) (ra:Bool) (r:Ty) (ok:De as->Prop) (φ:De as->r.den)
 |raw (v:Value)
 |dead
structure SV where
 agg:Bool
 cs:List C
inductive DV where
 |one (v:SV)
 |tup (vs:List SV)
 |cnd (t:Tmp) (b:Bool) (v:SV)
 |dead
inductive LC where
 |none
 |box (ty:TypeId) (cs:List C)
 |row (t:Ty) (e:TypeId) (l:List t.den)
 |map (ka:Bool) (kt:Ty) (va:Bool) (vt:Ty) (es:List (kt.den×vt.den))
 |rows (t:Ty) (e e':TypeId) (ls:List (List t.den)) (al:List (Nat×Nat)) (ho:Option Nat)
 |al (k:Nat)
 |sbox (q:Nat) (t:Ty) (x:t.den)
 |mapE (ka:Bool) (kt:Ty) (va:Bool) (vt:Ty) (es:List (kt.den×vt.den)) (j q:Nat)
 |iter (ka:Bool) (kt:Ty) (va:Bool) (vt:Ty) (left:List (kt.den×vt.den)) (cur:Option (kt.den×vt.den))
 |nest (t:Ty) (e e':TypeId) (ls:List t.den) (bo:List (Nat×Nat)) (dd:List Nat)
 |itM (ka:Bool) (kt:Ty) (va:Bool) (vt:Ty) (es left:List (kt.den×vt.den)) (cur:Option (kt.den×vt.den)) (q:Nat)
structure St where
 sl:List (Nat×Nat×DV)
 lc:List (Nat×Nat×LC)
 nx:Nat
 ct:Nat
 nm:Nat:=0
 fr:List (List (Nat×Nat×DV)):= []
def MC:Option Prop->Prop
 |none=>True
 |some a=>a
def fC (φ:Option Prop) (p:Prop):Prop:=match φ with
 |none=>p
 |some φ=>φ/\p
def E9 {φ:Option Prop} {p:Prop} :fC φ p↔MC φ/\p:=by cases φ<;>simp[fC,MC]
def C4e (c:Prop) (φ:Option Prop):Option Prop:=match φ with
 |none=>none
 |some φ=>some (c->φ)
def A2d {c:Prop} {φ:Option Prop} :MC (C4e c φ)↔(c->MC φ):=by cases φ<;>simp[C4e,MC]
def G9 {α:Type} (e:Bool) (x y:α):α:=bif e then x else y
def find {α:Type} (d:α) (s:Nat):List (Nat×α)->α
 | []=>d
 | (t,x)::l=>bif Nat.beq t s then x else find d s l
def St.eS (a:St) (s:Nat):Nat×DV:=find (0, .dead) s a.sl
def St.eL (a:St) (k:Nat):Nat×LC:=find (0, .none) k a.lc
def St.S (a:St) (s:Nat):DV:=(a.eS s).2
def St.L (a:St) (k:Nat):LC:=(a.eL k).2
def put {α:Type} (s:Nat) (x:α):List (Nat×α)->List (Nat×α)
 | []=> [(s,x)]
 | (t,y)::l=>bif Nat.beq t s then(t,x)::l else(t,y)::put s x l
def AA {α:Type} (d:α) (s:Nat) (x:α) (q:Nat):∀l:List (Nat×α),find d q (put s x l)=if q=s then x else find d q l
 | []=>by
  simp only[put,find];by_cases h:q=s
  . simp[h]
  . simp[h,E6 (Ne.symm h)]
 | (t,y)::l=>by
  have f:=AA d s x q l;simp only[put];cases a:Nat.beq t s with
  |true=>
   have b:=qE a;subst b;simp only[qX,find];by_cases h:q=t
   . simp[h]
   . simp[h,E6 (Ne.symm h)]
  |false=>
   have g:t≠s:=vH a;simp only[rK,find,f];cases c:Nat.beq t q with
   |true=>
    have b:=qE c;subst b;simp[g]
   |false=>simp
def GY (t:Nat):DV->Bool
 | .cnd a _ _=>Nat.beq a t
 | _=>false
def unc (t g:Nat):Nat×DV->Nat×DV
 | (n, .cnd a b v)=>bif Nat.beq a t then(g, .dead)else(n, .cnd a b v)
 | (n, .one v)=>(n, .one v)
 | (n, .tup v)=>(n, .tup v)
 | (n, .dead)=>(n, .dead)
def D0k (t g:Nat) (d:Nat×DV):unc t g d=bif GY t d.2 then(g, .dead)else d:=by
 obtain⟨n,d⟩:=d;cases d<;>rfl
def A4o (t g:Nat):List (Nat×Nat×DV)->List (Nat×Nat×DV)
 | []=> []
 | (s,d)::l=>(s,unc t g d)::A4o t g l
def ZQ (t g q:Nat):∀l:List (Nat×Nat×DV),find (0, .dead) q (A4o t g l)=bif GY t (find (0, .dead) q l).2 then(g, .dead)else find (0, .dead) q l
 | []=>by simp[A4o,find,GY]
 | (s,d)::l=>by
  have a:=ZQ t g q l;simp only[A4o,find,D0k];cases Nat.beq s q<;>simp[a]
def St.setS (a:St) (d:Nat) (x:DV):St:=⟨put d (a.ct+1,x) (A4o d (a.ct+1) a.sl),a.lc,a.nx,a.ct+1,a.nm,a.fr⟩
def St.setL (a:St) (k:Nat) (x:LC):St:=⟨a.sl,put k (a.ct+1,x) a.lc,a.nx,a.ct+1,a.nm,a.fr⟩
def St.newL (a:St) (x:LC):St:=⟨a.sl,put a.nx (a.ct+1,x) a.lc,a.nx+1,a.ct+1,a.nm,a.fr⟩
def St.eS_setS (a:St) (d s:Nat) (x:DV):(a.setS d x).eS s=if s=d then(a.ct+1,x)else bif GY d (a.S s)then(a.ct+1, .dead)else a.eS s:=by
 unfold St.eS St.setS;simp only;rw[AA,ZQ];rfl
def St.S_setS (a:St) (d s:Nat) (x:DV):(a.setS d x).S s=if s=d then x else bif GY d (a.S s)then .dead else a.S s:=by
 show((a.setS d x).eS s).2= _;rw[St.eS_setS];split
 . rfl
 . cases GY d (a.S s)<;>rfl
def St.eL_setL (a:St) (k q:Nat) (x:LC):(a.setL k x).eL q=if q=k then(a.ct+1,x)else a.eL q:=AA ..
def St.L_setL (a:St) (k q:Nat) (x:LC):(a.setL k x).L q=if q=k then x else a.L q:=by
 show((a.setL k x).eL q).2= _;rw[St.eL_setL];split<;>rfl
def St.eL_newL (a:St) (q:Nat) (x:LC):(a.newL x).eL q=if q=a.nx then(a.ct+1,x)else a.eL q:=AA ..
def St.L_newL (a:St) (q:Nat) (x:LC):(a.newL x).L q=if q=a.nx then x else a.L q:=by
 show((a.newL x).eL q).2= _;rw[St.eL_newL];split<;>rfl
def P5 (n:Nat):List (Nat×Nat×DV)->List (Nat×Nat×DV)->Prop
 | [],[]=>True
 | (s,e)::l,(c,a)::b=>c=s/\(a.1<=n->a=e)/\P5 n l b
 | _,_=>False
def Bj (n:Nat):List (List (Nat×Nat×DV))->List (List (Nat×Nat×DV))->Prop
 | [],[]=>True
 |f::l,a::b=>P5 n f a/\Bj n l b
 | _,_=>False
def P5.refl (n:Nat):∀l,P5 n l l
 | []=>trivial
 | (_,_)::l=>⟨rfl,λ_=>rfl,P5.refl n l⟩
def Bj.refl (n:Nat):∀l,Bj n l l
 | []=>trivial
 |f::l=>⟨P5.refl n f,Bj.refl n l⟩
def P5.trans {n m:Nat} (f:n<=m):∀ {a b c},P5 n a b->P5 m b c->P5 n a c
 | [],[],[],_,_=>trivial
 | (_,_):: _,(_,_):: _,(_,_):: _,⟨g,i,k⟩,⟨h,j,l⟩=>⟨h.trans g,λd=>by
  have:=j (qY d f);rw[this]at d|-;exact i d,P5.trans f k l⟩
 | [],[],_:: _,_,h=>h.elim
 | [],_:: _,_,h,_=>h.elim
 | _:: _,[],_,h,_=>h.elim
 | (_,_):: _,(_,_):: _,[],_,h=>h.elim
def Bj.trans {n m:Nat} (d:n<=m):∀ {a b c},Bj n a b->Bj m b c->Bj n a c
 | [],[],[],_,_=>trivial
 | _:: _,_:: _,_:: _,h,k=>⟨h.1.trans d k.1,Bj.trans d h.2 k.2⟩
 | [],[],_:: _,_,h=>h.elim
 | [],_:: _,_,h,_=>h.elim
 | _:: _,[],_,h,_=>h.elim
 | _:: _,_:: _,[],_,h=>h.elim
def P5.le {n m:Nat} (c:n<=m) {a b} (h:P5 m a b):P5 n a b:=(P5.refl n a).trans c h
def Bj.le {n m:Nat} (c:n<=m) {a b} (h:Bj m a b):Bj n a b:=(Bj.refl n a).trans c h
def P5.find {n:Nat} {d:Nat×DV} (s:Nat):∀ {a b},P5 n a b->(Vc.find d s b).1<=n->Vc.find d s b=Vc.find d s a
 | [],[],_,_=>rfl
 | (t,e)::a,(j,k)::b,⟨f,g,i⟩,h=>by
  subst f;simp only[Vc.find]at h|-;cases c:Nat.beq j s with
  |true=>rw[c]at h;exact g h
  |false=>rw[c]at h;exact P5.find s i h
 | [],_:: _,h,_=>h.elim
 | _:: _,[],h,_=>h.elim
def C9j (n:Nat) (fr:List (List (Nat×Nat×DV))):Bool:=fr.all λf=>f.all λe=>Nat.ble e.2.1 n
def P5.old {n:Nat} :∀ {a b},P5 n a b->(b.all λe=>Nat.ble e.2.1 n)=true->b=a
 | [],[],_,_=>rfl
 | (t,e)::a,(i,g)::b,⟨c,d,f⟩,h=>by
  simp only[tN,qC]at h;rw[c,d (qQ h.1),P5.old f h.2]
 | [],_:: _,h,_=>h.elim
 | _:: _,[],h,_=>h.elim
def Bj.old {n:Nat} :∀ {a b},Bj n a b->C9j n b=true->b=a
 | [],[],_,_=>rfl
 |f::a,g::b,⟨c,d⟩,h=>by
  simp only[C9j,tN,qC]at h;rw[c.old h.1,Bj.old d h.2]
 | [],_:: _,h,_=>h.elim
 | _:: _,[],h,_=>h.elim
structure C3 (st st':St):Prop where
 ct:st.ct<=st'.ct
 s:∀s,(st'.eS s).1≠0->(st'.eS s).1<=st.ct->st'.eS s=st.eS s
 l:∀k,(st'.eL k).1≠0->(st'.eL k).1<=st.ct->st'.eL k=st.eL k
 f:Bj st.ct st.fr st'.fr
def C3.refl (a:St):C3 a a:=⟨qV _,λ_ _ _=>rfl,λ_ _ _=>rfl,Bj.refl _ _⟩
def Cy (a:Bool) (t:Ty) (w:World) (Z:Nat->Prop) (v:Value) (x:t.den):Prop:=U9 (C6 t w Z) a v x
def XT (w:World) (Z:Nat->Prop):(as:List (Bool×Ty))->List Value->De as->Prop
 | [],a,_=>a= []
 | (b,t)::r,c,x=>∃v a,c=v::a/\Cy b t w Z v x.1/\XT w Z r a x.2
def B1y (P:Program) (w:World) (Z:Nat->Prop) (v:Value) (as:List (Bool×Ty)) (h:Bool) (r:Ty) (c:De as->Prop) (φ:De as->r.den):Prop:=
 ∃g,∃d:List Value,v= .func (.func g) #[] d.toArray/\enters P g=true/\∀(a:World) (Z':Nat->Prop) (f:List Value) (x:De as),N9 Z w a->(∀b,Z b->b<a.heap.size)->(∀b,Z' b->b<a.heap.size)->XT a Z' as f x->c x->
  Gw.Ret P g (f++d) a λu c=>R8 a c/\∃Zn:Nat->Prop,(∀b,Zn b->(a.heap.size<=b/\b<c.heap.size)\/Z b\/Z' b)/\Cy h r c Zn u (φ x)
def RC (w:World) (Z:Nat->Prop) (B:Nat->Value):C->Value->Prop
 | .val t x,v=>C6 t w Z [v] x
 | .row k,v=>v=B k
 | .box k a,v=>∃b,B k= .pointer (some ⟨b,0,none⟩)/\v= .pointer (some ⟨b,a,none⟩)
 | .elp k sz i c,v=>∃b n a,B k= .slice (some ⟨b,0,none⟩) n a/\i<n/\v= .pointer (some ⟨b,i*sz+c,none⟩)
 | .win k sz b d,v=>∃c n a,B k= .slice c n a/\(∀x,c=some x->∃g,x=⟨g,0,none⟩)/\(c=none->a=0)/\0<=b/\b<=d/\d<=(n:Int)/\n<=a/\a<=maxLen/\v= .slice (if a=b.toNat then c else c.map (·.add (b.toNat*sz))) (d.toNat-b.toNat) (a-b.toNat)
 | .pf t x c,v=>∃b o a,v= .pointer (some ⟨b,o+c,none⟩)/\Z b/\J4 w ⟨b,o,none⟩ a/\C6 t w Z a x
 | .mp k,v=>v=B k
 | .fn f a,v=>v= .func (.func f) #[] (a.map B).toArray
 | .fv P as b r a c,v=>B1y P w Z v as b r a c
 | .raw a,v=>v=a/\a.oneCell'=true
 | .dead,_=>True
def Dp (w:World) (Z:Nat->Prop) (B:Nat->Value):List C->List Value->Prop
 | [],a=>a= []
 |c::b,d=>∃v a,d=v::a/\RC w Z B c v/\Dp w Z B b a
def RS (w:World) (Z:Nat->Prop) (B:Nat->Value):SV->Value->Prop
 | ⟨true,b⟩,v=>∃a:List Value,v= .agg a.toArray/\Dp w Z B b a
 | ⟨false,a⟩,v=>Dp w Z B a [v]
def Rt (w:World) (Z:Nat->Prop) (B:Nat->Value):List SV->List Value->Prop
 | [],a=>a= []
 |c::b,d=>∃v a,d=v::a/\RS w Z B c v/\Rt w Z B b a
def RD (w:World) (Z:Nat->Prop) (B:Nat->Value) (E:I2):DV->Value->Prop
 | .one s,v=>RS w Z B s v
 | .tup b,v=>∃a:List Value,v= .tuple a.toArray/\Rt w Z B b a
 | .cnd t b s,v=>(E t= .bool b/\RS w Z B s v)\/(E t≠ .bool b/\v=undef)
 | .dead,_=>True
def Rs (w:World) (Z:Nat->Prop) (c:Bool) (a:Ty) (d:Bool) (b:Ty) (es:List MapEntry) (l:List (a.den×b.den)):Prop:=U2 (U9 (C6 a w Z) c) (U9 (C6 b w Z) d) es l
def root:Value->Option Nat
 | .pointer (some a)=>some a.block
 | .slice (some a) _ _=>some a.block
 | .map r=>r
 | _=>none
def Fe:Option Nat->Nat->Bool
 |none,_=>false
 |some j,i=>Nat.beq j i
def Es (a:List (Nat×Nat)) (dd:List Nat) (i:Nat):Bool:=(a.any λp=>Nat.beq p.1 i) ||dd.any λj=>Nat.beq j i
def T5 (w:World) (v:Value) (H:Nat->Bool) (b:Nat):Prop:=root v=some b\/∃g n c a e i x,v= .slice (some ⟨g,0,none⟩) n c/\w.heap[g]? =some (.cells a e (0,0))/\i<n/\H i=false/\a[i]? =some x/\root x=some b
def B4 (w:World) (v:Value):LC->Nat->Prop
 | .none,_=>False
 | .box _ _,b=>root v=some b
 | .row _ _ _,b=>root v=some b
 | .map _ _ _ _ _,b=>root v=some b
 | .iter _ _ _ _ _ _,b=>root v=some b
 | .mapE _ _ _ _ _ _ _,b=>root v=some b
 | .al _,_=>False
 | .sbox _ _ _,_=>False
 | .nest _ _ _ _ a c,b=>T5 w v (Es a c) b
 | .itM _ _ _ _ _ _ _ _,b=>root v=some b\/∃r c s a,v= .pointer (some ⟨r,0,none⟩)/\w.heap[r]? =some (.mapIter (some b) c s a)
 | .rows _ _ _ _ _ d,b=>root v=some b\/∃g n c a e i x,v= .slice (some ⟨g,0,none⟩) n c/\w.heap[g]? =some (.cells a e (0,0))/\i<n/\Fe d i=false/\a[i]? =some x/\root x=some b
def AtV (xs:List Value) (i:Nat) (v:Value):Prop:=xs[i]? =some v\/(xs.length<=i/\v= .slice none 0 0)
def Inn (w:World) (Z:Nat->Prop) (B:Nat->Value) (t:Ty) (e':TypeId) (ls:List (List t.den)) (al:List (Nat×Nat)) (a:Option Nat) (xs:List Value):Prop:=
 (∀p∈al,AtV xs p.1 (B p.2))/\(∀i l x,Fe a i=false->ls[i]? =some l->xs[i]? =some x->∃b,w.ownsRow 0 e' t.size x l.length b/\G3 (C6 t w Z) b l)/\
  ∀i j x y b,i≠j->Fe a i=false->Fe a j=false->xs[i]? =some x->xs[j]? =some y->root x=some b->root y≠some b
def ItR (w:World) (Z:Nat->Prop) (f:Bool) (c:Ty) (g:Bool) (d:Ty) (r:Nat) (left:List (c.den×d.den)) (cur:Option (c.den×d.den)):Prop:=
 (w.heap[r]? =some (.mapIter none 0 #[] 0)/\left= []/\cur=none)\/
 ∃(m:Nat) (seen:Array Nat) (b:Array MapEntry) (a:Nat),w.heap[r]? =some (.mapIter (some m) a seen a)/\Z m/\w.heap[m]? =some (.map b a)/\MOk b a/\Rs w Z f c g d (leftOf b seen).toList left/\
  ∀x,cur=some x->∃e∈b.toList,(∃a:Array Nat,seen=a.push e.born)/\U9 (C6 c w Z) f e.key x.1/\U9 (C6 d w Z) g e.val x.2
def UR:(t:Ty)->TypeId->World->(Nat->Prop)->Value->t.den->Prop
 | .sl t,b,w,Z,v,l=>∃a:List Value,w.ownsRow 0 b t.size v (List.length l) a/\G3 (C6 t w Z) a l
 | .mp f g h i,_,w,Z,v,d=>∃b a c,v= .map (some b)/\w.heap[b]? =some (.map a c)/\MOk a c/\Rs w Z f g h i a.toList d
 | _,_,_,_,_,_=>False
structure pS (w:World) (Z:Nat->Prop) (B:Nat->Value) (t:Ty) (e e':TypeId) (ls:List t.den) (bo:List (Nat×Nat)) (dd:List Nat) (v:Value) (xs:List Value):Prop where
 own:w.ownsRow 0 e 1 v ls.length xs
 out:∀p∈bo,xs[p.1]? =some (B p.2)
 elt:∀i l x,Es bo dd i=false->ls[i]? =some l->xs[i]? =some x->UR t e' w Z x l
 dis:∀i j x y b,i≠j->Es bo dd i=false->Es bo dd j=false->xs[i]? =some x->xs[j]? =some y->root x=some b->root y≠some b
 top:∀i x b,Es bo dd i=false->xs[i]? =some x->root x=some b->root v≠some b
structure D0w (w:World) (Z:Nat->Prop) (ka:Bool) (kt:Ty) (va:Bool) (vt:Ty) (es left:List (kt.den×vt.den)) (cur:Option (kt.den×vt.den)) (r m:Nat) (seen:Array Nat) (ents:Array MapEntry) (clock:Nat):Prop where
 it:w.heap[r]? =some (.mapIter (some m) clock seen clock)
 mp:w.heap[m]? =some (.map ents clock)
 ok:MOk ents clock
 all:Rs w Z ka kt va vt ents.toList es
 rest:Rs w Z ka kt va vt (leftOf ents seen).toList left
 cur:∀x,cur=some x->∃e∈ents.toList,(∃seen':Array Nat,seen=seen'.push e.born)/\U9 (C6 kt w Z) ka e.key x.1/\U9 (C6 vt w Z) va e.val x.2
def RL (U:Nat->Prop) (w:World) (Z:Nat->Prop) (B:Nat->Value) (k:Nat):LC->Prop
 | .none=>True
 | .box d c=>∃b a,B k= .pointer (some ⟨b,0,none⟩)/\U b/\¬Z b/\KN w b a d/\Dp w Z B c a.toList
 | .row t e l=>∃a,w.ownsRow 0 e t.size (B k) l.length a/\G3 (C6 t w Z) a l/\∀b,(B k).ownBlock=some b->U b/\¬Z b
 | .map f g h i d=>∃b a c,B k= .map (some b)/\U b/\¬Z b/\w.heap[b]? =some (.map a c)/\MOk a c/\Rs w Z f g h i a.toList d
 | .al _=>True
 | .sbox q t x=>q=k/\C6 (.ptr t) w Z [B q] x/\∃b,B q= .pointer (some ⟨b,0,none⟩)
 | .mapE f g h i d j q=>∃b a c,B k= .map (some b)/\U b/\¬Z b/\w.heap[b]? =some (.map a c)/\(MOk a c/\Rs w Z f g h i a.toList d)/\∃e:MapEntry,a.toList[j]? =some e/\B q= .int .i64 e.born
 | .iter b c d f left a=>∃r,B k= .pointer (some ⟨r,0,none⟩)/\U r/\¬Z r/\ItR w Z b c d f r left a
 | .nest t e d f a c=>∃g,pS w Z B t e d f a c (B k) g/\∀b,T5 w (B k) (Es a c) b->U b/\¬Z b/\b<w.heap.size
 | .itM f g h i d left b q=>∃r m seen c a,B k= .pointer (some ⟨r,0,none⟩)/\B q= .map (some m)/\D0w w Z f g h i d left b r m seen c a/\U r/\¬Z r/\U m/\¬Z m
 | .rows t e f c al a=>∃d,w.ownsRow 0 e 1 (B k) c.length d/\Inn w Z B t f c al a d/\(∀i x b,Fe a i=false->d[i]? =some x->root x=some b->root (B k)≠some b)/\∀b,B4 w (B k) (.rows t e f c al a) b->U b/\¬Z b/\b<w.heap.size
def live:LC->Prop
 | .none=>False
 | .al _=>False
 | .sbox _ _ _=>False
 | _=>True
def Dx (n:Nat):C->Prop
 | .row k=>k<n
 | .box k _=>k<n
 | .elp k _ _ _=>k<n
 | .win k _ _ _=>k<n
 | .mp k=>k<n
 | .fn _ a=>∀k∈a,k<n
 | _=>True
def Nm (n:Nat) (s:SV):Prop:=∀c∈s.cs,Dx n c
def NC (n:Nat):DV->Prop
 | .one s=>Nm n s
 | .tup a=>∀s∈a,Nm n s
 | .cnd _ _ s=>Nm n s
 | .dead=>True
def AX (n:Nat):LC->Prop
 | .box _ a=>∀c∈a,Dx n c
 | .rows _ _ _ _ al _=>∀p∈al,p.2<n
 | .mapE _ _ _ _ _ _ q=>q<n
 | .sbox q _ _=>q<n
 | .nest _ _ _ _ a _=>∀p∈a,p.2<n
 | .itM _ _ _ _ _ _ _ q=>q<n
 | _=>True
structure Zn where
 z:Nat->Prop
 m:Nat->Prop
 n:Nat
 v:Nat->Value
 k0:Nat:=0
 b0:Nat:=0
 f:Nat->Nat->Prop
 fm:∀k b,f k b->m b
 es:List I2:= []
def RF (w:World) (Z:Nat->Prop) (B:Nat->Value):List I2->List (List (Nat×Nat×DV))->Prop
 | [],[]=>True
 |E::a,f::b=>(∀s,RD w Z B E (find (0, .dead) s f).2 (E s))/\RF w Z B a b
 | _,_=>False
def pT (n:Nat) (fr:List (List (Nat×Nat×DV))):Prop:=∀f∈fr,∀s,NC n (find (0, .dead) s f).2
structure Ip (m:Nat->Prop) (w w':World):Prop where
 os:w'.os=w.os
 tape:w'.tape=w.tape
 output:w'.output=w.output
 size:w.heap.size<=w'.heap.size
 block:∀k,k<w.heap.size->¬m k->w'.heap[k]? =w.heap[k]?
 drw:True
def Ip.of {m:Nat->Prop} {w w':World} (h:R8 w w'):Ip m w w':=⟨h.os,h.tape,h.output,h.size,λk a _=>h.block k a,h.drw⟩
def Ip.ext {m:Nat->Prop} {w w':World} (h:Ip m w w') (c:∀b,¬m b):R8 w w':=⟨⟨h.os,h.tape,h.output,h.size,λk a=>h.block k a (c k)⟩,h.drw⟩
def Ip.trans {m:Nat->Prop} {a b c:World} (h:Ip m a b) (k:R8 b c):Ip m a c:=⟨k.os.trans h.os,k.tape.trans h.tape,k.output.trans h.output,qY h.size k.size,λi d f=>(k.block i (rJ d h.size)).trans (h.block i d f),trivial⟩
def Ip.chg {m:Nat->Prop} {d w w':World} {b:Nat} (h:Ip m d w) (a:XR b w w') (c:d.heap.size<=b\/m b):Ip m d w':=
 ⟨a.1.trans h.os,a.2.1.trans h.tape,a.2.2.1.1.trans h.output,by rw[a.2.2.2.1];exact h.size,λk f g=>(a.2.2.2.2 k (λe=>by subst e;rcases c with c|c;exact absurd f ω;exact g c)).trans (h.block k f g),trivial⟩
def Ip.grown {m:Nat->Prop} {d w w':World} {row:Option Nat} (h:Ip m d w) (a:w.grownBy w' row) (f:w.drawn<=w'.drawn) (c:∀b,row=some b->d.heap.size<=b\/m b):Ip m d w':=
 ⟨a.os.trans h.os,a.tape.trans h.tape,a.output.trans h.output,qY h.size a.size,λk d f=>(a.block k (rJ d h.size) (λe=>by rcases c k e.symm with c|c;exact absurd d ω;exact f c)).trans (h.block k d f),trivial⟩
def up (a:Zn) (c:World) (k:Nat):Nat->Prop:=λb=>(a.n<=k/\c.heap.size<=b)\/(k<a.n/\a.f k b)
def up.m {a:Zn} {c:World} {k b:Nat} (h:up a c k b):c.heap.size<=b\/a.m b:=h.imp And.right λh=>a.fm k b h.2
structure C4 (za:Zn) (w0:World) (st:St) (E:I2) (w:World) (Z:Nat->Prop) (B:Nat->Value):Prop where
 ext:Ip za.m w0 w
 zlt:∀b,Z b->b<w.heap.size
 slots:∀s,RD w Z B E (st.S s) (E s)
 locs:∀k,RL (up za w0 k) w Z B k (st.L k)
 disj:∀k k' b,k≠k'->B4 w (B k) (st.L k) b->¬B4 w (B k') (st.L k') b
 refs:∀s,NC st.nx (st.S s)
 refl:∀k,AX st.nx (st.L k)
 fresh:∀k,st.nx<=k->st.L k= .none
 bone:∀k,(B k).oneCell'=true
 zin:∀b,Z b->za.z b\/w0.heap.size<=b
 nms:st.nm=za.n/\za.n<=st.nx
 bfix:∀k,k<za.n->B k=za.v k
 mrk:za.b0<=w.heap.size/\∀k b,za.k0<=k->B4 w (B k) (st.L k) b->za.b0<=b
 frs:RF w Z B za.es st.fr
 frf:pT st.nx st.fr
section mono
variable {w w':World} {Z Z':Nat->Prop} {B B':Nat->Value} {n:Nat}
def RC.mono (d:∀b,Z b->Z' b) (f:N9 Z w w') (a:∀k,k<n->B' k=B k):∀ {c:C} {v:Value},Dx n c->RC w Z B c v->RC w' Z' B' c v
 | .val _ _,_,_,h=>C6.mono d f h
 | .row k,_,g,h=>h.trans (a k g).symm
 | .box k i,_,g,⟨b,e,h⟩=>⟨b,(a k g).trans e,h⟩
 | .elp k sz j l,_,i,⟨b,m,g,e,h⟩=>⟨b,m,g,(a k i).trans e,h⟩
 | .win k sz o l,_,j,⟨g,m,h,e,i⟩=>⟨g,m,h,(a k j).trans e,i⟩
 | .pf t x l,_,_,⟨b,o,h,e,g,j,i⟩=>⟨b,o,h,e,d b g,Zt j g f,C6.mono d f i⟩
 | .mp k,_,g,h=>h.trans (a k g).symm
 | .fn j g,_,i,h=>by
  show _= _;rw[show _= _ from h];congr 2;exact List.map_congr_left λk g=>(a k (i k g)).symm
 | .fv P as j r i l,_,_,⟨g,a,e,s,h⟩=>⟨g,a,e,s,λu Z2 t x i j l o r=>(h u Z2 t x (λb a=>(i b (d b a)).trans (f b a)) (λb a=>j b (d b a)) l o r).mono λu g ⟨f,Zn,g2,g3⟩=>⟨f,Zn,λb a=>(g2 b a).imp id (Or.imp (d b) id),g3⟩⟩
 | .raw _,_,_,h=>h
 | .dead,_,_,_=>trivial
def Dp.mono (g:∀b,Z b->Z' b) (f:N9 Z w w') (a:∀k,k<n->B' k=B k):∀ {cs:List C} {vs:List Value},(∀c∈cs,Dx n c)->Dp w Z B cs vs->Dp w' Z' B' cs vs
 | [],_,_,h=>h
 |c::cs,_,d,⟨v,l,e,h,i⟩=>⟨v,l,e,RC.mono g f a (d c (by simp)) h,Dp.mono g f a (λc j=>d c (by simp[j])) i⟩
def RS.mono (d:∀b,Z b->Z' b) (c:N9 Z w w') (a:∀k,k<n->B' k=B k):∀ {s:SV} {v:Value},Nm n s->RS w Z B s v->RS w' Z' B' s v
 | ⟨true,cs⟩,_,f,⟨g,e,h⟩=>⟨g,e,Dp.mono d c a f h⟩
 | ⟨false,cs⟩,_,f,h=>Dp.mono (cs:=cs) d c a f h
def Rt.mono (g:∀b,Z b->Z' b) (f:N9 Z w w') (a:∀k,k<n->B' k=B k):∀ {cs:List SV} {vs:List Value},(∀c∈cs,Nm n c)->Rt w Z B cs vs->Rt w' Z' B' cs vs
 | [],_,_,h=>h
 |c::cs,_,d,⟨v,l,e,h,i⟩=>⟨v,l,e,RS.mono g f a (d c (by simp)) h,Rt.mono g f a (λc j=>d c (by simp[j])) i⟩
def RD.mono {E:I2} (f:∀b,Z b->Z' b) (c:N9 Z w w') (a:∀k,k<n->B' k=B k):∀ {d:DV} {v:Value},NC n d->RD w Z B E d v->RD w' Z' B' E d v
 | .one _,_,g,h=>RS.mono f c a g h
 | .tup _,_,g,⟨i,e,h⟩=>⟨i,e,Rt.mono f c a g h⟩
 | .cnd _ _ _,_,i,h=>h.imp (fun⟨g,b⟩=>⟨g,RS.mono f c a i b⟩) id
 | .dead,_,_,_=>trivial
def RF.mono (f:∀b,Z b->Z' b) (d:N9 Z w w') (a:∀k,k<n->B' k=B k):∀ {es:List I2} {fr:List (List (Nat×Nat×DV))},pT n fr->RF w Z B es fr->RF w' Z' B' es fr
 | [],[],_,_=>trivial
 |E::es,g::h,c,⟨i,j⟩=>⟨λs=>RD.mono f d a (c g (by simp) s) (i s),RF.mono f d a (λh l=>c h (by simp[l])) j⟩
 | [],_:: _,_,h=>h.elim
 | _:: _,[],_,h=>h.elim
def Cy.mono {a:Bool} {t:Ty} {v:Value} {x:t.den} (d:∀b,Z b->Z' b) (c:N9 Z w w') (h:Cy a t w Z v x):Cy a t w' Z' v x:=U9.mono (λ_ _=>C6.mono d c) h
def XT.mono (c:∀b,Z b->Z' b) (a:N9 Z w w'):∀ {as:List (Bool×Ty)} {vs:List Value} {x:De as},XT w Z as vs x->XT w' Z' as vs x
 | [],_,_,h=>h
 | _:: _,_,_,⟨v,g,e,d,f⟩=>⟨v,g,e,d.mono c a,XT.mono c a f⟩
def Rs.mono {g i:Bool} {a c:Ty} (f:∀b,Z b->Z' b) (d:N9 Z w w') {l:List (a.den×c.den)} {es:List MapEntry} (h:Rs w Z g a i c es l):Rs w' Z' g a i c es l:=
 U2.mono (λ_ _ h=>h.mono λ_ _=>C6.mono f d) (λ_ _ h=>h.mono λ_ _=>C6.mono f d) h
def B4.live {v:Value} {l:LC} {b:Nat} (h:B4 w v l b):Vc.live l:=by cases l<;>first|exact h.elim|trivial
def B4.of {v:Value} {l:LC} {b:Nat} (a:Vc.live l) (h:Vc.root v=some b):B4 w v l b:=by
 cases l<;>first|exact a.elim|exact h|exact .inl h
def T5.iff {v:Value} {H:Nat->Bool} {b:Nat} (h:∀b,root v=some b->w'.heap[b]? =w.heap[b]?):T5 w' v H b↔T5 w v H b:=by
 refine g4a yA ⟨fun⟨g,n,cap,cur,e,i,x,hv,hg,r⟩=>⟨g,n,cap,cur,e,i,x,hv,?_,r⟩,fun⟨g,n,cap,cur,e,i,x,hv,hg,r⟩=>⟨g,n,cap,cur,e,i,x,hv,?_,r⟩⟩
 . rw[<-h g (by rw[hv];rfl)];exact hg
 . rw[h g (by rw[hv];rfl)];exact hg
def B4.iff {v:Value} {l:LC} {b:Nat} (h:∀b,B4 w v l b->w'.heap[b]? =w.heap[b]?):B4 w' v l b↔B4 w v l b:=by
 cases l with
 |rows t e d j al f=>
  refine g4a yA ⟨fun⟨g,n,cap,a,e,i,x,hv,hg,r⟩=>⟨g,n,cap,a,e,i,x,hv,?_,r⟩,fun⟨g,n,cap,a,e,i,x,hv,hg,r⟩=>⟨g,n,cap,a,e,i,x,hv,?_,r⟩⟩
  . rw[<-h g (.inl (by rw[hv];rfl))];exact hg
  . rw[h g (.inl (by rw[hv];rfl))];exact hg
 |nest t e g j d f=>exact T5.iff λb a=>h b (.inl a)
 |itM f g j k d left a q=>
  refine g4a yA ⟨fun⟨r,c,s,c2,hv,hg⟩=>⟨r,c,s,c2,hv,?_⟩,fun⟨r,c,s,c2,hv,hg⟩=>⟨r,c,s,c2,hv,?_⟩⟩
  . rw[<-h r (.inl (by rw[hv];rfl))];exact hg
  . rw[h r (.inl (by rw[hv];rfl))];exact hg
 | _=>exact yA
def RL.root {U:Nat->Prop} {k:Nat} {l:LC} (h:RL U w Z B k l) {b:Nat} (a:B4 w (B k) l b):U b/\b<w.heap.size/\¬Z b:=by
 cases l with
 |none=>exact a.elim
 |al _=>exact a.elim
 |sbox _ _ _=>exact a.elim
 |mapE r s t u n o q=>
  obtain⟨g,j,i,e,c,d,f,_⟩:=h;have a:Vc.root (B k)=some b:=a;rw[e]at a;simp[Vc.root]at a;subst a;exact⟨c,(rV.1 f).1,d⟩
 |iter i j n o left g=>
  obtain⟨r,e,d,f,c⟩:=h;have a:Vc.root (B k)=some b:=a;rw[e]at a;simp[Vc.root]at a;subst a;refine⟨d,?_,f⟩;rcases c with⟨c,_⟩ | ⟨_,_,_,_,c,_⟩<;>exact(rV.1 c).1
 |box j i=>
  obtain⟨g,n,e,c,d,f,_⟩:=h;have a:Vc.root (B k)=some b:=a;rw[e]at a;simp[Vc.root]at a;subst a;exact⟨c,f.lt,d⟩
 |row t e l=>
  obtain⟨r,f,o,g⟩:=h;have a:Vc.root (B k)=some b:=a;have c:(B k).ownBlock=some b:=by
   rcases f.2 with⟨d,_⟩ | ⟨n,i,j,d,_⟩
   . rw[d]at a;simp[Vc.root]at a
   . rw[d]at a|-;simpa[Vc.root,Value.ownBlock]using a
  have:=World.ownsRow.lt f b c;exact⟨(g b c).1,this.2,(g b c).2⟩
 |map o r s t n=>
  obtain⟨g,j,i,e,c,d,f,_⟩:=h;have a:Vc.root (B k)=some b:=a;rw[e]at a;simp[Vc.root]at a;subst a;exact⟨c,(rV.1 f).1,d⟩
 |rows t e d g al f=>
  obtain⟨i,_,_,_,c⟩:=h;exact⟨(c b a).1,(c b a).2.2,(c b a).2.1⟩
 |nest t e g i d f=>
  obtain⟨j,_,c⟩:=h;exact⟨(c b a).1,(c b a).2.2,(c b a).2.1⟩
 |itM z A G H y left u q=>
  obtain⟨D,m,seen,x,t,d,v,c,i,j,n,o⟩:=h;rcases a with a| ⟨E,r,F,s,g,f⟩
  . rw[d]at a;simp[Vc.root]at a;subst a;exact⟨i,(rV.1 c.it).1,j⟩
  . rw[d]at g;cases g;rw[c.it]at f;cases f;exact⟨n,(rV.1 c.mp).1,o⟩
def E3 {a e sz m:Nat} {v:Value} {xs:List Value} (h:w.ownsRow a e sz v m xs):root v=v.ownBlock:=by
 rcases h.2 with⟨a,_⟩ | ⟨g,b,c,a,_⟩<;>rw[a]<;>rfl
def Ce {a e sz m:Nat} {v:Value} {xs:List Value} (h:w.ownsRow a e sz v m xs) (l:∀b,v.ownBlock=some b->w'.heap[b]? =w.heap[b]?):w'.ownsRow a e sz v m xs:=by
 refine⟨h.1,?_⟩;rcases h.2 with h| ⟨g,d,f,c,i,j,k⟩
 . exact .inl h
 . exact .inr ⟨g,d,f,c,i,by rw[l g (by rw[c];rfl)];exact j,k⟩
def T5.own {f e n:Nat} {v:Value} {xs:List Value} {H:Nat->Bool} (c:w.ownsRow f e 1 v n xs) {i b:Nat} {x:Value} (o:H i=false) (a:xs[i]? =some x) (k:Vc.root x=some b):T5 w v H b:=by
 refine .inr ?_;rcases c.2 with⟨d,s⟩ | ⟨j,g,h,d,_,l,z,_,A,t⟩
 . have:=c.1;rw[s]at this;have u:xs= []:=qT ω;rw[u]at a;cases a
 . have r:i<n:=by have:=(sQ.1 a).1;have y:=c.1;omega
   refine⟨j,_,g,h,e,i,x,d,l,r,o,?_,k⟩;rw[<-t,rX ω]at a;simpa using a
def T5.cases {base e n:Nat} {v:Value} {xs:List Value} {H:Nat->Bool} (h1:w.ownsRow base e 1 v n xs) {b:Nat} (hf:T5 w v H b):Vc.root v=some b\/∃(i:Nat) (x:Value),H i=false/\xs[i]? =some x/\Vc.root x=some b:=by
 rcases hf with c| ⟨u,m,l,r,t,i,x,f,h,z,g,k,c⟩
 . exact .inl c
 . refine .inr ⟨i,x,g,?_,c⟩;rcases h1.2 with⟨a,_⟩ | ⟨y,o,s,a,_,d,A,_,B,j⟩
   . rw[f]at a;cases a
   . rw[f]at a;cases a;rw[h]at d;cases d;rw[<-j,rX ω];simpa using k
def UR.mono (d:∀b,Z b->Z' b) (c:N9 Z w w'):∀ {t:Ty} {e':TypeId} {v:Value} {x:t.den},(∀b,Vc.root v=some b->w'.heap[b]? =w.heap[b]?)->UR t e' w Z v x->UR t e' w' Z' v x
 | .sl t,_,_,_,g,⟨i,a,f⟩=>⟨i,Ce a (λb h=>g b ((E3 a).trans h)),f.mono λ_ _=>C6.mono d c⟩
 | .mp k l n o,_,_,_,j,⟨b,f,a,e,g,h,i⟩=>⟨b,f,a,e,by rw[j b (by rw[e];rfl)];exact g,h,i.mono d c⟩
 | .int _,_,_,_,_,h=>h.elim
 | .bool,_,_,_,_,h=>h.elim
 | .str,_,_,_,_,h=>h.elim
 | .unit,_,_,_,_,h=>h.elim
 | .pair _ _,_,_,_,_,h=>h.elim
 | .ptr _,_,_,_,_,h=>h.elim
def RL.mono {U:Nat->Prop} {k:Nat} {l:LC} (d:∀b,Z b->Z' b) (c:N9 Z w w') (s:∀k,k<n->B' k=B k) (g:live l->B' k=B k) (a:∀b,B4 w (B k) l b->w'.heap[b]? =w.heap[b]?) (i:∀b,B4 w (B k) l b->¬Z' b) (t:AX n l) (h:RL U w Z B k l):RL U w' Z' B' k l:=by
 cases l with
 |none=>trivial
 |al _=>trivial
 |sbox q u x=>
  obtain⟨j,o,b,r⟩:=h;have f:B' q=B q:=s q t;refine⟨j,?_,b,f.trans r⟩;rw[f];exact C6.mono d c o
 |mapE G H I J D F q=>
  obtain⟨b,r,j,e,u,E,v,⟨A,x⟩,o,y,z⟩:=h;have f:Vc.root (B k)=some b:=by rw[e];rfl
  exact⟨b,r,j,(g trivial).trans e,u,i b f,by rw[a b f];exact v,⟨A,x.mono d c⟩,o,y,(s q t).trans z⟩
 |iter M N O P left I=>
  obtain⟨r,e,z,J,f⟩:=h;have u:Vc.root (B k)=some r:=by rw[e];rfl
  refine⟨r,(g trivial).trans e,z,i r u,?_⟩;have v:=a r u;rcases f with⟨f,j⟩ | ⟨m,seen,y,x,f,j,A,D,E,F⟩
  . exact .inl ⟨v.trans f,j⟩
  . exact .inr ⟨m,seen,y,x,v.trans f,d m j,(c m j).trans A,D,E.mono d c,λH G=>(F H G).imp λe o=>⟨o.1,o.2.1,o.2.2.1.mono λ_ _=>C6.mono d c,o.2.2.2.mono λ_ _=>C6.mono d c⟩⟩
 |box y v=>
  obtain⟨b,u,e,j,x,o,r⟩:=h;have f:Vc.root (B k)=some b:=by rw[e];rfl
  refine⟨b,u,(g trivial).trans e,j,i b f,?_,Dp.mono d c s t r⟩;unfold KN;rw[a b f];exact o
 |row x e l=>
  obtain⟨v,j,r,u⟩:=h;have o:=E3 j;refine⟨v,?_,r.mono λ_ _=>C6.mono d c,λb f=>?_⟩
  . rw[g trivial];exact Ce j λb f=>a b (o.trans f)
  . rw[g trivial]at f;exact⟨(u b f).1,i b (o.trans f)⟩
 |map A D E F y=>
  obtain⟨b,o,j,e,r,z,u,x,v⟩:=h;have f:Vc.root (B k)=some b:=by rw[e];rfl
  exact⟨b,o,j,(g trivial).trans e,r,i b f,by rw[a b f];exact u,x,v.mono d c⟩
 |rows a3 e I F al A=>
  have T:=λb=>B4.iff (b:=b) a
  obtain⟨y,r,⟨O,P,Q⟩,z,R⟩:=h;have a7:=E3 r;have X:∀o x b,Fe A o=false->y[o]? =some x->Vc.root x=some b->B4 w (B k) (.rows a3 e I F al A) b:=λo x b v j f=>by
   refine .inr ?_;rcases r.2 with⟨E,a0⟩ | ⟨J,G,H,E,_,V,a6,_,a8,a1⟩
   . have:=r.1;rw[a0]at this;have a2:y= []:=qT ω;rw[a2]at j;cases j
   . have W:o<F.length:=by have:=(sQ.1 j).1;have a5:=r.1;omega
     refine⟨J,_,G,H,e,o,x,E,V,W,v,?_,f⟩;rw[<-a1,rX ω]at j;simpa using j
  rw[<-g trivial]at r z;refine⟨y,Ce r λb f=>a b (.inl (by rw[<-g trivial];exact(E3 r).trans f)),⟨λp D=>by rw[s _ (t p D)];exact O p D,λo l x v Y j=>?_,Q⟩,z,λb f=>?_⟩
  . obtain⟨a4,u,M⟩:=P o l x v Y j;exact⟨a4,Ce u λb f=>a b (X o x b v j ((E3 u).trans f)),M.mono λ_ _=>C6.mono d c⟩
  . rw[g trivial]at f;have f:=(T b).1 f;obtain⟨u,_,N⟩:=R b f;refine⟨u,i b f,?_⟩;have:=a b f;rw[uX N]at this;exact(rV.1 this).1
 |nest D e v A o r=>
  obtain⟨u,j,G⟩:=h;have H:=g trivial;have I:∀b,T5 w' (B k) (Es o r) b↔T5 w (B k) (Es o r) b:=λb=>T5.iff λb f=>a b (.inl f)
  rw[show RL U w' Z' B' k (.nest D e v A o r)=∃u,pS w' Z' B' D e v A o r (B k) u/\∀b,T5 w' (B k) (Es o r) b->U b/\¬Z' b/\b<w'.heap.size from by rw[<-H];rfl];refine⟨u,⟨Ce j.own λb f=>a b (.inl ((E3 j.own).trans f)),λp y=>(j.out p y).trans (by rw[s _ (t p y)]),λM l N x J z=>?_,j.dis,j.top⟩,λb f=>?_⟩
  . exact(j.elt M l N x J z).mono d c λb f=>a b (T5.own j.own x z f)
  . have f:=(I b).1 f;obtain⟨E,_,F⟩:=G b f;refine⟨E,i b f,?_⟩;have:=a b f;rw[uX F]at this;exact(rV.1 this).1
 |itM z A D E v left u q=>
  obtain⟨r,m,seen,H,F,o,G,f,I,O,J,P⟩:=h;have x:B4 w (B k) (.itM z A D E v left u q) r:= .inl (by rw[o];rfl);have y:B4 w (B k) (.itM z A D E v left u q) m:= .inr ⟨r,_,_,_,o,f.it⟩;exact⟨r,m,seen,H,F,(g trivial).trans o,(s q t).trans G,⟨(a r x).trans f.it,(a m y).trans f.mp,f.ok,f.all.mono d c,f.rest.mono d c,λN M=>(f.cur N M).imp λe j=>⟨j.1,j.2.1,j.2.2.1.mono λ_ _=>C6.mono d c,j.2.2.2.mono λ_ _=>C6.mono d c⟩⟩,I,i r x,J,i m y⟩
def Dx.le {m:Nat} (a:n<=m):∀ {c:C},Dx n c->Dx m c
 | .val _ _,h=>h
 | .row _,h=>rJ h a
 | .box _ _,h=>rJ h a
 | .elp _ _ _ _,h=>rJ h a
 | .win _ _ _ _,h=>rJ h a
 | .pf _ _ _,h=>h
 | .mp _,h=>rJ h a
 | .fn _ _,h=>λk b=>rJ (h k b) a
 | .fv _ _ _ _ _ _,h=>h
 | .raw _,h=>h
 | .dead,h=>h
def NC.le {m:Nat} (a:n<=m):∀ {d:DV},NC n d->NC m d
 | .one _,h=>λc b=>(h c b).le a
 | .tup _,h=>λs f c b=>(h s f c b).le a
 | .cnd _ _ _,h=>λc b=>(h c b).le a
 | .dead,h=>h
def AX.le {m:Nat} (a:n<=m):∀ {d:LC},AX n d->AX m d
 | .none,h=>h
 | .box _ _,h=>λc b=>(h c b).le a
 | .row _ _ _,h=>h
 | .map _ _ _ _ _,h=>h
 | .al _,h=>h
 | .sbox _ _ _,h=>rJ h a
 | .iter _ _ _ _ _ _,h=>h
 | .mapE _ _ _ _ _ _ _,h=>rJ h a
 | .rows _ _ _ _ _ _,h=>λp b=>rJ (h p b) a
 | .nest _ _ _ _ _ _,h=>λp b=>rJ (h p b) a
 | .itM _ _ _ _ _ _ _ _,h=>rJ h a
def pT.le {n m:Nat} {fr:List (List (Nat×Nat×DV))} (h:pT n fr) (b:n<=m):pT m fr:=λf a s=>(h f a s).le b
def RD.upd {E:I2} {d:Nat} {u:Value} :∀ {x:DV} {v:Value},GY d x=false->RD w Z B E x v->RD w Z B (upd E d u) x v
 | .one _,_,_,h=>h
 | .tup _,_,_,h=>h
 | .cnd t b s,v,a,h=>by
  have b:t≠d:=vH a;show(Gw.upd E d u t= _ /\ _)\/(Gw.upd E d u t≠ _ /\ _);rw[C5 _ _ _ _ b];exact h
 | .dead,_,_,_=>trivial
end mono
section steps
variable {za:Zn} {w0 w w':World} {Z Z':Nat->Prop} {B:Nat->Value} {st:St} {E:I2}
def C4.setS (h:C4 za w0 st E w Z B) (d:Nat) {x:DV} {v:Value} (f:RD w Z B (upd E d v) x v) (c:NC st.nx x):C4 za w0 (st.setS d x) (upd E d v) w Z B:=by
 refine⟨h.ext,h.zlt,λs=>?_,h.locs,h.disj,λs=>?_,h.refl,h.fresh,h.bone,h.zin,h.nms,h.bfix,h.mrk,h.frs,h.frf⟩
 . rw[St.S_setS];by_cases a:s=d
   . subst a;simp only[wN,C0];exact f
   . rw[qG a,C5 _ _ _ _ a];cases b:GY d (st.S s)with
     |true=>trivial
     |false=>exact RD.upd b (h.slots s)
 . rw[St.S_setS];by_cases a:s=d
   . rw[qN a];exact c
   . rw[qG a];cases b:GY d (st.S s)with
     |true=>trivial
     |false=>exact h.refs s
def C4.keep (h:C4 za w0 st E w Z B) (u:Ip za.m w0 w') (o:w.heap.size<=w'.heap.size) (f:∀b,(Z b\/∃k,B4 w (B k) (st.L k) b)->w'.heap[b]? =w.heap[b]?)
 (l:∀b,Z b->Z' b) (n:∀b,Z' b->Z b\/(b<w'.heap.size/\w0.heap.size<=b/\∀k,¬B4 w (B k) (st.L k) b)):C4 za w0 st E w' Z' B:=by
 have j:N9 Z w w':=λb c=>f b (.inl c)
 have i:∀k b,B4 w' (B k) (st.L k) b↔B4 w (B k) (st.L k) b:=λk b=>B4.iff λb g=>f b (.inr ⟨k,g⟩)
 refine⟨u,λb c=>?_,λs=>(h.slots s).mono l j (λ_ _=>rfl) (h.refs s),λk=>?_,λk r b x a t=>h.disj k r b x ((i k b).1 a) ((i r b).1 t),h.refs,h.refl,h.fresh,h.bone,λb c=>?_,h.nms,h.bfix,⟨qY h.mrk.1 o,λk b v g=>h.mrk.2 k b v ((i k b).1 g)⟩,h.frs.mono l j (λ_ _=>rfl) h.frf,h.frf⟩
 . rcases n b c with a|a
   . exact rJ (h.zlt b a) o
   . exact a.1
 . refine(h.locs k).mono l j (λ_ _=>rfl) (λ_=>rfl) (λb d=>f b (.inr ⟨k,d⟩)) (λb d c=>?_) (h.refl k);rcases n b c with a|a
   . exact((h.locs k).root d).2.2 a
   . exact a.2.2 k d
 . rcases n b c with a|a
   . exact h.zin b a
   . exact .inr a.2.1
def C4.ft (h:C4 za w0 st E w Z B) (f:R8 w w') {k b:Nat} (d:B4 w' (B k) (st.L k) b):B4 w (B k) (st.L k) b:=(B4.iff λc a=>f.block c ((h.locs k).root a).2.1).1 d
def C4.more (h:C4 za w0 st E w Z B) (c:R8 w w') (d:∀b,Z b->Z' b) (f:∀b,Z' b->Z b\/(w.heap.size<=b/\b<w'.heap.size)):C4 za w0 st E w' Z' B:=by
 refine h.keep (h.ext.trans c) c.size (λb a=>c.block b ?_) d (λb a=>?_)
 . rcases a with a| ⟨k,d⟩
   . exact h.zlt b a
   . exact((h.locs k).root d).2.1
 . rcases f b a with c|c
   . exact .inl c
   . exact .inr ⟨c.2,qY h.ext.size c.1,λk d=>by have:=((h.locs k).root d).2.1;omega⟩
def C4.new (h:C4 za w0 st E w Z B) {v:Value} {lc:LC} (f:RL (up za w0 st.nx) w Z (upd B st.nx v) st.nx lc) (r:∀k b,B4 w v lc b->¬B4 w (B k) (st.L k) b) (D:AX (st.nx+1) lc) (F:v.oneCell'=true) (A:∀b,za.k0<=st.nx->B4 w v lc b->za.b0<=b):
 C4 za w0 (st.newL lc) E w Z (upd B st.nx v):=by
 have d:∀k,k<st.nx->(upd B st.nx v) k=B k:=λk a=>C5 _ _ _ _ (uD a)
 have l:(upd B st.nx v) st.nx=v:=C0 _ _ _;have j:∀k,live (st.L k)->k<st.nx:=λk a=>by
  by_cases z:k<st.nx
  . exact z
  . rw[h.fresh k ω]at a;exact a.elim
 have o:N9 Z w w:=λ_ _=>rfl
 refine⟨h.ext,h.zlt,λs=>(h.slots s).mono (λ_=>id) o d (h.refs s),λk=>?_,?_,λs=>(h.refs s).le (uH _),λk=>?_,λk a=>?_,λk=>?_,h.zin,⟨h.nms.1,xW h.nms.2⟩,λk a=>(d k (rJ a h.nms.2)).trans (h.bfix k a),⟨h.mrk.1,λk b a f=>?_⟩,h.frs.mono (λ_=>id) o d h.frf,h.frf.le (uH _)⟩
 . rw[St.L_newL];by_cases a:k=st.nx
   . subst a;rw[qN rfl];exact f
   . rw[qG a];exact(h.locs k).mono (λ_=>id) o d (λy=>d k (j k y)) (λ_ _=>rfl) (λb x G=>((h.locs k).root x).2.2 G) (h.refl k)
 . intro k i b u g c;rw[St.L_newL]at g c;by_cases a:k=st.nx
   . subst a;rw[qG (Ne.symm u)]at c;rw[qN rfl,l]at g;rw[d i (j i c.live)]at c;exact r i b g c
   . rw[qG a]at g;rw[d k (j k g.live)]at g;by_cases n:i=st.nx
     . subst n;rw[qN rfl,l]at c;exact r k b c g
     . rw[qG n]at c;rw[d i (j i c.live)]at c;exact h.disj k i b u g c
 . rw[St.L_newL];by_cases a:k=st.nx
   . rw[qN a];exact D
   . rw[qG a];exact(h.refl k).le (uH _)
 . rw[St.L_newL];have n:st.nx+1<=k:=a;rw[qG ω];exact h.fresh k ω
 . by_cases a:k=st.nx
   . rw[a,l];exact F
   . rw[C5 _ _ _ _ a];exact h.bone k
 . rw[St.L_newL]at f;by_cases t:k=st.nx
   . subst t;rw[qN rfl,l]at f;exact A b a f
   . rw[qG t]at f;rw[d k (j k f.live)]at f;exact h.mrk.2 k b a f
def C4.drop (h:C4 za w0 st E w Z B) (k:Nat):C4 za w0 (st.setL k .none) E w Z B:=by
 refine⟨h.ext,h.zlt,h.slots,λq=>?_,λq j d g a b=>?_,h.refs,λq=>?_,λq i=>?_,h.bone,h.zin,h.nms,h.bfix,⟨h.mrk.1,λq d f c=>(by rw[St.L_setL]at c;split at c;exact c.elim;exact h.mrk.2 q d f c)⟩,h.frs,h.frf⟩
 . rw[St.L_setL];split
   . trivial
   . exact h.locs q
 . rw[St.L_setL]at a b;split at a
   . exact a.elim
   . split at b
     . exact b.elim
     . exact h.disj q j d g a b
 . rw[St.L_setL];split
   . trivial
   . exact h.refl q
 . rw[St.L_setL];split
   . rfl
   . exact h.fresh q i
def C4.chg (h:C4 za w0 st E w Z B) {k b:Nat} {lc:LC} (n:live (st.L k)) (j:B4 w (B k) (st.L k) b) (g:XR b w w') (x:RL (up za w0 k) w' Z B k lc) (z:AX st.nx lc) (l:∀b,B4 w' (B k) lc b->root (B k)=some b\/B4 w (B k) (st.L k) b):C4 za w0 (st.setL k lc) E w' Z B:=by
 have s:=(h.locs k).root j;have l:∀b,B4 w' (B k) lc b->B4 w (B k) (st.L k) b:=λb hh=>(l b hh).elim (B4.of n) id
 have c:C4 za w0 (st.setL k .none) E w' Z B:=by
  refine(h.drop k).keep (h.ext.chg g s.1.m) (by rw[g.2.2.2.1];exact qV _) (λq a=>g.2.2.2.2 q ?_) (λ_=>id) (λ_=> .inl);rintro rfl;rcases a with a| ⟨t,d⟩
  . exact s.2.2 a
  . rw[St.L_setL]at d;by_cases o:t=k
    . rw[qN o]at d;exact d.elim
    . rw[qG o]at d;exact h.disj t k q o d j
 have F:k<st.nx:=by
  by_cases o:k<st.nx
  . exact o
  . rw[h.fresh k ω]at n;exact n.elim
 have i:∀q,(st.setL k lc).L q=if q=k then lc else(st.setL k .none).L q:=λq=>by
  rw[St.L_setL,St.L_setL];split<;>simp_all
 have r:∀q b,B4 w' (B q) ((st.setL k lc).L q) b->B4 w (B q) (st.L q) b:=λq f a=>by
  rw[St.L_setL]at a;split at a
  . rename_i e;rw[e]at a|-;exact l f a
  . refine(B4.iff λo t=>g.2.2.2.2 o ?_).1 a;rintro rfl;rename_i e;exact h.disj q k o e t j
 refine⟨c.ext,c.zlt,c.slots,λq=>?_,λq u f y A D=>?_,c.refs,λq=>?_,λq a=>?_,h.bone,h.zin,h.nms,h.bfix,⟨c.mrk.1,λq b v d=>h.mrk.2 q b v (r q b d)⟩,c.frs,c.frf⟩
 . rw[i];split
   . rename_i a;rw[a];exact x
   . exact c.locs q
 . exact h.disj q u f y (r q f A) (r u f D)
 . rw[i];split
   . exact z
   . exact c.refl q
 . rw[i,qG (by have:st.nx<=q:=a;omega)];exact c.fresh q a
def C4.relc (h:C4 za w0 st E w Z B) {k:Nat} {lc:LC} (d:live (st.L k)) (i:RL (up za w0 k) w Z B k lc) (n:AX st.nx lc) (g:∀b,B4 w (B k) lc b->root (B k)=some b\/B4 w (B k) (st.L k) b):C4 za w0 (st.setL k lc) E w Z B:=by
 have a:k<st.nx:=by
  by_cases a:k<st.nx
  . exact a
  . rw[h.fresh k ω]at d;exact d.elim
 have f:∀q b,B4 w (B q) ((st.setL k lc).L q) b->B4 w (B q) (st.L q) b:=λq c a=>by
  rw[St.L_setL]at a;split at a
  . rename_i e;rw[e]at a|-;exact(g c a).elim (B4.of d) id
  . exact a
 refine⟨h.ext,h.zlt,h.slots,λq=>?_,λq d c l o r=>?_,h.refs,λq=>?_,λq a=>?_,h.bone,h.zin,h.nms,h.bfix,⟨h.mrk.1,λq b g j=>h.mrk.2 q b g (f q b j)⟩,h.frs,h.frf⟩
 . rw[St.L_setL];split
   . rename_i a;rw[a];exact i
   . exact h.locs q
 . exact h.disj q d c l (f q c o) (f d c r)
 . rw[St.L_setL];split
   . exact n
   . exact h.refl q
 . rw[St.L_setL,qG (by have:st.nx<=q:=a;omega)];exact h.fresh q a
def C4.addL (h:C4 za w0 st E w Z B) {k:Nat} {lc:LC} (v:k<st.nx) (s:RL (up za w0 k) w Z B k lc) (l:∀j b,j≠k->B4 w (B k) lc b->¬B4 w (B j) (st.L j) b) (u:AX st.nx lc) (t:∀b,za.k0<=k->B4 w (B k) lc b->za.b0<=b):C4 za w0 (st.setL k lc) E w Z B:=by
 refine⟨h.ext,h.zlt,h.slots,λq=>?_,λq i b g d c=>?_,h.refs,λq=>?_,λq a=>?_,h.bone,h.zin,h.nms,h.bfix,⟨h.mrk.1,λq b n f=>(by
  rw[St.L_setL]at f;by_cases r:q=k
  . subst r;rw[qN rfl]at f;exact t b n f
  . rw[qG r]at f;exact h.mrk.2 q b n f)⟩,h.frs,h.frf⟩
 . rw[St.L_setL];split
   . rename_i a;rw[a];exact s
   . exact h.locs q
 . rw[St.L_setL]at d c;by_cases a:q=k
   . subst a;rw[qG (Ne.symm g)]at c;rw[qN rfl]at d;exact l i b (Ne.symm g) d c
   . rw[qG a]at d;by_cases o:i=k
     . subst o;rw[qN rfl]at c;exact l q b a c d
     . rw[qG o]at c;exact h.disj q i b g d c
 . rw[St.L_setL];split
   . exact u
   . exact h.refl q
 . rw[St.L_setL,qG (by have:st.nx<=q:=a;omega)];exact h.fresh q a
def X2 {v:Value} {t c:Ty} {e e' d j b:Nat} {ls:List (List t.den)} {k:List (List c.den)} {al f:List (Nat×Nat)} {a:Option Nat} (h:∀g,root v=some g->w'.heap[g]? =w.heap[g]?):B4 w' v (.rows c d j k f a) b↔B4 w v (.rows t e e' ls al a) b:=by
 refine g4a yA ⟨fun⟨g,n,cap,cur,e,i,x,hv,hg,r⟩=>⟨g,n,cap,cur,e,i,x,hv,?_,r⟩,fun⟨g,n,cap,cur,e,i,x,hv,hg,r⟩=>⟨g,n,cap,cur,e,i,x,hv,?_,r⟩⟩
 . rw[<-h g (by rw[hv];rfl)];exact hg
 . rw[h g (by rw[hv];rfl)];exact hg
def C0z {U:Nat->Prop} {t:Ty} {k e e' i q b:Nat} {ls:List (List t.den)} {al:List (Nat×Nat)} {l:List t.den} {v:List Value} (h:RL U w Z B k (.rows t e e' ls al none)) (X:(i,q)∈al) (d:root (B q)=some b) (j:XR b w w') (a0:¬Z b) (W:w'.ownsRow 0 e' t.size (B q) l.length v) (T:G3 (C6 t w' Z) v l):
 RL U w' Z B k (.rows t e e' (ls.set i l) al none)/\B4 w (B k) (.rows t e e' ls al none) b/\root (B k)≠some b:=by
 obtain⟨a3,f,⟨y,Q,z⟩,A,R⟩:=h;have c:=(y _ X).resolve_right λhh=>by rw[hh.2]at d;simp[Vc.root]at d
 have E:i<ls.length:=by have:=(sQ.1 c).1;have a5:=f.1;omega
 have F:root (B k)≠some b:=A i _ b rfl c d;have G:N9 Z w w':=λr hc'=>j.2.2.2.2 r (λe=>a0 (e▸hc'))
 have D:∀g,root (B k)=some g->w'.heap[g]? =w.heap[g]?:=λg a=>j.2.2.2.2 g (λe=>F (e▸a))
 refine⟨⟨a3,by rw[qM];exact Ce f (λg a=>D g ((E3 f).trans a)),⟨y,λu a1 a2 _ n o=>?_,z⟩,A,λr V=>?_⟩,?_,F⟩
 . by_cases s:i=u
   . subst s;rw[sJ E]at n;cases n;rw[c]at o;cases o;exact⟨v,W,T⟩
   . rw[sV s]at n;obtain⟨a4,x,P⟩:=Q u a1 a2 rfl n o;refine⟨a4,Ce x (λg a=>j.2.2.2.2 g (λe=>?_)),P.mono λ_ _=>C6.mono (λ_=>id) G⟩;subst e;exact z i u _ _ g s rfl rfl c o d ((E3 x).trans a)
 . obtain⟨I,J,M⟩:=R r ((X2 D).1 V);exact⟨I,J,by rw[j.2.2.2.1];exact M⟩
 . refine .inr ?_;rcases f.2 with⟨H,a7⟩ | ⟨g,N,O,H,_,a,a6,_,G,Y⟩
   . omega
   . refine⟨g,_,N,O,e,i,_,H,a,E,rfl,?_,d⟩;rw[<-Y,rX ω]at c;simpa using c
def Dd (w:World) (Z:Nat->Prop) (t:Ty) (e e':TypeId) (v:Value) (ls:List (List t.den)):Prop:=
 ∃a:List Value,w.ownsRow 0 e 1 v ls.length a/\(∀(i:Nat) (l:List t.den) (x:Value),ls[i]? =some l->a[i]? =some x->∃b,w.ownsRow 0 e' t.size x l.length b/\G3 (C6 t w Z) b l)/\
  (∀(i j:Nat) (x y:Value) (b:Nat),i≠j->a[i]? =some x->a[j]? =some y->root x=some b->root y≠some b)/\∀(i:Nat) (x:Value) (b:Nat),a[i]? =some x->root x=some b->root v≠some b
def RL.rowsR {U:Nat->Prop} {t:Ty} {k e e':Nat} {ls:List (List t.den)} {al:List (Nat×Nat)} (h:RL U w Z B k (.rows t e e' ls al none)):Dd w Z t e e' (B k) ls:=by
 obtain⟨c,b,⟨a,d,f⟩,g,i⟩:=h;exact⟨c,b,λi r x l a=>d i r x rfl l a,λi o x y b j a n c=>f i o x y b j rfl rfl a n c,λi x b a c=>g i x b rfl a c⟩
def Dd.rl {U:Nat->Prop} {t:Ty} {k e e':Nat} {ls:List (List t.den)} (h:Dd w Z t e e' (B k) ls) (g:∀b,B4 w (B k) (.rows t e e' ls [] none) b->U b/\¬Z b/\b<w.heap.size):RL U w Z B k (.rows t e e' ls [] none):=by
 obtain⟨o,a,c,d,f⟩:=h;exact⟨o,a,⟨λp n=>(by cases n),λi l x _ hl hx=>c i l x hl hx,λi j x y b hij _ _ hx hy hb=>d i j x y b hij hx hy hb⟩,λi x b _ hx hb=>f i x b hx hb,g⟩
def Dd.mono {t:Ty} {e e':Nat} {v:Value} {ls:List (List t.den)} (k:∀b,Z b->Z' b) (h:Dd w Z t e e' v ls):Dd w Z' t e e' v ls:=by
 obtain⟨o,c,d,f,g⟩:=h;exact⟨o,c,λl n x i j=>(d l n x i j).imp λr a=>⟨a.1,a.2.mono λ_ _=>C6.mono k (λ_ _=>rfl)⟩,f,g⟩
end steps
def mW (P:Program) (r:TypeId->Ty->Bool):List Field->Nat->Ty->Bool
 | [],_, .unit=>true
 | [f],b,a=>Nat.beq f.offset b&&r f.type a&&Nat.beq (P.cellsOf f.type) a.size
 |f::g::d,b, .pair a c=>Nat.beq f.offset b&&r f.type a&&Nat.beq (P.cellsOf f.type) a.size&&mW P r (g::d) (b+a.size) c
 | _,_,_=>false
def mU (r:Ty->Bool) (sz:Nat):Nat->Ty->Bool
 |0, .unit=>true
 |1,a=>r a&&Nat.beq a.size sz
 |n+2, .pair a b=>r a&&Nat.beq a.size sz&&mU r sz (n+1) b
 | _,_=>false
def A1n (P:Program):Nat->TypeId->Ty->Bool
 |0,_,_=>false
 |n+1,T,a=>match P.underlying T with
  |some (.int k)=>(match a with| .int k'=>decide (k=k') | _=>false)
  |some .bool=>(match a with| .bool=>true| _=>false)
  |some (.struct b)=>mW P (A1n P n) b.toList 0 a&&Nat.beq (P.cellsOf T) a.size&&b.all (·.name != "_")
  |some (.array m e)=>mU (A1n P n e) (P.cellsOf e) m a&&Nat.beq (P.cellsOf T) a.size
  | _=>false
def Mx:(t:Ty)->t.den->List Lit
 | .int k,n=> [.int k n]
 | .bool,b=> [.bool b]
 | .pair a b,x=>Mx a x.1++Mx b x.2
 | _,_=> []
def Hw:Ty->Bool
 | .int _=>true
 | .bool=>true
 | .unit=>true
 | .pair a b=>Hw a&&Hw b
 | _=>false
def GW:(t:Ty)->t.den->t.den->Bool
 | .int _,a,b=>decide ((show Int from a)=b)
 | .bool,a,b=>(show Bool from a)==b
 | .pair a b,x,y=>GW a x.1 y.1&&GW b x.2 y.2
 | _,_,_=>true
def aD:∀ {t:Ty} {x y:t.den},(Mx t x).length=(Mx t y).length
 | .int _,_,_=>rfl
 | .bool,_,_=>rfl
 | .pair a b,x,y=>by simp only[Mx,rQ];rw[aD (t:=a) (x:=x.1) (y:=y.1),aD (t:=b) (x:=x.2) (y:=y.2)]
 | .str,_,_=>rfl
 | .unit,_,_=>rfl
 | .sl _,_,_=>rfl
 | .ptr _,_,_=>rfl
 | .mp _ _ _ _,_,_=>rfl
def aC:∀ {t:Ty} {x y:t.den},Hw t=true->(Mx t x=Mx t y↔x=y)
 | .int _,x,y,_=>by simp[Mx]
 | .bool,x,y,_=>by simp[Mx]
 | .unit,x,y,_=>by simp[Mx]
 | .pair a b,x,y,h=>by
  simp only[Hw,qC]at h;simp only[Mx];constructor
  . intro e;have:=List.append_inj e aD;exact g3v ((aC h.1).1 this.1) ((aC h.2).1 this.2)
  . rintro rfl;rfl
 | .str,_,_,h=>by cases h
 | .sl _,_,_,h=>by cases h
 | .ptr _,_,_,h=>by cases h
 | .mp _ _ _ _,_,_,h=>by cases h
def WY:∀ {t:Ty} {x y:t.den},Hw t=true->(GW t x y=true↔x=y)
 | .int _,x,y,_=>by simp[GW]
 | .bool,x,y,_=>by simp[GW]
 | .unit,x,y,_=>by simp[GW]
 | .pair a b,x,y,h=>by
  simp only[Hw,qC]at h;simp only[GW,qC,WY h.1,WY h.2];exact⟨fun⟨a,b⟩=>g3v a b,λe=>by rw[e];exact⟨rfl,rfl⟩⟩
 | .str,_,_,h=>by cases h
 | .sl _,_,_,h=>by cases h
 | .ptr _,_,_,h=>by cases h
 | .mp _ _ _ _,_,_,h=>by cases h
def Px:∀ {t:Ty} {w w':World} {Z Z':Nat->Prop} {cs cs':List Value} {x:t.den},Hw t=true->C6 t w Z cs x->C6 t w' Z' cs' x->cs=cs'
 | .int _,_,_,_,_,_,_,_,_,h,a=>h.1.trans a.1.symm
 | .bool,_,_,_,_,_,_,_,_,h,a=>(show _= _ from h).trans (show _= _ from a).symm
 | .unit,_,_,_,_,_,_,_,_,h,a=>(show _= _ from h).trans (show _= _ from a).symm
 | .pair h i,_,_,_,_,_,_,_,a,⟨c1,k,e,c,f⟩,⟨j,l,b,d,g⟩=>by
  simp only[Hw,qC]at a;rw[e,b,Px a.1 c d,Px a.2 f g]
 | .str,_,_,_,_,_,_,_,h,_,_=>by cases h
 | .sl _,_,_,_,_,_,_,_,h,_,_=>by cases h
 | .ptr _,_,_,_,_,_,_,_,h,_,_=>by cases h
 | .mp _ _ _ _,_,_,_,_,_,_,_,h,_,_=>by cases h
section
variable {P:Program} {w:World} {Z:Nat->Prop}
def iI {n:Nat} {r:TypeId->Ty->Bool} {cs:List Value} (c:∀ {T:TypeId} {ty:Ty} {cs:List Value} {x:ty.den},r T ty=true->C6 ty w Z cs x->P.keyLits n T cs=some (Mx ty x)):
 ∀ {b:List Field} {off:Nat} {ty:Ty} {x:ty.den},mW P r b off ty=true->C6 ty w Z (cs.drop off) x->∃ls,b.mapM (λf=>P.keyLits n f.type ((cs.drop f.offset).take (P.cellsOf f.type)))=some ls/\ls.flatten=Mx ty x
 | [],off,ty,x,h,a=>by
  cases ty<;>simp[mW]at h;exact⟨[],rfl,rfl⟩
 | [f],off,ty,x,i,d=>by
  have a:(Nat.beq f.offset off&&r f.type ty&&Nat.beq (P.cellsOf f.type) ty.size)=true:=by cases ty<;>exact i
  simp only[qC]at a;have g:=qE a.1.1;have h:=qE a.2;have j:=C6.length d;refine⟨[Mx ty x],?_,by simp⟩;rw[wW,g,h,qW ω,c a.1.2 d];rfl
 |f::B::b,off,ty,x,h,v=>by
  cases ty<;>simp only[mW]at h<;>try cases h
  rename_i a z;simp only[qC]at h;obtain⟨⟨⟨k,l⟩,o⟩,s⟩:=h;obtain⟨c1,A,e,g,y⟩:=v;have d:=C6.length g;have i:=qE k;have j:=qE o;obtain⟨ls,u,t⟩:=iI (cs:=cs) (off:=off+a.size) (x:=x.2) c s (by rw[<-vZ,e,zU d];exact y);refine⟨Mx a x.1::ls,?_,by simp[Mx,t]⟩;rw[wW,i,j,e,g1a d,c l g,u];rfl
def iH {n e sz:Nat} {r:Ty->Bool} (b:∀ {ty:Ty} {cs:List Value} {x:ty.den},r ty=true->C6 ty w Z cs x->P.keyLits n e cs=some (Mx ty x)):
 ∀ {m i:Nat} {ty:Ty} {cs:List Value} {x:ty.den},mU r sz m ty=true->C6 ty w Z (cs.drop (i*sz)) x->∃ls,(List.range' i m).mapM (λi=>P.keyLits n e ((cs.drop (i*sz)).take sz))=some ls/\ls.flatten=Mx ty x
 |0,i,ty,cs,x,h,a=>by
  cases ty<;>simp[mU]at h;exact⟨[],rfl,rfl⟩
 |1,i,ty,cs,x,h,c=>by
  have a:(r ty&&Nat.beq ty.size sz)=true:=by cases ty<;>exact h
  simp only[qC]at a;have d:=qE a.2;have f:=C6.length c;refine⟨[Mx ty x],?_,by simp⟩;rw[List.range'_one,wW,qW ω,b a.1 c];rfl
 |m+2,i,ty,cs,x,h,l=>by
  cases ty<;>simp only[mU]at h<;>try cases h
  rename_i c s;simp only[qC]at h;obtain⟨⟨d,f⟩,g⟩:=h;obtain⟨c1,t,e,a,o⟩:=l;have v:=C6.length a;have u:=qE f;obtain⟨ls,k,j⟩:=iH (cs:=cs) (i:=i+1) (x:=x.2) b g (by rw[uI, <-vZ,e,zU ω];exact o);refine⟨Mx c x.1::ls,?_,by simp[Mx,j]⟩;rw[g5h,wW,e,g1a ω,b d a,k];rfl
def WZ:∀ {n:Nat} {T:TypeId} {ty:Ty} {cs:List Value} {x:ty.den},A1n P n T ty=true->C6 ty w Z cs x->P.keyLits n T cs=some (Mx ty x)
 |0,_,_,_,_,h,_=>by cases h
 |n+1,T,ty,cs,x,h,a=>by
  unfold A1n at h;unfold Program.keyLits;split at h
  . rename_i l b;cases ty<;>simp only at h<;>try cases h
    have:=qA h;subst this;obtain⟨e,g⟩:=a;simp only[b,e];rw[qN ⟨trivial,by simp only[Lit.wf,qC,rS];exact g⟩];rfl
  . rename_i b;cases ty<;>simp only at h<;>try cases h
    simp only[b,show cs= _ from a];rfl
  . rename_i k b;simp only[qC]at h;have f:=C6.length a;obtain⟨j,c,d⟩:=iI (n:=n) (cs:=cs) (off:=0) (λhh a=>WZ hh a) h.1.1 (by simpa using a);simp only[b];rw[qN ⟨by rw[f,qE h.1.2],h.2⟩,c];simp[d]
  . rename_i m e b;simp only[qC]at h;have f:=C6.length a;obtain⟨j,c,d⟩:=iH (n:=n) (e:=e) (sz:=P.cellsOf e) (i:=0) (cs:=cs) (λhh a=>WZ hh a) h.1 (by simpa using a);simp only[b];rw[qN (by rw[f,qE h.2]),g3p,c];simp[d]
  . cases h
def FQ (P:Program) (T:TypeId) (a:Bool) (ty:Ty):Bool:=A1n P 20 T ty&&P.keyTypeAt 20 T&&Hw ty&& !(P.eqGuardType P.depth T)&&(match P.underlying T with|some (.struct _)=>a|some (.array _ _)=>a| _=> !a)
def IK {T:TypeId} {a:Bool} {ty:Ty} {v:Value} {x:ty.den} (h:FQ P T a ty=true) (i:U9 (C6 ty w Z) a v x):v.formed P T=true/\P.keyLits 20 T v.cells.toList=some (Mx ty x):=by
 simp only[FQ,qC]at h;obtain⟨⟨⟨⟨b,l⟩,n⟩,_⟩,d⟩:=h;cases a with
 |true=>
  obtain⟨k,e,g⟩:=i;subst e;have j:=WZ b g;have f:=C6.length g;refine⟨?_,j⟩;unfold A1n at b;split at b
  . rename_i c;simp[c]at d
  . rename_i c;simp[c]at d
  . rename_i c;simp only[qC]at b;simp only[Value.formed,c];have:=qE b.1.2;simp[this,f]
  . rename_i c;simp only[qC]at b;simp only[Value.formed,c];have:=qE b.2;simp[this,f]
  . cases b
 |false=>
  have f:C6 ty w Z [v] x:=i;have g:=WZ b f;unfold A1n at b;split at b
  . rename_i k c;cases ty<;>simp only at b<;>try cases b
    have e:=f.1;simp only[sO,vY]at e;subst e;exact⟨by simp[Value.formed,c],g⟩
  . rename_i c;cases ty<;>simp only at b<;>try cases b
    have e: [v]= [.bool x]:=f;simp only[sO,vY]at e;subst e;exact⟨by simp[Value.formed,c],g⟩
  . rename_i c;simp[c]at d
  . rename_i c;simp[c]at d
  . cases b
def IJ {T:TypeId} {a:Bool} {ty:Ty} (h:FQ P T a ty=true):Hw ty=true:=by
 simp only[FQ,qC]at h;exact h.1.1.2
def iS {T:TypeId} {a:Bool} {ty:Ty} {v b:Value} {x y:ty.den} (h:FQ P T a ty=true) (j:U9 (C6 ty w Z) a v x) (k:U9 (C6 ty w Z) a b y) (w':World):(Op.equalIn 10000 T v b).run P w'= .ok (GW ty x y) w':=by
 obtain⟨d,l⟩:=IK h j;obtain⟨f,n⟩:=IK h k;have c:=IJ h;simp only[FQ,qC]at h;obtain⟨r,i,g⟩:=run_equalIn_deep (P:=P) 9980 20 T h.1.1.1.2 w' 20 20 v b _ _ d f l n;rw[i];have:r=GW ty x y:=by
  rw[aC c, <-WY c]at g;cases r<;>cases o:GW ty x y<;>simp_all
 rw[this]
def Si {T:TypeId} {a:Bool} {ty:Ty} {v:Value} {x:ty.den} (h:FQ P T a ty=true) (d:U9 (C6 ty w Z) a v x) (w':World) (b:Bool):(Instr.checkKey b 10000 T v).run P w'= .ok () w':=by
 obtain⟨c,f⟩:=IK h d;simp only[FQ,qC]at h;exact run_checkKey_deep (P:=P) b 9980 20 T h.1.1.1.2 w' 20 v _ c f
def O7 {α:Type} (t:Ty) (k:t.den):List (t.den×α)->Nat->Option Nat
 | [],_=>none
 |x::l,i=>bif GW t k x.1 then some i else O7 t k l (i+1)
def V5 {α:Type} (t:Ty) (k:t.den):List (t.den×α)->Option α
 | []=>none
 |x::l=>bif GW t k x.1 then some x.2 else V5 t k l
def Hq {α:Type} (t:Ty) (k:t.den) (v:α):List (t.den×α)->List (t.den×α)
 | []=> [(k,v)]
 |x::l=>bif GW t k x.1 then(k,v)::l else x::Hq t k v l
def AD {T:TypeId} {g:Bool} {a:Ty} {n:Type} {Rv:Value->n->Prop} {v:Value} {k:a.den} (h:FQ P T g a=true) (D:U9 (C6 a w Z) g v k) (w':World):
 ∀ {l:List (a.den×n)} {es:List MapEntry},U2 (U9 (C6 a w Z) g) Rv es l->(Instr.findKey T v es).run P w'= .ok ((O7 a k l 0).bind λj=>(es[j]?).map λe=>(j,e.val)) w':=by
 have J:∀ {l:List (a.den×n)} {es:List MapEntry} (i:Nat),U2 (U9 (C6 a w Z) g) Rv es l->(Instr.findAsking T v es i).run P w'= .ok ((O7 a k l i).bind λj=>(es[j-i]?).map λe=>(j,e.val)) w':=by
  intro l
  induction l with
  |nil=>intro es i b;rw[show es= []from b];rfl
  |cons x l u=>
   intro es i b;obtain⟨e,M,rfl,f,o,F⟩:=b;have I:=iS h D f w';unfold Instr.findAsking O7;simp only[Sem.run_bind,Op.equal,Op.maxDepth,I,Result.andThen_ok];cases GW a k x.1 with
   |true=>simp
   |false=>
    simp only[wB,yF,rK];rw[u (i+1) F];cases H:O7 a k l (i+1)with
    |none=>rfl
    |some j=>
     have N:i+1<=j:=by
      have:∀(l:List (a.den×n)) (i j:Nat),O7 a k l i=some j->i<=j:=by
       intro l
       induction l with
       |nil=>intro i j t;cases t
       |cons y l u=>
        intro i j t;unfold O7 at t;cases A:GW a k y.1 with
        |true=>simp[A]at t;omega
        |false=>simp[A]at t;have:=u _ _ t;omega
      exact this _ _ _ H
     simp only[wG];rw[(ω:j-i=(j-(i+1))+1)];simp
 intro l es b;have G:=J 0 b;by_cases z:(match P.underlying T with|some (.array _ _) |some (.struct _)=>true| _=>false)=true
 . rw[run_findKey_eq w' z];exact G
 . have B:=h;simp only[FQ,qC]at B;obtain⟨⟨⟨⟨d,_⟩,_⟩,_⟩,s⟩:=B;have E:∀(r:TypeDesc),P.underlying T=some r->(∀(v v':Value) (x y:a.den),U9 (C6 a w Z) g v x->U9 (C6 a w Z) g v' y->Instr.sameNow r v v'=some (GW a x y))->∀ {l:List (a.den×n)} {es:List MapEntry} (i:Nat),U2 (U9 (C6 a w Z) g) Rv es l->Instr.findNow r v es i=some ((O7 a k l i).bind λj=>(es[j-i]?).map λe=>(j,e.val)):=by
    intro r N I l
    induction l with
    |nil=>intro es i b;rw[show es= []from b];rfl
    |cons x l A=>
     intro es i b;obtain⟨e,M,rfl,f,o,F⟩:=b;unfold Instr.findNow O7;rw[I _ _ _ _ D f];cases u:GW a k x.1 with
     |true=>simp
     |false=>
      simp only[rK];rw[A (i+1) F];cases H:O7 a k l (i+1)with
      |none=>rfl
      |some j=>
       have O:i+1<=j:=by
        have:∀(l:List (a.den×n)) (i j:Nat),O7 a k l i=some j->i<=j:=by
         intro l
         induction l with
         |nil=>intro i j t;cases t
         |cons y l A=>
          intro i j t;unfold O7 at t;cases u:GW a k y.1 with
          |true=>simp[u]at t;omega
          |false=>simp[u]at t;have:=A _ _ t;omega
        exact this _ _ _ H
       simp only[wG];rw[(ω:j-i=(j-(i+1))+1)];simp
   unfold A1n at d;split at d
   . rename_i q c;simp only[c,rO]at s;subst s;cases a<;>simp only at d<;>try cases d
     have:=qA d;subst this;have:=E _ c (λv v' x y f o=>by
      have t:=f.1;have u:=o.1;simp only[sO,vY]at t u;rw[t,u];simp[Instr.sameNow,GW,BEq.beq]) 0 b
     simp[Instr.findKey,run_underlying c,this]
   . rename_i c;simp only[c,rO]at s;subst s;cases a<;>simp only at d<;>try cases d
     have:=E _ c (λv v' x y f o=>by
      have t: [v]= [.bool x]:=f;have u: [v']= [.bool y]:=o;simp only[sO,vY]at t u;rw[t,u];simp[Instr.sameNow,GW]) 0 b
     simp[Instr.findKey,run_underlying c,this]
   . rename_i c;simp[c]at z
   . rename_i c;simp[c]at z
   . cases d
end
def Oz (k:IntKind) (n:Int):LU k (k.wrap n):=by
 unfold LU;cases k<;>simp only[IntKind.wrap,IntKind.min,IntKind.max,IntKind.signed,IntKind.bits]<;>simp<;>(try split)<;>omega
def A2f (k:IntKind):LU k 0:=by unfold LU;cases k<;>decide
def B9p (k:IntKind):k.min<=0/\0<=k.max:=A2f k
def C1y {k:IntKind} {a b:Int} (l:LU k a):LU k (a.tmod b):=by
 have j:=B9p k;unfold LU at*;rcases g4w 0 a with h|h
 . have d:=zT b h;have f:a.tmod b<=a:=by
    rw[uG h];by_cases g:b=0
    . subst g;simp
    . have i:=yP a b;rcases g4w 0 b with c|c
      . have:=tU c (g0z h c);omega
      . have:=g0a c (zQ h c);omega
   omega
 . have d:0<=(-a).tmod b:=zT b ω;have f:(-a).tmod b<= -a:=by
    rw[uG ω];by_cases g:b=0
    . subst g;simp
    . have i:=yP (-a) b;rcases g4w 0 b with c|c
      . have:=tU c (g0z (ω:0<= -a) c);omega
      . have:=g0a c (zQ (ω:0<= -a) c);omega
   rw[Int.neg_tmod]at d f;omega
def B7w {k:IntKind} {a:Int} (n:Nat) (f:LU k a):LU k (a.fdiv (2^n)):=by
 have d:=B9p k;have b:(0:Int)<2^n:=Int.pow_pos δ;have c:(1:Int)<=2^n:=b;unfold LU at*;rw[sL _ ω];constructor
 . rw[g2p b];have:k.min*2^n<=k.min*1:=Int.mul_le_mul_of_nonpos_left d.1 c;omega
 . have:a/2^n<k.max+1:=by
    rw[g2o b];have:(k.max+1)*1<=(k.max+1)*2^n:=uF c ω;omega
   omega
structure TI where
 ty:Ty
 agg:Bool
 elem:TypeId:=0
 fields:List (Nat×Nat×Bool):= []
 arr:Nat:=0
 bytes:Nat:=0
 eq:Bool:=false
 key:TypeId:=0
 rows:Bool:=false
 nest:List Nat:= []
def zc (t:Ty) (vs:List Value):Option (List Value):=
 match t with
 | .int k=>(match vs with| .int k' n::r=>bif decide (k=k')&&decide (n=0)then some r else none| _=>none)
 | .bool=>(match vs with| .bool b::r=>bif b then none else some r| _=>none)
 | .str=>(match vs with| .string s::r=>bif s.data.isEmpty then some r else none| _=>none)
 | .unit=>some vs
 | .pair a b=>(zc a vs).bind (zc b)
 | .sl _=>(match vs with| .slice none 0 0::r=>some r| _=>none)
 | .ptr _=>(match vs with| .pointer none::r=>some r| _=>none)
 | .mp _ _ _ _=>(match vs with| .map none::r=>some r| _=>none)
def Fb:Ty->List Value
 | .int k=> [.int k 0]
 | .bool=> [.bool false]
 | .str=> [.string ⟨#[]⟩]
 | .unit=> []
 | .pair a b=>Fb a++Fb b
 | .sl _=> [.slice none 0 0]
 | .ptr _=> [.pointer none]
 | .mp _ _ _ _=> [.map none]
def pJ:∀ {t:Ty} {vs r:List Value},zc t vs=some r->vs=Fb t++r
 | .int k,vs,r,h=>by
  simp only[zc]at h;split at h
  . rename_i c n d;cases a:decide (k=c)<;>simp[a]at h;cases b:decide (n=0)<;>simp at b a<;>simp[b]at h;subst b a h;rfl
  . cases h
 | .bool,vs,r,h=>by
  simp only[zc]at h;split at h
  . rename_i b a;cases b<;>simp at h;subst h;rfl
  . cases h
 | .str,vs,r,h=>by
  simp only[zc]at h;split at h
  . rename_i s b;cases a:s.data.isEmpty<;>simp[a]at h;subst h;have:s=⟨#[]⟩:=by cases s;simp at a;simp[a]
    rw[this];rfl
  . cases h
 | .unit,vs,r,h=>by simp[zc]at h;subst h;rfl
 | .pair b c,vs,r,h=>by
  simp only[zc]at h;cases a:zc b vs with
  |none=>simp[a]at h
  |some d=>
   simp[a]at h;rw[pJ a,pJ h];simp[Fb]
 | .sl t,vs,r,h=>by
  simp only[zc]at h;split at h
  . cases h;rfl
  . cases h
 | .ptr t,vs,r,h=>by
  simp only[zc]at h;split at h
  . cases h;rfl
  . cases h
 | .mp _ _ _ _,vs,r,h=>by
  simp only[zc]at h;split at h
  . cases h;rfl
  . cases h
def isB (P:Program) (T:TypeId):Bool:=match P.underlying T with|some .bool=>true| _=>false
def A6l (P:Program) (T:TypeId) (f sz:Nat) (agg:Bool):Bool:=
 match P.underlying T with
 |some (.struct a)=>(match a[f]? with|some x=>bif agg then pV P x.type sz else(Ig P x.type&&Nat.beq sz 1) |none=>false)
 | _=>false
def Zy (P:Program) (T:TypeId):Nat->List (Nat×Nat×Bool)->Bool
 | _,[]=>true
 |f,(b,sz,a)::r=>QF P T f b&&A6l P T f sz a&&Zy P T (f+1) r
def Rr (P:Program) (T:TypeId) (t:Ty):Bool:=match Gh P T with|some z=>(match zc t z.cells.toList with|some []=>true| _=>false) |none=>false
def OW (P:Program) (T:TypeId) (a:Bool):Bool:=match Gh P T with|some (.agg _)=>a|some (.tuple _)=>false|some _=> !a|none=>false
def Ws (P:Program) (T:TypeId) (ti:TI):Bool:=
 Tt P T ti.ty.size&&(bif ti.agg then pV P T ti.ty.size else(Ig P T&&Nat.beq ti.ty.size 1))&&Rr P T ti.ty&&
 (match ti.ty with
  | .bool=>isB P T
  | .str=>(match P.underlying T with|some .string=>true| _=>false)
  | .sl t=>Ih P T ti.elem t.size&&Rr P ti.elem t&&(match P.info? ti.elem with|some i=>Nat.beq i.bytes ti.bytes|none=>false)
  | .int k=>(match P.underlying T with|some (.int k')=>decide (k=k') | _=>false)
  | .mp a b c d=>(match P.underlying T with|some (.map k e)=>Nat.beq k ti.key&&Nat.beq e ti.elem| _=>false)&&FQ P ti.key a b&&Rr P ti.elem d&&OW P ti.elem c
  | _=>true)&&
 (bif ti.fields.isEmpty then true else(Zy P T 0 ti.fields&&(match EP P T with|some pl=>decide (pl=ti.fields.map λx=>(x.1,x.2.1)) |none=>false)))&&
 (bif Nat.beq ti.arr 0 then true else(match P.underlying T with|some (.array n e)=>Nat.beq n ti.arr&&Nat.beq e ti.elem| _=>false))&&
 (bif ti.eq then FQ P T ti.agg ti.ty else true)
def Qt:Value->C
 | .int k n=>bif decide (k.min<=n)&&decide (n<=k.max)then .val (.int k) n else .raw (.int k n)
 | .bool b=> .val .bool b
 | .string s=> .val .str s
 |v=>bif v.oneCell' then .raw v else .dead
def mF:Value->SV
 | .agg a=>⟨true,a.toList.map Qt⟩
 |v=>⟨false,[Qt v]⟩
def DZ {w:World} {Z:Nat->Prop} {B:Nat->Value} {n:Nat} (v:Value):RC w Z B (Qt v) v/\Dx n (Qt v):=by
 cases v with
 |int k m=>
  simp only[Qt];cases h:decide (k.min<=m)&&decide (m<=k.max)with
  |true=>simp at h;simp only[qX];exact⟨⟨rfl,h⟩,trivial⟩
  |false=>simp only[rK];exact⟨⟨rfl,rfl⟩,trivial⟩
 | _=>exact⟨by first|rfl|exact⟨rfl,rfl⟩ |trivial,by first|trivial|rfl⟩
def Dq {w:World} {Z:Nat->Prop} {B:Nat->Value} {n:Nat} :∀vs:List Value,Dp w Z B (vs.map Qt) vs/\∀c∈vs.map Qt,Dx n c
 | []=>⟨rfl,by simp⟩
 |v::vs=>⟨⟨v,vs,rfl,(DZ (n:=n) v).1,(Dq (n:=n) vs).1⟩,λc a=>by
  simp only[sE,qS]at a;rcases a with rfl|a
  . exact(DZ (w:=w) (Z:=Z) (B:=B) v).2
  . exact(Dq (w:=w) (Z:=Z) (B:=B) vs).2 c a⟩
def A6f {w:World} {Z:Nat->Prop} {B:Nat->Value} {n:Nat} (v:Value):RS w Z B (mF v) v/\Nm n (mF v):=by
 have b:∀v,RS w Z B ⟨false,[Qt v]⟩ v/\Nm n ⟨false,[Qt v]⟩:=λv=>⟨⟨v,[],rfl,(DZ (n:=n) v).1,rfl⟩,λc hc=>by simp at hc;rw[hc];exact(DZ (w:=w) (Z:=Z) (B:=B) v).2⟩
 cases v with
 |agg a=>exact⟨⟨a.toList,by simp,(Dq (n:=n) a.toList).1⟩,(Dq (w:=w) (Z:=Z) (B:=B) a.toList).2⟩
 | _=>exact b _
abbrev Jx:=List (Tmp×Bool)
def A2e (t:Tmp) (b:Bool):Jx->Bool
 | []=>false
 | (c,a)::r=>(Nat.beq c t&&(b==a)) ||A2e t b r
def St.ev (a:St) (ctx:Jx):Operand->Option SV
 | .tmp t=>match a.S t with
  | .one v=>some v
  | .cnd a b v=>bif A2e a b ctx then some v else none
  | _=>none
 | .const v=>some (mF v)
 | .func f=>some ⟨false,[.fn f []]⟩
 | .global _=>none
def gctx (a:St):Nat->Tmp->Bool->Jx
 |0,t,b=> [(t,b)]
 |n+1,t,b=>(t,b)::match a.S t with
  | .cnd c b _=>gctx a n c b
  | _=> []
def TA:SV->Option Bool
 | ⟨false,[.val .bool e]⟩=>some e
 | _=>none
def gval (a:St) (t:Tmp):Option Bool:=match a.S t with
 | .one v=>TA v
 | .cnd _ _ v=>TA v
 | _=>none
def ctxP (a:St):Jx->Prop
 | []=>True
 | (t,b)::r=>match gval a t with
  |some e=>match r with
   | []=>e=b
   |r=>e=b/\ctxP a r
  |none=>ctxP a r
def PZ {a:St} {t:Tmp} {b e:Bool} {r:Jx} (c:gval a t=some e):ctxP a ((t,b)::r)↔e=b/\ctxP a r:=by
 simp only[ctxP,c];cases r with
 |nil=>simp[ctxP]
 |cons _ _=>rfl
def Q5 (E:I2) (ctx:Jx):Prop:=∀t b,(t,b)∈ctx->E t= .bool b
def iP {t:Tmp} {b:Bool} :∀ {ctx:Jx},A2e t b ctx=true->(t,b)∈ctx
 | (f,d)::r,h=>by
  simp only[A2e,tD,qC]at h;rcases h with⟨c,a⟩ |h
  . have:=qE c;simp at a;subst this a;simp
  . simp[iP h]
def HI (b:Bool):undef≠ .bool b:=by simp[undef]
section
variable {za:Zn} {w0 w:World} {Z:Nat->Prop} {B:Nat->Value} {st:St} {E:I2}
def C4.ev (h:C4 za w0 st E w Z B) {ctx:Jx} (c:Q5 E ctx) {x:Operand} {v:SV} (a:st.ev ctx x=some v):RS w Z B v (Gw.ev E x)/\Nm st.nx v:=by
 cases x with
 |tmp t=>
  have b:=h.slots t;have f:=h.refs t;simp only[St.ev]at a;cases d:st.S t with
  |one u=>rw[d]at b f a;cases a;exact⟨b,f⟩
  |tup _=>rw[d]at a;cases a
  |dead=>rw[d]at a;cases a
  |cnd j i u=>
   rw[d]at b f a;cases g:A2e j i ctx with
   |false=>simp[g]at a
   |true=>
    simp[g]at a;subst a;rcases b with⟨_,b⟩ | ⟨b,_⟩
    . exact⟨b,f⟩
    . exact absurd (c j i (iP g)) b
 |const u=>cases a;exact A6f u
 |func f=>cases a;exact⟨⟨_,[],rfl,by show _= _;rfl,rfl⟩,λd c=>by simp at c;subst c;exact λk b=>by cases b⟩
 |global g=>cases a
def C4.gctx (h:C4 za w0 st E w Z B):∀ {n:Nat} {t:Tmp} {b:Bool},E t= .bool b->Q5 E (gctx st n t b)
 |0,t,b,c=>λf d a=>by simp[Vc.gctx]at a;rw[a.1,a.2];exact c
 |n+1,t,b,f=>λj i a=>by
  unfold Vc.gctx at a;rcases qS.1 a with a|a
  . cases a;exact f
  . have g:=h.slots t;cases d:st.S t with
    |cnd l k u=>
     rw[d]at g a;rcases g with⟨c,_⟩ | ⟨_,c⟩
     . exact h.gctx c j i a
     . rw[f]at c;exact absurd c.symm (HI b)
    |one _=>rw[d]at a;cases a
    |tup _=>rw[d]at a;cases a
    |dead=>rw[d]at a;cases a
def Sa {v:SV} {e:Bool} {u:Value} (h:RS w Z B v u) (a:TA v=some e):u= .bool e:=by
 unfold TA at a;split at a
 . cases a;obtain⟨_,_,b,c,_⟩:=h;cases b;simpa[RC,C6]using c
 . cases a
def C4.gval (h:C4 za w0 st E w Z B) {t:Tmp} {b e:Bool} (f:E t= .bool b) (a:gval st t=some e):e=b:=by
 have c:=h.slots t;unfold Vc.gval at a;cases d:st.S t with
 |one u=>rw[d]at c a;have:=Sa c a;rw[f]at this;cases this;rfl
 |tup _=>rw[d]at a;cases a
 |dead=>rw[d]at a;cases a
 |cnd i g u=>
  rw[d]at c a;rcases c with⟨_,c⟩ | ⟨_,c⟩
  . have:=Sa c a;rw[f]at this;cases this;rfl
  . rw[f]at c;exact absurd c.symm (HI b)
def C4.ctxP (h:C4 za w0 st E w Z B):∀ {ctx:Jx},Q5 E ctx->ctxP st ctx
 | [],_=>trivial
 | (t,b)::r,c=>by
  have d:=h.ctxP (ctx:=r) λt b hm=>c t b (qO _ hm)
  cases a:Vc.gval st t with
  |none=>simp only[Vc.ctxP,a];exact d
  |some e=>exact(PZ a).2 ⟨h.gval (c t b (by simp)) a,d⟩
end
def explode:(t:Ty)->t.den->List C
 | .pair a b,x=>explode a x.1++explode b x.2
 | .unit,_=> []
 | .int k,x=> [.val (.int k) x]
 | .bool,x=> [.val .bool x]
 | .str,x=> [.val .str x]
 | .sl t,x=> [.val (.sl t) x]
 | .ptr t,x=> [.pf t x 0]
 | .mp a b c d,x=> [.val (.mp a b c d) x]
def YP (t:Ty):C->Option t.den
 | .val a x=>if h:a=t then some (h▸x)else none
 | .raw (.slice none 0 0)=>match t with
  | .sl _=>some []
  | _=>none
 | .raw (.map none)=>match t with
  | .mp _ _ _ _=>some []
  | _=>none
 | .pf a x 0=>if h:Ty.ptr a=t then some (h▸(show(Ty.ptr a).den from x))else none
 | _=>none
def Nh:(t:Ty)->List C->Option (t.den×List C)
 | .pair a b,c=>(Nh a c).bind λx=>(Nh b x.2).map λy=>((x.1,y.1),y.2)
 | .unit,a=>some ((),a)
 | .int k,c::r=>(YP (.int k) c).map λx=>(x,r)
 | .bool,c::r=>(YP .bool c).map λx=>(x,r)
 | .str,c::r=>(YP .str c).map λx=>(x,r)
 | .sl t,c::r=>(YP (.sl t) c).map λx=>(x,r)
 | .ptr t,c::r=>(YP (.ptr t) c).map λx=>(x,r)
 | .mp a b d f,c::r=>(YP (.mp a b d f) c).map λx=>(x,r)
 | _,_=>none
def Sv (agg:Bool) (t:Ty) (s:SV):Option t.den:=
 bif s.agg==agg then(match Nh t s.cs with|some (x,[])=>some x| _=>none)else none
section
variable {w:World} {Z:Nat->Prop} {B:Nat->Value} {n:Nat}
def Dp.append:∀ {cs cs':List C} {vs a:List Value},Dp w Z B cs vs->Dp w Z B cs' a->Dp w Z B (cs++cs') (vs++a)
 | [],_,_,_,h,b=>by rw[show _= _ from h];exact b
 | _:: _,_,_,a,⟨v,f,e,c,d⟩,b=>⟨v,f++a,by rw[e];rfl,c,Dp.append d b⟩
def V3:∀ {t:Ty} {cs:List Value} {x:t.den},C6 t w Z cs x->Dp w Z B (explode t x) cs
 | .int k,_,_,h=>⟨_,[],h.1,⟨rfl,h.2⟩,rfl⟩
 | .bool,_,_,h=>⟨_,[],h,rfl,rfl⟩
 | .str,_,_,h=>⟨_,[],h,rfl,rfl⟩
 | .unit,_,_,h=>h
 | .pair c d,_,_,⟨c1,f,e,a,b⟩=>by rw[e];exact(V3 a).append (V3 b)
 | .sl t,_,_,h=>by
  obtain⟨a,b,e,r⟩:=h;exact⟨_,[],e,⟨a,b,rfl,r⟩,rfl⟩
 | .ptr t,_,_,h=>by
  obtain⟨b,o,a,e,r⟩:=h;exact⟨_,[],e,⟨b,o,a,rfl,r⟩,rfl⟩
 | .mp d f g i,_,_,h=>by
  rcases h with⟨e,h⟩ | ⟨b,c,a,e,h⟩
  . exact⟨_,[],e, .inl ⟨rfl,h⟩,rfl⟩
  . exact⟨_,[],e, .inr ⟨b,c,a,rfl,h⟩,rfl⟩
def F1:∀ {t:Ty} {x:t.den},∀c∈explode t x,Dx n c
 | .int k,_,c,h=>by simp[explode]at h;subst h;trivial
 | .bool,_,c,h=>by simp[explode]at h;subst h;trivial
 | .str,_,c,h=>by simp[explode]at h;subst h;trivial
 | .unit,_,c,h=>by simp[explode]at h
 | .pair a b,x,c,h=>by
  simp only[explode,rB]at h;rcases h with h|h
  . exact F1 c h
  . exact F1 c h
 | .sl t,_,c,h=>by simp[explode]at h;subst h;trivial
 | .ptr t,_,c,h=>by simp[explode]at h;subst h;trivial
 | .mp _ _ _ _,_,c,h=>by simp[explode]at h;subst h;trivial
def lS {t:Ty} {c:C} {x:t.den} {v:Value} (h:RC w Z B c v) (a:YP t c=some x):C6 t w Z [v] x:=by
 unfold YP at a;split at a
 . rename_i j k;split at a
   . rename_i e;subst e;cases a;exact h
   . cases a
 . split at a
   . cases a;rw[show v= _ from h.1];exact⟨none,0,rfl,qV _,rP _,λ_=>rfl, .inl rfl⟩
   . cases a
 . split at a
   . cases a;rw[show v= _ from h.1];exact .inl ⟨rfl,rfl⟩
   . cases a
 . rename_i j k;split at a
   . rename_i e;subst e;cases a;obtain⟨b,o,d,e,f,g,i⟩:=h;exact⟨b,o,d,by rw[e];rfl,f,g,i⟩
   . cases a
 . cases a
def C5g:∀ {t:Ty} {cs r:List C} {vs:List Value} {x:t.den},Dp w Z B cs vs->Nh t cs=some (x,r)->∃v1 v2,vs=v1++v2/\C6 t w Z v1 x/\Dp w Z B r v2:=by
 have one:∀(t:Ty) {cs r:List C} {vs:List Value} {x:t.den} (c:C),Dp w Z B (c::cs) vs->(YP t c).map (λx=>(x,cs))=some (x,r)->∃v1 v2,vs=v1++v2/\C6 t w Z v1 x/\Dp w Z B r v2:=by
  intro t cs r vs x c h b;obtain⟨v,g,e,d,f⟩:=h;cases a:YP t c with
  |none=>simp[a]at b
  |some y=>
   simp[a]at b;obtain⟨rfl,rfl⟩:=b;exact⟨[v],g,e,lS d a,f⟩
 intro t
 induction t with
 |pair g h k l=>
  intro cs r vs x j a;simp only[Nh]at a;cases b:Nh g cs with
  |none=>simp[b]at a
  |some y=>
   simp only[b,wG]at a;cases d:Nh h y.2 with
   |none=>simp[d]at a
   |some z=>
    simp[d]at a;obtain⟨rfl,rfl⟩:=a;obtain⟨v1,v2,e,n,o⟩:=k j (by rw[b]);obtain⟨f,v,i,s,u⟩:=l o (by rw[d]);exact⟨v1++f,v,by rw[e,i];simp,⟨v1,f,rfl,n,s⟩,u⟩
 |unit=>intro cs r vs x h a;simp[Nh]at a;subst a;exact⟨[],vs,rfl,rfl,h⟩
 |int k=>intro cs r vs x h a;cases cs with
  |nil=>simp[Nh]at a
  |cons c cs=>exact one _ c h a
 |bool=>intro cs r vs x h a;cases cs with
  |nil=>simp[Nh]at a
  |cons c cs=>exact one _ c h a
 |str=>intro cs r vs x h a;cases cs with
  |nil=>simp[Nh]at a
  |cons c cs=>exact one _ c h a
 |sl t _=>intro cs r vs x h a;cases cs with
  |nil=>simp[Nh]at a
  |cons c cs=>exact one _ c h a
 |ptr t _=>intro cs r vs x h a;cases cs with
  |nil=>simp[Nh]at a
  |cons c cs=>exact one _ c h a
 |mp b d f g _ _=>intro cs r vs x h a;cases cs with
  |nil=>simp[Nh]at a
  |cons c cs=>exact one _ c h a
def Hv {t:Ty} {cs:List C} {vs:List Value} {x:t.den} (h:Dp w Z B cs vs) (c:Nh t cs=some (x,[])):C6 t w Z vs x:=by
 obtain⟨f,d,e,a,b⟩:=C5g h c;rw[show d= []from b,vD]at e;rw[e];exact a
def Fj {a:Bool} {t:Ty} {s:SV} {v:Value} {x:t.den} (h:RS w Z B s v) (b:Sv a t s=some x):Cy a t w Z v x:=by
 obtain⟨d,g⟩:=s;unfold Sv at b;cases c:(d==a)with
 |false=>simp[c]at b
 |true=>
  simp only[c,qX]at b;have:d=a:=by simpa using c
  subst this;split at b
  . rename_i y f;cases b;cases d with
    |true=>obtain⟨vs,e,h⟩:=h;exact⟨vs,e,Hv h f⟩
    |false=>exact Hv (vs:= [v]) h f
  . cases b
def Cy.explode {a:Bool} {t:Ty} {v:Value} {x:t.den} (h:Cy a t w Z v x):RS w Z B ⟨a,explode t x⟩ v:=by
 cases a with
 |true=>obtain⟨cs,e,h⟩:=h;exact⟨cs,e,V3 h⟩
 |false=>exact V3 (cs:= [v]) h
def Dp.len:∀ {cs:List C} {vs:List Value},Dp w Z B cs vs->cs.length=vs.length
 | [],_,h=>by rw[show _= _ from h];rfl
 | _:: _,_,⟨v,b,e,_,a⟩=>by rw[e,rI,rI,Dp.len a]
def Dp.drop:∀ {cs:List C} {vs:List Value} (i:Nat),Dp w Z B cs vs->Dp w Z B (cs.drop i) (vs.drop i)
 |cs,vs,0,h=>h
 | [],_,i+1,h=>by rw[show _= _ from h];simp;rfl
 | _:: _,_,i+1,⟨v,b,e,_,a⟩=>by rw[e];simp only[List.drop_succ_cons];exact Dp.drop i a
def Dp.take:∀ {cs:List C} {vs:List Value} (i:Nat),Dp w Z B cs vs->Dp w Z B (cs.take i) (vs.take i)
 |cs,vs,0,h=>by simp;rfl
 | [],_,i+1,h=>by rw[show _= _ from h];simp;rfl
 | _:: _,_,i+1,⟨v,c,e,a,b⟩=>by rw[e];simp only[List.take_succ_cons];exact⟨v,_,rfl,a,Dp.take i b⟩
end
def A6x (op:BinOp) (k:IntKind) (a b:Int):Option (Option Prop×C):=
 match op with
 | .add=>some (none, .val (.int k) (k.wrap (a+b)))
 | .sub=>some (none, .val (.int k) (k.wrap (a-b)))
 | .mul=>some (none, .val (.int k) (k.wrap (a*b)))
 | .quo=>some (some (b≠0), .val (.int k) (k.wrap (a.tdiv b)))
 | .rem=>some (some (b≠0), .val (.int k) (a.tmod b))
 | .and=>some (none, .val (.int k) (k.wrap (BitVec.ofInt k.bits a&&&BitVec.ofInt k.bits b).toNat))
 | .or=>some (none, .val (.int k) (k.wrap (BitVec.ofInt k.bits a|||BitVec.ofInt k.bits b).toNat))
 | .xor=>some (none, .val (.int k) (k.wrap (BitVec.ofInt k.bits a^^^BitVec.ofInt k.bits b).toNat))
 | .eql=>some (none, .val .bool (decide (a=b)))
 | .neq=>some (none, .val .bool (decide (a≠b)))
 | .lss=>some (none, .val .bool (decide (a<b)))
 | .leq=>some (none, .val .bool (decide (a<=b)))
 | .gtr=>some (none, .val .bool (decide (b<a)))
 | .geq=>some (none, .val .bool (decide (b<=a)))
 | _=>none
def C7u (op:BinOp):C->C->Option (Option Prop×C)
 | .val (.int k) a, .val (.int c) b=>
  match op with
  | .shl=>some (some (0<=b), .val (.int k) (k.wrap (a*2^(min b.toNat k.bits))))
  | .shr=>some (some (0<=b), .val (.int k) (a.fdiv (2^(min b.toNat k.bits))))
  |op=>bif decide (k=c)then A6x op k a b else none
 | .val .bool a, .val .bool b=>
  match op with
  | .eql=>some (none, .val .bool (a==b))
  | .neq=>some (none, .val .bool (a !=b))
  | _=>none
 | _,_=>none
section
variable {za:Zn} {w0 w:World} {Z:Nat->Prop} {B:Nat->Value} {P:Program} {E:I2}
def D3v {ty:TypeId} {T T':TypeId} {x y:Operand} {a b:Bool} (g:Gw.ev E x= .bool a) (h:Gw.ev E y= .bool b) (hT:P.underlying T=some .bool):Gw.E8 P E ty (.binOp .eql T x y T') w (.bool (a==b)) w:=λ_ _ _ _=>by
 have c:=run_equalIn_bool' (P:=P) w 9999 T a b hT;have f:(eqGuard .eql T x y (.bool a) (.bool b)).run P w= .ok () w:=rfl;have d:(binOp .eql T (.bool a) (.bool b)).run P w= .ok (.bool (a==b)) w:=by
  show((Op.equal T (.bool a) (.bool b))>>=λr=>pure (Value.bool r)).run P w= _;unfold Op.equal Op.maxDepth;rw[Sem.run_bind,c];rfl
 simp only[execOp,g,h];simp[f,d]
def B8u {T:TypeId} (h:isB P T=true):P.underlying T=some .bool:=by
 unfold isB at h;split at h
 . assumption
 . cases h
def B3k {op:BinOp} {k:IntKind} {a b:Int} {φ:Option Prop} {c:C} (h:A6x op k a b=some (φ,c)) (d:MC φ) (f:LU k a):∃v,(∀(w':World) (T:TypeId),(binOp op T (.int k a) (.int k b)).run P w'= .ok v w')/\RC w Z B c v/\∀n,Dx n c:=by
 cases op<;>simp only[A6x,rF,Prod.mk.injEq,reduceCtorEq]at h<;>(try exact h.elim)<;>obtain⟨rfl,rfl⟩:=h
 case rem=>exact⟨_,λw' T=>by simp[binOp,Op.intDiv,show b≠0 from d,go_sem],⟨rfl,C1y f⟩,λ_=>trivial⟩
 case quo=>exact⟨_,λw' T=>by simp[binOp,Op.intDiv,show b≠0 from d,go_sem],⟨rfl,Oz _ _⟩,λ_=>trivial⟩
 case add|sub|mul=>exact⟨_,λw' T=>by simp[binOp,Op.intArith,go_sem],⟨rfl,Oz _ _⟩,λ_=>trivial⟩
 case and|or|xor=>exact⟨_,λw' T=>by simp[binOp,Op.intBits,go_sem],⟨rfl,Oz _ _⟩,λ_=>trivial⟩
 all_goals exact⟨.bool _,λw' T=>by simp[binOp,Op.intCmp,go_sem];try rfl,rfl,λ_=>trivial⟩
def C3h {op:BinOp} {x y:Operand} {cx o c:C} {φ:Option Prop} {T T' ty:TypeId} (h:C7u op cx o=some (φ,c)) (l:MC φ) (a:RC w Z B cx (Gw.ev E x)) (b:RC w Z B o (Gw.ev E y)) (hT:isB P T=true\/∀e,cx≠ .val .bool e):
 ∃v,(∀w',Gw.E8 P E ty (.binOp op T x y T') w' v w')/\RC w Z B c v/\∀n,Dx n c:=by
 unfold C7u at h;split at h
 . rename_i k f z d;obtain⟨a,r⟩:=a;obtain⟨b,A⟩:=b;simp only[sO,vY]at a b;split at h
   . cases h;have g:¬d<0:=g5o.2 l;have j:∀w',Gw.E8 P E ty (.binOp .shl T x y T') w' (.int k (k.wrap (f*2^(min d.toNat k.bits)))) w':=λw'=>C2m a b (by simp[binOp,Op.shift,g,go_sem])
     exact⟨_,j,⟨rfl,Oz _ _⟩,λ_=>trivial⟩
   . cases h;have g:¬d<0:=g5o.2 l;have j:∀w',Gw.E8 P E ty (.binOp .shr T x y T') w' (.int k (f.fdiv (2^(min d.toNat k.bits)))) w':=λw'=>C2m a b (by simp[binOp,Op.shift,g,go_sem])
     exact⟨_,j,⟨rfl,B7w _ r⟩,λ_=>trivial⟩
   . cases i:decide (k=z)with
     |false=>simp[i]at h
     |true=>
      simp only[i,qX]at h;have:=qA i;subst this;obtain⟨v,t,u⟩:=B3k (P:=P) (w:=w) (Z:=Z) (B:=B) h l r;exact⟨v,λw'=>C2m a b (t w' T),u⟩
 . rename_i f d;have a:Gw.ev E x= .bool f:=by simpa[RC,C6]using a
   have b:Gw.ev E y= .bool d:=by simpa[RC,C6]using b
   have s:P.underlying T=some .bool:=by
    rcases hT with hT|hT
    . exact B8u hT
    . exact absurd rfl (hT f)
   split at h
   . cases h;exact⟨_,λw'=>D3v a b s,rfl,λ_=>trivial⟩
   . cases h;exact⟨_,λw'=>D3y a b s,rfl,λ_=>trivial⟩
   . cases h
 . cases h
end
structure Cx where
 P:Program
 tys:List (Nat×TI)
def Ez {α:Type} (s:Nat):List (Nat×α)->Option α
 | []=>none
 | (t,x)::l=>bif Nat.beq t s then some x else Ez s l
def Cx.ti (cx:Cx) (T:TypeId):Option TI:=Ez T cx.tys
def H5 (P:Program):List (Nat×TI)->Bool
 | []=>true
 | (T,ti)::l=>Ws P T ti&&H5 P l
def C2 {P:Program} :∀ {l:List (Nat×TI)},H5 P l=true->∀ {T:TypeId} {ti:TI},Ez T l=some ti->Ws P T ti=true
 | (T',c)::l,h,T,ti,a=>by
  simp only[H5,qC]at h;simp only[Ez]at a;cases b:Nat.beq T' T with
  |true=>simp[b]at a;have:=qE b;subst a this;exact h.1
  |false=>simp[b]at a;exact C2 h.2 a
def c1:SV->Option C
 | ⟨false,[c]⟩=>some c
 | _=>none
def faC (off:Nat):C->Option C
 | .box k o=>some (.box k (o+off))
 | .elp k sz i o=>some (.elp k sz i (o+off))
 | .pf t x o=>some (.pf t x (o+off))
 | _=>none
def cut (off n:Nat) (cs:List C):Option (List C):=(λs=>bif Nat.beq s.length n then some s else none) ((cs.drop off).take n)
def GZ (q:Nat):List (Nat×Nat)->Option Nat
 | []=>none
 | (i,p)::r=>bif Nat.beq p q then some i else GZ q r
def C5l (a:St) (k:Nat):Option ((t:Ty)×List t.den):=match a.L k with
 | .row t _ l=>some ⟨t,l⟩
 | .al j=>match a.L j with
  | .rows t _ _ a al none=>(GZ k al).map λi=>⟨t,a.getD i []⟩
  | _=>none
 | _=>none
def hdC (a:St) (k:Nat):Option ((t:Ty)×List t.den):=match a.L k with
 | .rows t _ _ b _ _=>some ⟨.sl t,b⟩
 | .nest t _ _ b _ _=>bif Nat.beq t.size 1 then some ⟨t,b⟩else none
 | _=>C5l a k
def B9f (b:St) (n:Nat):C->Option (List C)
 | .box k a=>match b.L k with
  | .box _ c=>cut a n c
  | .sbox q t x=>bif Nat.beq q k then cut a n (explode t x)else none
  | _=>none
 | .pf t x a=>cut a n (explode t x)
 | .elp k sz i a=>match C5l b k with
  |some ⟨t,l⟩=>bif Nat.beq sz t.size then cut a n (explode t (l.getD i t.dflt))else none
  |none=>none
 | _=>none
def gx {α:Type} (d:α) (l:List α) (i:Int):α:=l.getD i.toNat d
def C8s (a:St) (i:Int):C->Option (Option Prop×C)
 | .val (.sl t) l=>some (some (0<=i/\i<(l.length:Int)), .pf t (gx t.dflt l i) 0)
 | .row k=>match hdC a k with
  |some ⟨t,l⟩=>some (some (0<=i/\i<(l.length:Int)), .elp k t.size i.toNat 0)
  |none=>none
 | .win k sz a b=>some (some (0<=i/\i<b-a), .elp k sz (a+i).toNat 0)
 | _=>none
def C8z (a:St):C->Option Int
 | .val (.sl _) l=>some (l.length:Int)
 | .row k=>match hdC a k with
  |some ⟨_,l⟩=>some (l.length:Int)
  |none=>none
 | .mp k=>match a.L k with
  | .map _ _ _ _ a=>some (a.length:Int)
  | _=>none
 | .raw (.slice none 0 0)=>some 0
 | .win _ _ b a=>some (a-b)
 | _=>none
def mS:SV->Option Int
 | ⟨false,[.val (.int _) n]⟩=>some n
 | _=>none
def A8h (b:St) (lo a:Option Int):C->Option (Option Prop×C)
 | .val (.sl t) l=>some (some (0<=lo.getD 0/\lo.getD 0<=a.getD (l.length:Int)/\a.getD (l.length:Int)<=(l.length:Int)), .val (.sl t) ((l.take (a.getD (l.length:Int)).toNat).drop (lo.getD 0).toNat))
 | .row k=>match b.L k with
  | .row t _ l=>some (some (0<=lo.getD 0/\lo.getD 0<=a.getD (l.length:Int)/\a.getD (l.length:Int)<=(l.length:Int)), .win k t.size (lo.getD 0) (a.getD (l.length:Int)))
  | _=>none
 | _=>none
def B9o:Op->Bool
 | .load _ _=>true
 | .lookup _ _ _ _=>true
 | _=>false
section
variable {za:Zn} {w0 w:World} {Z:Nat->Prop} {B:Nat->Value} {st:St} {E:I2} {P:Program}
def Zi (P:Program) (st:St) (E:I2) (w:World) (Z:Nat->Prop) (B:Nat->Value) (ty:TypeId) (op:Op) (d:DV):Prop:=
 ∃v,(∀a,(B9o op=true->R8 w a)->Gw.E8 P E ty op a v a)/\(∀E',RD w Z B E' d v)/\NC st.nx d
def Jk {ty:TypeId} {op:Op} {c:C} {v:Value} (f:∀w',(B9o op=true->R8 w w')->Gw.E8 P E ty op w' v w') (b:RC w Z B c v) (d:Dx st.nx c):Zi P st E w Z B ty op (.one ⟨false,[c]⟩):=
 ⟨v,f,λ_=>⟨v,[],rfl,b,rfl⟩,λg a=>by simp at a;subst a;exact d⟩
def A0q {s:SV} {c:C} {v:Value} (h:RS w Z B s v) (d:Nm st.nx s) (a:c1 s=some c):RC w Z B c v/\Dx st.nx c:=by
 unfold c1 at a;split at a
 . cases a;obtain⟨_,_,e,b,_⟩:=h;cases e;exact⟨b,d _ (by simp)⟩
 . cases a
def C4h {s:SV} {n:Int} {v:Value} (h:RS w Z B s v) (b:mS s=some n):∃k,v= .int k n/\LU k n:=by
 unfold mS at b;split at b
 . cases b;obtain⟨_,_,e,a,_⟩:=h;cases e;obtain⟨a,c⟩:=a;simp only[sO,vY]at a;exact⟨_,a,c⟩
 . cases b
def D1e {T ty:TypeId} {x:Operand} {c j:C} {f off:Nat} (d:QF P T f off=true) (a:RC w Z B c (Gw.ev E x)) (g:Dx st.nx c) (h:faC off c=some j):Zi P st E w Z B ty (.fieldAddr T x f) (.one ⟨false,[j]⟩):=by
 unfold faC at h;split at h<;>cases h
 . obtain⟨b,e,i⟩:=a;exact Jk (λk _=>DJ i d) ⟨b,e,rfl⟩ g
 . obtain⟨b,m,l,e,r,i⟩:=a;exact Jk (λk _=>DJ i d) ⟨b,m,l,e,r,by rw[vC]⟩ g
 . obtain⟨b,t,n,e,s,o,a⟩:=a;exact Jk (λk _=>DJ e d) ⟨b,t,n,by rw[vC],s,o,a⟩ g
def YZ {cs cs':List C} {vs:List Value} {off n:Nat} (h:Dp w Z B cs vs) (a:cut off n cs=some cs'):Dp w Z B cs' ((vs.drop off).take n)/\((vs.drop off).take n).length=n/\∀c∈cs',c∈cs:=by
 unfold cut at a;have d:=(h.drop off).take n;cases b:Nat.beq ((cs.drop off).take n).length n with
 |false=>simp only[b,rK]at a;cases a
 |true=>
  simp only[b,qX,rF]at a;subst a;exact⟨d,by rw[<-d.len];exact qE b,λc a=>vQ (rW a)⟩
def LY {T ty:TypeId} {x:Operand} {b o:Nat} {cs:List C} {vs:List Value} {agg:Bool} (k:Gw.ev E x= .pointer (some ⟨b,o,none⟩)) (l:b<w.heap.size) (n:J4 w ⟨b,o,none⟩ vs) (i:Dp w Z B cs vs) (h:∀c∈cs,Dx st.nx c)
 (d:(agg=true/\pV P T vs.length=true)\/(agg=false/\Ig P T=true/\vs.length=1)):Zi P st E w Z B ty (.load T x) (.one ⟨agg,cs⟩):=by
 have g:∀a,R8 w a->J4 a ⟨b,o,none⟩ vs:=λa f j v hj=>by
  have:=n j v hj;rw[L5]at this|-;rw[<-this];exact World.cell?_of_block (f.block b l)
 rcases d with⟨rfl,d⟩ | ⟨rfl,d,r⟩
 . exact⟨.agg vs.toArray,λa f=>A9a k d rfl (g a (f rfl)),λ_=>⟨vs,rfl,i⟩,h⟩
 . match vs,r with
   | [v],_=>
    refine⟨v,λa f=>pI k d ?_,λ_=>i,h⟩;have:=g a (f rfl) 0 v rfl;rwa[L5]at this
def Mi {q i:Nat} :∀ {al:List (Nat×Nat)},GZ q al=some i->(i,q)∈al
 | [],h=>by cases h
 | (j,p)::r,h=>by
  simp only[GZ]at h;cases a:Nat.beq p q with
  |true=>simp only[a,qX,rF]at h;have:=qE a;subst this;subst h;simp
  |false=>simp only[a,rK]at h;exact qO _ (Mi h)
def oN {U:Nat->Prop} {t:Ty} {k e e' i q:Nat} {ls:List (List t.den)} {al:List (Nat×Nat)} (h:RL U w Z B k (.rows t e e' ls al none)) (u:GZ q al=some i):
 ∃xs b,w.ownsRow 0 e 1 (B k) ls.length xs/\AtV xs i (B q)/\w.ownsRow 0 e' t.size (B q) (ls.getD i []).length b/\G3 (C6 t w Z) b (ls.getD i []):=by
 obtain⟨xs,a,⟨n,o,v⟩,x,y⟩:=h;rcases n _ (Mi u)with d| ⟨f,c⟩
 case inr=>
  have l:=a.1;rw[qD,rT (by simp only at f;omega)];refine⟨xs,[],a, .inr ⟨f,c⟩,?_,rfl⟩;simp only at c;rw[c];exact World.ownsRow_nil _ _ _ _
 have r:i<ls.length:=by have:=(sQ.1 d).1;have l:=a.1;omega
 have s:ls[i]? =some (ls.getD i []):=by rw[qD,qL r];rfl
 obtain⟨b,g,j⟩:=o i _ _ rfl s d;exact⟨xs,b,a, .inl d,g,j⟩
def B1i (h:C4 za w0 st E w Z B) {k:Nat} {t:Ty} {l:List t.den} (a:C5l st k=some ⟨t,l⟩):∃e xs,w.ownsRow 0 e t.size (B k) l.length xs/\G3 (C6 t w Z) xs l:=by
 unfold C5l at a;split at a
 . rename_i s e x c;cases a;have b:=h.locs k;rw[c]at b;obtain⟨xs,o,i,_⟩:=b;exact⟨e,xs,o,i⟩
 . rename_i r c;split at a
   . rename_i s e d y al n;simp only[qP]at a;obtain⟨v,j,a⟩:=a;cases a;have b:=h.locs r;rw[n]at b;obtain⟨_,u,_,_,f,g⟩:=oN b j;exact⟨d,u,f,g⟩
   . cases a
 . cases a
def B8l (h:C4 za w0 st E w Z B) {k:Nat} {t:Ty} {l:List t.den} (a:hdC st k=some ⟨t,l⟩):∃e xs,w.ownsRow 0 e t.size (B k) l.length xs:=by
 unfold hdC at a;split at a
 . rename_i g e i n al s d;cases a;have b:=h.locs k;rw[d]at b;obtain⟨xs,f,_⟩:=b;exact⟨e,xs,f⟩
 . rename_i g e i n o r d;cases c:Nat.beq g.size 1 with
   |false=>simp only[c,rK]at a;cases a
   |true=>
    simp only[c,qX]at a;cases a;have b:=h.locs k;rw[d]at b;obtain⟨xs,j,_⟩:=b;exact⟨e,xs,by rw[qE c];exact j.own⟩
 . obtain⟨e,xs,f,_⟩:=B1i h a;exact⟨e,xs,f⟩
def C4p (h:C4 za w0 st E w Z B) {T ty:TypeId} {x:Operand} {c:C} {cs:List C} {n:Nat} {agg:Bool} (A:RC w Z B c (Gw.ev E x)) (a:B9f st n c=some cs)
 (z:(agg=true/\pV P T n=true)\/(agg=false/\Ig P T=true/\n=1)):Zi P st E w Z B ty (.load T x) (.one ⟨agg,cs⟩):=by
 unfold B9f at a;split at a
 . rename_i D l;split at a
   . rename_i ag ad s;have r:=h.locs D;have O:=h.refl D;rw[s]at r O;obtain⟨k,ah,e,_,_,Q,u⟩:=r;obtain⟨V,o,i⟩:=A;rw[e]at o;cases o;obtain⟨d,f,g⟩:=YZ u a;have:=U5 Q.cellsAt l n;rw[sG]at this;exact LY i Q.lt this d (λc b=>O c (g c b)) (by rw[f];exact z)
   . rename_i q t aa s;cases G:Nat.beq q D with
     |false=>simp only[G,rK]at a;cases a
     |true=>
      simp only[G,qX]at a;have:=qE G;subst this;have r:=h.locs q;rw[s]at r;obtain⟨_,⟨k,a8,W,y,J,b,H⟩,_⟩:=r;simp only[sO,vY]at y;obtain⟨V,o,i⟩:=A;rw[y]at o;cases o;obtain⟨d,f,g⟩:=YZ (V3 (B:=B) H) a;have u:=U5 b l n;rw[sG]at u;exact LY i (h.zlt _ J) u d (λc b=>F1 c (g c b)) (by rw[f];exact z)
   . cases a
 . rename_i t aa l;obtain⟨k,a8,W,i,J,b,H⟩:=A;obtain⟨d,f,g⟩:=YZ (V3 (B:=B) H) a;exact LY i (h.zlt k J) (U5 b l n) d (λc b=>F1 c (g c b)) (by rw[f];exact z)
 . rename_i D sz M l;split at a
   . rename_i t N s;cases I:Nat.beq sz t.size with
     |false=>simp[I]at a
     |true=>
      simp only[I,qX]at a;have a6:=qE I;subst a6;obtain⟨e,a9,y,a1⟩:=B1i h s;obtain⟨k,m,ab,X,R,i⟩:=A;rw[X]at y;have a5:m=N.length:=by
       rcases y.2 with⟨F,_⟩ | ⟨_,_,_,F,_⟩<;>cases F
       rfl
      subst a5;have a4:=G3.get (λ_ _ h=>C6.length h) a1 (qL R);have a3:N.getD M t.dflt=N[M]:=by rw[qD,qL R];rfl
      rw[a3]at a;obtain⟨d,f,g⟩:=YZ (V3 (B:=B) a4) a;have Y:=(World.ownsRow.lt y k rfl).2;have a0:J4 w ⟨k,0,none⟩ a9:=λj v hj=>by
       rcases y.2 with⟨F,_⟩ | ⟨af,ac,ae,F,_,a2,_,_,_,a7⟩
       . cases F
       . cases F;rw[L5,sG];simp only[World.cell?,a2];rw[<-a7,wS]at hj;split at hj
         . simpa using hj
         . cases hj
      have U:=U5 (U5 a0 (M*t.size) t.size) l n;rw[sG]at U;exact LY i Y U d (λc b=>F1 c (g c b)) (by rw[f];exact z)
   . cases a
 . cases a
def L9 {α:Type} {d:α} {l:List α} {i:Int} (a:0<=i) (b:i<(l.length:Int)):l[i.toNat]? =some (gx d l i):=by
 have a:i.toNat<l.length:=ω
 rw[gx,qD,qL a];rfl
def B8p (h:C4 za w0 st E w Z B) {T ty e:TypeId} {x ix:Operand} {c u:C} {i:Int} {φ:Option Prop} {a8:IntKind} (G:RC w Z B c (Gw.ev E x)) (F:Gw.ev E ix= .int a8 i) (b:C8s st i c=some (φ,u)) (I:MC φ)
 (hT:∀s,(∃t y,u= .pf t y 0/\s=t.size)\/(∃k j,u= .elp k s j 0)->Ih P T e s=true) (O:Dx st.nx c):Zi P st E w Z B ty (.indexAddr T x ix) (.one ⟨false,[u]⟩):=by
 unfold C8s at b;split at b
 . rename_i t J;cases b;obtain⟨n,l⟩:=I;have o:=hT t.size (.inl ⟨t,_,rfl,rfl⟩);obtain⟨A,f,N,ai,aj,ak,D⟩:=G;simp only[sO,vY]at N;have a0:=L9 (d:=t.dflt) n l;rcases D with D| ⟨M,R,ac,W,a7,X,Y⟩
   . subst D;simp at l;omega
   . subst W;have a1:=G3.get (λ_ _ h=>C6.length h) Y a0;refine Jk (v:= .pointer (some ⟨M,R+i.toNat*t.size+0,none⟩)) (λr _=>?_) ⟨M,R+i.toNat*t.size,_,rfl,a7,U5 X _ t.size,a1⟩ trivial;have:=C2n (P:=P) (w:=r) (ty:=ty) (sz:=t.size) N F o n l;rwa[L5]at this
 . rename_i k;split at b
   . rename_i t J a3;cases b;obtain⟨n,l⟩:=I;have o:=hT t.size (.inr ⟨_,_,rfl⟩);obtain⟨ab,am,a6⟩:=B8l h a3;rcases a6.2 with⟨_,a4⟩ | ⟨g,f,aa,z,_⟩
     . rw[a4]at l;omega
     . have H:Gw.ev E x= .slice (some ⟨g,0,none⟩) J.length f:=(show Gw.ev E x=B k from G).trans z;refine Jk (v:= .pointer (some ⟨g,i.toNat*t.size+0,none⟩)) (λr _=>?_) ⟨g,J.length,f,z,ω,rfl⟩ O;have:=C2n (P:=P) (w:=r) (ty:=ty) (sz:=t.size) H F o n l;rwa[L5,sG]at this
   . cases b
 . rename_i k sz a a2;cases b;obtain⟨n,l⟩:=I;have o:=hT sz (.inr ⟨_,_,rfl⟩);obtain⟨A,a9,f,z,U,V,ad,ae,af,ag,ah,Q⟩:=G;have a5:¬f=a.toNat:=ω
   rw[qG a5]at Q;obtain⟨g,rfl⟩:∃g,A=some ⟨g,0,none⟩:=by
    cases A with
    |none=>have:=V rfl;omega
    |some x=>obtain⟨g,rfl⟩:=U x rfl;exact⟨g,rfl⟩
   have H:Gw.ev E x= .slice (some ⟨g,a.toNat*sz,none⟩) (a2.toNat-a.toNat) (f-a.toNat):=by
    rw[Q,wA,L5,sG]
   refine Jk (v:= .pointer (some ⟨g,(a+i).toNat*sz+0,none⟩)) (λr _=>?_) ⟨g,a9,f,z,ω,rfl⟩ O;have:=C2n (P:=P) (w:=r) (ty:=ty) (sz:=sz) H F o n ω;rw[L5]at this;rw[show(a+i).toNat*sz+0=a.toNat*sz+i.toNat*sz by rw[<-uV,(ω:(a+i).toNat=a.toNat+i.toNat),tS]];exact this
 . cases b
def C9a (h:C4 za w0 st E w Z B) {T ty e:TypeId} {s:Nat} {x:Operand} {c:C} {n:Int} (d:RC w Z B c (Gw.ev E x)) (a:C8z st c=some n) (D:Ih P T e s=true) (z:∀k,c≠ .mp k):
 Zi P st E w Z B ty (.call ⟨.builtin .len, #[x], #[T]⟩) (.one ⟨false,[.val (.int .i64) n]⟩):=by
 have mk:∀(f:Option Addr) (m b:Nat),Gw.ev E x= .slice f m b->m<=maxLen->Zi P st E w Z B ty (.call ⟨.builtin .len, #[x], #[T]⟩) (.one ⟨false,[.val (.int .i64) (m:Int)]⟩):=λf m b g hm=>
  Jk (λY _=>D3w g D) ⟨rfl,by
   unfold LU;have U:i64.min= -9223372036854775808:=δ
   have V:i64.max=9223372036854775807:=δ
   simp only[maxLen]at hm;omega⟩ trivial
 unfold C8z at a;split at a
 . cases a;obtain⟨f,b,j,u,y,_⟩:=d;simp only[sO,vY]at j;exact mk f _ b j (qY u y)
 . rename_i k;split at a
   . rename_i X W v;cases a;obtain⟨G,a0,A⟩:=B8l h v;have d:Gw.ev E x=B k:=d;rcases A.2 with⟨g,a⟩ | ⟨H,b,F,i,_,_,r,t,_⟩
     . rw[a];exact mk none 0 0 (d.trans g) (rP _)
     . exact mk _ _ b (d.trans i) (qY r t)
   . cases a
 . exact absurd rfl (z _)
 . cases a;exact mk none 0 0 (show _= _ from d.1) (rP _)
 . rename_i k sz o l;cases a;obtain⟨f,n,b,i,Q,R,I,J,M,N,O,g⟩:=d;have:=mk _ _ _ g ω;rwa[(ω:((l.toNat-o.toNat:Nat):Int)=l-o)]at this
 . cases a
end
section
variable {za:Zn} {w0 w:World} {Z:Nat->Prop} {B:Nat->Value} {st:St} {E:I2} {P:Program}
def B1x {T e ty:TypeId} {x:Operand} {lo d:Option Operand} {a:Option Addr} {len b size l h:Nat} (u:Gw.ev E x= .slice a len b) (s:Ih P T e size=true)
 (c:match lo with|none=>l=0|some o=>∃k,Gw.ev E o= .int k (l:Int)) (hhi:match d with|none=>h=len|some o=>∃k,Gw.ev E o= .int k (h:Int)) (hlh:l<=h) (hhc:h<=b) (w:World):
 Gw.E8 P E ty (.slice T x lo d none) w (.slice (if b=l then a else a.map (·.add (l*size))) (h-l) (b-l)) w:=λ_ _ _ _=>by
 obtain⟨t,v⟩:=Ks s;have j:=Gw.Gt (P:=P) (w:=w) v;have f:(l:Int)<=(h:Int):=ω
 have g:(h:Int)<=(b:Int):=ω
 have n:(Instr.sliceBounds true len b (lo.map (Gw.ev E)) (d.map (Gw.ev E)) none).run P w= .ok (l,h,b) w:=by
  unfold Instr.sliceBounds;cases d with
  |none=>
   simp only at hhi;subst hhi;cases lo with
   |none=>simp only at c;subst c;simp[go_sem]
   |some o=>obtain⟨k,i⟩:=c;simp[Instr.sliceBound,asIntOf,i,f,hlh,go_sem]
  |some z=>
   obtain⟨y,i⟩:=hhi;cases lo with
   |none=>simp only at c;subst c;simp[Instr.sliceBound,asIntOf,i,g,hhc,go_sem]
   |some o=>obtain⟨k,r⟩:=c;simp[Instr.sliceBound,asIntOf,r,i,f,g,hlh,hhc,go_sem]
 simp only[execOp,u];unfold Instr.sliceAt Instr.slice;simp only[Sem.run_bind,run_underlying t,Result.andThen_ok,Option.map_none,n,j,Sem.run_pure]
def B6d (E:I2):Option Operand->Option Int->Prop
 |none,i=>i=none
 |some o,i=>∃k j,i=some j/\Gw.ev E o= .int k j
def B1f {t:Ty} {a:Option Addr} {n c:Nat} {l:List t.den} {L H:Int} (h:C6 (.sl t) w Z [.slice a n c] l) (D:0<=L) (E:L<=H) (r:H<=(n:Int)):
 C6 (.sl t) w Z [.slice (if c=L.toNat then a else a.map (·.add (L.toNat*t.size))) (H.toNat-L.toNat) (c-L.toNat)] ((l.take H.toNat).drop L.toNat):=by
 obtain⟨A,B,i,F,I,x,d⟩:=h;simp only[sO,vY,Value.slice.injEq]at i;obtain⟨rfl,rfl,rfl⟩:=i;have f:((l.take H.toNat).drop L.toNat).length=H.toNat-L.toNat:=by simp;omega
 refine⟨_,_,by rw[f],by rw[f];omega,ω,λb=>?_,?_⟩
 . split at b
   . omega
   . have:=x (by simpa using b);omega
 by_cases G:H.toNat=L.toNat
 . left;exact qT (by rw[f];omega)
 . right;rcases d with d| ⟨k,z,g,s,b,u,v⟩
   . subst d;simp at r;omega
   . subst s;have o:=G3.drop (λ_ _ h=>C6.length h) L.toNat (G3.take (λ_ _ h=>C6.length h) H.toNat v);refine⟨k,z+L.toNat*t.size,(g.take (H.toNat*t.size)).drop (L.toNat*t.size),?_,b,?_,o⟩
     . rw[qG ω,wA,L5]
     . have j:=U5 u 0 (H.toNat*t.size);rw[uL,tS]at j;have y:=U5 j (L.toNat*t.size) ((g.take (H.toNat*t.size)).drop (L.toNat*t.size)).length;rwa[vK]at y
def A4c (h:C4 za w0 st E w Z B) {T ty e:TypeId} {x:Operand} {lo j:Option Operand} {o n:Option Int} {c u:C} {φ:Option Prop} (d:RC w Z B c (Gw.ev E x)) (g:A8h st o n c=some (φ,u)) (ai:Dx st.nx c) (a2:MC φ)
 (G:B6d E lo o) (F:B6d E j n)
 (a0:∀s,(∃t y,u= .val (.sl t) y/\s=t.size)\/(∃k lo j,u= .win k s lo j)->Ih P T e s=true):Zi P st E w Z B ty (.slice T x lo j none) (.one ⟨false,[u]⟩):=by
 unfold A8h at g;split at g
 . rename_i t l;cases g;have O:=a0 t.size (.inl ⟨t,_,rfl,rfl⟩);obtain⟨V,W,J⟩:=a2;obtain⟨i,a,Y,an,ap,ag,M⟩:=d;simp only[sO,vY]at Y;generalize f:o.getD 0=L at*;generalize z:n.getD (l.length:Int)=H at*;have N:((l.take H.toNat).drop L.toNat).length=H.toNat-L.toNat:=by simp;omega
   refine Jk (λR _=>B1x (l:=L.toNat) (h:=H.toNat) Y O ?_ ?_ ω ω R) ?_ trivial
   . cases lo with
     |none=>rw[show o=none from G]at f;simp at f;simp only;omega
     |some r=>obtain⟨k,ab,b,Q⟩:=G;subst b;simp at f;subst f;exact⟨k,by rw[Q];congr 1;omega⟩
   . cases j with
     |none=>rw[show n=none from F]at z;simp at z;simp only;omega
     |some r=>obtain⟨k,ab,b,Q⟩:=F;subst b;simp at z;subst z;exact⟨k,by rw[Q];congr 1;omega⟩
   . refine⟨_,_,by rw[N],by rw[N];omega,ω,λI=>?_,?_⟩
     . split at I
       . omega
       . have:=ag (by simpa using I);omega
     by_cases ao:H.toNat=L.toNat
     . left;exact qT (by rw[N];omega)
     . right;rcases M with M| ⟨a3,r,U,a9,I,aa,ac⟩
       . subst M;simp at J;omega
       . subst a9;have b:=G3.drop (λ_ _ h=>C6.length h) L.toNat (G3.take (λ_ _ h=>C6.length h) H.toNat ac);refine⟨a3,r+L.toNat*t.size,(U.take (H.toNat*t.size)).drop (L.toNat*t.size),?_,I,?_,b⟩
         . rw[qG ω,wA,L5]
         . have a1:=U5 aa 0 (H.toNat*t.size);rw[uL,tS]at a1;have aj:=U5 a1 (L.toNat*t.size) ((U.take (H.toNat*t.size)).drop (L.toNat*t.size)).length;rwa[vK]at aj
 . rename_i k;split at g
   . rename_i t am l ad;cases g;have O:=a0 t.size (.inr ⟨_,_,_,rfl⟩);obtain⟨V,W,J⟩:=a2;have f:=h.locs k;rw[ad]at f;obtain⟨aq,ah,_,_⟩:=f;have a8:Gw.ev E x=B k:=d;generalize D:o.getD 0=L at*;generalize A:n.getD (l.length:Int)=H at*;obtain⟨i,a,X,a4,a7,a5,a6⟩:∃i a,B k= .slice i l.length a/\(∀x,i=some x->∃v,x=⟨v,0,none⟩)/\(i=none->a=0)/\l.length<=a/\a<=maxLen:=by
      rcases ah.2 with⟨Q,ae⟩ | ⟨v,a,ak,Q,_,_,af,ab,_⟩
      . exact⟨none,0,by rw[Q,ae],λx d=>(by cases d),λ_=>rfl,ω,rP _⟩
      . exact⟨some ⟨v,0,none⟩,a,Q,λx d=>⟨v,by cases d;rfl⟩,λd=>(by cases d),af,ab⟩
     refine Jk (λR _=>B1x (l:=L.toNat) (h:=H.toNat) (a8.trans X) O ?_ ?_ ω ω R) ⟨i,l.length,a,X,a4,a7,V,W,J,a5,a6,rfl⟩ ai
     . cases lo with
       |none=>rw[show o=none from G]at D;simp at D;simp only;omega
       |some r=>obtain⟨k,ab,b,Q⟩:=G;subst b;simp at D;subst D;exact⟨k,by rw[Q];congr 1;omega⟩
     . cases j with
       |none=>rw[show n=none from F]at A;simp at A;simp only;omega
       |some r=>obtain⟨k,ab,b,Q⟩:=F;subst b;simp at A;subst A;exact⟨k,by rw[Q];congr 1;omega⟩
   . cases g
 . cases g
def C4i (P:Program) (T:TypeId) (k:IntKind):Bool:=match P.underlying T with|some (.int k')=>decide (k=k') | _=>false
def iQ {T:TypeId} {k:IntKind} (h:C4i P T k=true):P.underlying T=some (.int k):=by
 unfold C4i at h;split at h
 . rename_i b a;have:=qA h;subst this;exact a
 . cases h
def C3l {T T' ty:TypeId} {x:Operand} {k k':IntKind} {a:Int} (b:RC w Z B (.val (.int k) a) (Gw.ev E x)) (c:∃d,P.underlying T=some d) (f:C4i P T' k'=true):Zi P st E w Z B ty (.convert T T' x) (.one ⟨false,[.val (.int k') (k'.wrap a)]⟩):=by
 obtain⟨b,_⟩:=b;simp only[sO,vY]at b;obtain⟨d,g⟩:=c;have h:=iQ f;refine Jk (v:= .int k' (k'.wrap a)) (λi _=>?_) ⟨rfl,Oz _ _⟩ trivial;intro _ _ _ _;simp[execOp,convert,b,run_underlying g,run_underlying h,Conv.intToInt,go_sem]
def unC (op:UnOp):C->Option C
 | .val .bool b=>match op with
  | .not=>some (.val .bool (!b))
  | _=>none
 | .val (.int k) a=>match op with
  | .neg=>some (.val (.int k) (k.wrap (-a)))
  | .xor=>some (.val (.int k) (k.wrap (BitVec.ofInt k.bits (if k.signed then -1 else k.max)^^^BitVec.ofInt k.bits a).toNat))
  | _=>none
 | _=>none
def D3r {op:UnOp} {T ty:TypeId} {x:Operand} {c b:C} (a:RC w Z B c (Gw.ev E x)) (h:unC op c=some b):Zi P st E w Z B ty (.unOp op T x) (.one ⟨false,[b]⟩):=by
 unfold unC at h;split at h
 . split at h
   . cases h;rename_i f _;have a:Gw.ev E x= .bool f:=by simpa[RC,C6]using a
     exact Jk (λd _=>D4a a) rfl trivial
   . cases h
 . obtain⟨a,_⟩:=a;simp only[sO,vY]at a;split at h
   . cases h;exact Jk (λd _=>D3z a) ⟨rfl,Oz _ _⟩ trivial
   . cases h;refine Jk (v:= .int _ _) (λd _ _ _ _ _=>by simp[execOp,a,Op.unary,Op.intBits,go_sem]) ⟨rfl,Oz _ _⟩ trivial
   . cases h
 . cases h
def Zz (place:Nat->Option (Nat×Nat)):List C->List (Nat×List C)->Option (List C)
 |a,[]=>some a
 |a,(i,c)::r=>match place i with
  |none=>none
  |some (b,sz)=>bif Nat.beq c.length sz&&Nat.ble (b+sz) a.length then Zz place (a.take b++c++a.drop (b+sz)) r else none
def Gj:C->Bool
 | .dead=>false
 | _=>true
def C6.one1 {t:Ty} {v:Value} {x:t.den} (h:C6 t w Z [v] x):v.oneCell'=true:=C6.oneCell h v (by simp)
def RC.one (h:C4 za w0 st E w Z B) {c:C} {v:Value} (b:Gj c=true) (a:RC w Z B c v):v.oneCell'=true:=by
 cases c with
 |val t x=>exact C6.one1 a
 |row k=>rw[show v= _ from a];exact h.bone k
 |box k f=>obtain⟨d,_,e⟩:=a;rw[e];rfl
 |elp k sz i f=>obtain⟨d,_,_,_,_,e⟩:=a;rw[e];rfl
 |win k sz f d=>obtain⟨_,_,_,_,_,_,_,_,_,_,_,e⟩:=a;rw[e];rfl
 |pf t x f=>obtain⟨d,_,_,e,_⟩:=a;rw[e];rfl
 |mp k=>rw[show v= _ from a];exact h.bone k
 |fn f d=>rw[show v= _ from a];rfl
 |fv _ _ _ _ _ _=>obtain⟨_,_,e,_⟩:=a;rw[e];rfl
 |raw d=>rw[a.1];exact a.2
 |dead=>cases b
end
end Go.Vc
