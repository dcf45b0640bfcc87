/- Part. -/
import Derived.Orders
import Derived.OrdersHeld
import Derived.Below
import Derived.KernelRfl
import Derived.Deep.LoopGhost
import Derived.WalkKit
import Derived.OwnWalk
import Derived.Maps.RangeRun
import Derived.DeepKeys3
import Derived.Laws.Strings
set_option linter.all false
namespace Go
theorem ω {p:Prop} (h:p:=by omega):p:=h
theorem δ {p:Prop} (h:p:=by decide):p:=h
def qA:=@of_decide_eq_true
def qB:=@of_decide_eq_false
def qC:=@Bool.and_eq_true
def qD:=@Nat.eq_of_beq_eq_true
def qE:=@List.getD_eq_getElem?_getD
def qF:=@Int.natCast_nonneg
def qG:=@Option.bind_eq_bind
def qH:=@Int.le_refl
def qI:=@List.mem_cons_of_mem
def qJ:=@Option.map_eq_some_iff
def qK:=@List.mem_singleton
def qL:=@if_neg
def qM:=@List.eq_nil_of_length_eq_zero
def qN:=@List.getElem?_eq_getElem
def qO:=@Int.toNat_natCast
def qP:=@Nat.le_of_ble_eq_true
def qQ:=@List.take_of_length_le
def qR:=@cond_true
def qS:=@List.mem_append
def qT:=@if_pos
def qU:=@Nat.le_refl
def qV:=@List.mem_cons
def qW:=@List.length_set
def qX:=@List.length_singleton
def qY:=@List.length_take
def qZ:=@Nat.le_trans
def rA:=@Decidable.byContradiction
def rB:=@List.mem_cons_self
def rC:=@Option.some.injEq
def rD:=@Rat.add_zero
def rE:=@Bool.or_eq_false_iff
def rF:=@decide_eq_true
def rG:=@cond_false
def rH:=@Nat.lt_of_lt_of_le
def rI:=@decide_eq_false
def rJ:=@List.length_cons
def rK:=@List.length_replicate
def rL:=@Bool.not_eq_true'
def rM:=@Nat.mul_le_mul_right
def rN:=@List.length_append
def rO:=@decide_eq_false_iff_not
def rP:=@List.take_add_one
def rQ:=@List.mem_of_mem_take
def rR:=@Nat.lt_succ_self
def rS:=@Nat.zero_le
def rT:=@List.getElem?_eq_none
def rU:=@decide_eq_true_eq
def rV:=@Array.getElem?_eq_some_iff
def rW:=@List.map_cons
def rX:=@List.getElem?_take_of_lt
def rZ:=@Nat.pow_le_pow_right
def sA:=@Array.length_toList
def sB:=@Nat.pow_succ
def sC:=@Nat.zero_add
def sD:=@congrArg
def sE:=@List.mem_append_left
def sF:=@List.nodup_append
def sG:=@List.drop_of_length_le
def sH:=@Nat.lt_or_ge
def sI:=@List.cons.injEq
def sJ:=@Int.fdiv_eq_ediv_of_nonneg
def sK:=@Int.mul_le_mul_of_nonneg_right
def sL:=@List.length_drop
def sM:=@Nat.mul_assoc
def sN:=@Rat.mul_zero
def sO:=@Rat.zero_mul
def sP:=@List.nodup_cons
def sQ:=@Nat.mul_le_mul_left
def sR:=@List.getElem?_eq_some_iff
def sS:=@List.getElem?_set_self
def sU:=@Int.ofNat_lt
def sV:=@Nat.mul_comm
def sW:=@List.mem_of_getElem?
def sX:=@Rat.zero_add
def sY:=@List.getElem?_set_ne
def sZ:=@Nat.pos_of_ne_zero
def tA:=@List.mem_append_right
def tB:=@List.all_eq_true
def tC:=@Nat.mul_add
def tD:=@Nat.min_eq_left
def tF:=@List.pairwise_append
def tG:=@List.getElem?_append_right
def tH:=@Array.getElem?_setIfInBounds
def tI:=@List.length_map
def tJ:=@Nat.add_zero
def tK:=@Rat.sub_eq_add_neg
def tL:=@Int.toNat_of_nonneg
def tN:=@List.all_cons
def tO:=@List.drop_zero
def tP:=@List.take_append_drop
def tS:=@Decidable.not_not
def tT:=@Int.mul_nonneg
def tU:=@Nat.div_lt_iff_lt_mul
def tV:=@Nat.pow_pos
def tW:=@Nat.mod_eq_of_lt
def tX:=@List.mem_map
def tY:=@Nat.ne_of_lt
def tZ:=@Nat.succ_mul
def uA:=@Array.toArray_toList
def uB:=@Int.mul_le_mul_of_nonneg_left
def uC:=@List.append_assoc
def uD:=@Rat.mul_assoc
def uE:=@Bool.or_eq_true
def uF:=@List.pairwise_iff_getElem
def uG:=@Nat.le_succ
def uH:=@Rat.mul_one
def uI:=@Nat.ne_of_beq_eq_false
def uJ:=@Nat.div_eq_of_lt
def uK:=@Bool.false_eq_true
def uL:=@Int.tmod_eq_emod_of_nonneg
def uM:=@Int.eq_ofNat_of_zero_le
def uN:=@List.getElem?_cons_succ
def uO:=@Rat.div_def
def uP:=@Rat.one_mul
def uQ:=@Nat.add_assoc
def uR:=@Nat.lt_irrefl
def uS:=@Array.getElem?_eq_getElem
def uT:=@List.getElem?_append_left
def uU:=@Int.natCast_mul
def uV:=@Nat.not_lt_zero
def uW:=@Int.sign_eq_one_of_pos
def uX:=@Nat.add_mul
def uY:=@Nat.lt_succ_of_lt
def uZ:=@Nat.mul_le_mul
def vA:=@Nat.pow_add
def vB:=@Int.dvd_mul_of_dvd_right
def vC:=@Int.natAbs_natCast
def vD:=@beq_eq_false_iff_ne
def vE:=@List.getElem?_replicate
def vF:=@List.take_length
def vG:=@List.mem_iff_getElem
def vH:=@Option.isNone_iff_eq_none
def vJ:=@Int.natAbs_mul
def vK:=@List.length_pos_iff
def vL:=@Nat.le_div_iff_mul_le
def vM:=@List.mem_of_mem_drop
def vN:=@Nat.eq_zero_or_pos
def vO:=@and_true
def vP:=@List.map_append
def vQ:=@List.not_mem_nil
def vR:=@Nat.div_div_eq_div_mul
def vS:=@Option.getD_some
def vT:=@decide_eq_decide
def vV:=@List.mem_map_of_mem
def vW:=@if_true
def vX:=@List.drop_drop
def vY:=@List.append_nil
def vZ:=@Nat.add_comm
def wA:=@List.getElem?_take
def wB:=@List.getElem_mem
def wC:=@List.pairwise_singleton
def wD:=@Option.bind_some
def wE:=@Bool.false_or
def wF:=@List.nodup_nil
def wG:=@Nat.le_of_lt
def wH:=@Nat.mod_lt
def wI:=@Rat.neg_zero
def wJ:=@Option.map_some
def wK:=@Array.getElem?_toList
def wL:=@Bool.and_eq_false_iff
def wM:=@List.getElem_inj
def wN:=@Rat.inv_mul_cancel
def wO:=@Rat.mul_inv_cancel
def wP:=@Nat.mul_zero
def wQ:=@List.Perm.refl
def wR:=@List.mapM_cons
def wS:=@if_false
def wT:=@List.getElem?_map
def wU:=@List.pairwise_map
def wV:=@Int.natCast_add
def wW:=@List.nil_append
def wX:=@Nat.div_add_mod
def wY:=@Nat.div_le_self
def wZ:=@Nat.gcd_comm
def xA:=@Nat.mul_lt_mul_of_pos_right
def xB:=@Nat.one_mul
def xC:=@Rat.add_assoc
def xD:=@List.any_eq_true
def xE:=@Int.sign_eq_neg_one_of_neg
def xF:=@List.getElem?_drop
def xG:=@Nat.lt_of_mul_lt_mul_right
def xH:=@Int.natAbs_ediv_le_natAbs
def xI:=@List.drop_eq_getElem_cons
def xJ:=@Int.natCast_pow
def xK:=@Option.some.inj
def xL:=@Int.le_of_lt
def xM:=@List.ext_getElem?
def xN:=@List.getElem?_set
def xO:=@Nat.le_succ_of_le
def xP:=@Nat.mul_one
def xQ:=@Nat.zero_mul
def xR:=@Int.mul_ediv_cancel_left
def xS:=@Iff.rfl
def xT:=@Nat.mul_div_cancel_left
def xU:=@BitVec.toNat_ofInt
def xV:=@Int.ofNat_dvd_left
def xW:=@Nat.beq_refl
def xX:=@Nat.lt_of_le_of_lt
def xY:=@Rat.add_comm
def xZ:=@List.length_nil
def yA:=@List.mem_filter
def yB:=@List.any_cons
def yC:=@Classical.choose_spec
def yD:=@Int.mul_ediv_add_emod
def yE:=@List.getElem?_toArray
def yF:=@Nat.add_mul_div_right
def yG:=@Array.getD_eq_getD_getElem?
def yH:=@List.flatMap_cons
def yI:=@List.idxOf_lt_length_of_mem
def yJ:=@Nat.gcd_dvd_right
def yK:=@Int.natAbs_neg
def yL:=@Int.tdiv_eq_ediv_of_nonneg
def yM:=@Rat.mkRat_zero
def yN:=@Array.toList_inj
def yO:=@List.cons_append
def yP:=@Nat.sub_self
def yQ:=@Rat.mkRat_eq_div
def yR:=@Rat.mul_comm
def yS:=@Array.mapM_eq_mapM_toList
def yT:=@Int.mul_neg_of_pos_of_neg
def yU:=@Int.sign_eq_zero_iff_zero
def yV:=@Nat.add_mul_mod_self_left
def yW:=@List.drop_set_of_lt
def yX:=@List.getElem?_range
def yY:=@List.take_set_of_le
def yZ:=@List.toList_toArray
def zA:=@Nat.div_mul_le_self
def zB:=@Array.getElem?_replicate
def zC:=@Array.setIfInBounds_comm
def zD:=@Bool.not_true
def zE:=@Bool.true_and
def zF:=@Int.ediv_nonpos_of_nonneg_of_nonpos
def zG:=@Option.isSome_iff_exists
def zH:=@Int.tmod_nonneg
def zI:=@List.drop_left'
def zJ:=@Nat.mul_ne_zero
def zK:=@Int.emod_lt_of_pos
def zL:=@Int.mul_nonneg_of_nonpos_of_nonpos
def zM:=@List.mem_replicate
def zN:=@Nat.mul_right_comm
def zO:=@List.mem_singleton_self
def zP:=@Nat.le_mul_of_pos_right
def zQ:=@List.findIdx?_eq_some_iff_getElem
def zS:=@Bool.false_and
def zT:=@Int.gcd_dvd_right
def zU:=@Int.lt_trichotomy
def zV:=@Int.natAbs_add_le
def zW:=@List.any_eq_false
def zX:=@List.mem_range
def zY:=@List.size_toArray
def zZ:=@List.take_zero
def g0a:=@Nat.mul_left_comm
def g0b:=@or_false
def g0c:=@Nat.mul_div_mul_right
def g0d:=@Int.gcd_dvd_left
def g0e:=@List.ext_getElem
def g0f:=@List.isEmpty_iff
def g0g:=@List.take_append
def g0h:=@Rat.divInt_ofNat
def g0i:=@Prod.mk.injEq
def g0j:=@Nat.add_le_add_right
def g0k:=@Nat.shiftLeft_add_eq_or_of_lt
def g0l:=@Int.ediv_nonneg
def g0m:=@List.take_left'
def g0n:=@Rat.intCast_mul
def g0o:=@Rat.mul_eq_zero
def g0p:=@Rat.num_eq_zero
def g0q:=@Array.toList_filter
def g0r:=@Array.toList_modify
def g0s:=@List.filter_eq_self
def g0t:=@List.getElem_of_mem
def g0u:=@List.map_congr_left
def g0v:=@List.mergeSort_perm
def g0w:=@Rat.mkRat_mul_mkRat
def g0x:=@getElem!_pos
def g0y:=@Bool.not_eq_false'
def g0z:=@Bool.not_false
def g1a:=@Int.natAbs_sign_of_ne_zero
def g1b:=@List.Pairwise.imp₂
def g1c:=@List.Pairwise.take
def g1d:=@List.drop_take
def g1e:=@List.getElem_idxOf
def g1f:=@List.take_take
def g1g:=@Nat.gcd_zero_right
def g1h:=@Option.toList_some
def g1i:=@Rat.mkRat_self
def g1j:=@Rat.num_divInt_den
def g1k:=@beq_iff_eq
def g1l:=@List.findIdx?_eq_none_iff
def g1m:=@Array.toList_push
def g1n:=@List.getElem_take
def g1o:=@List.length_range
def g1p:=@List.take_sublist
def g1q:=@Int.ofNat.inj
def g1r:=@List.length_erase_of_mem
def g1s:=@Nat.gcd_pos_of_pos_right
def g1t:=@Array.toList_map
def g1u:=@List.filter_cons
def g1v:=@List.getElem?_cons_zero
def g1w:=@List.getElem_set
def g1x:=@List.zipIdx_cons
def g1y:=@Nat.add_sub_cancel_left
def g1z:=@Nat.gcd_pos_of_pos_left
def g2a:=@Option.bind_eq_some_iff
def g2b:=@Option.bind_none
def g2c:=@Option.getD_none
def g2d:=@Array.getElem?_eq_none
def g2e:=@Bool.true_or
def g2f:=@Int.ediv_lt_iff_lt_mul
def g2g:=@Int.le_ediv_iff_mul_le
def g2h:=@Int.le_trans
def g2i:=@Int.mul_comm
def g2j:=@List.length_eq_one_iff
def g2k:=@List.length_pos_of_mem
def g2l:=@List.map_nil
def g2m:=@Nat.pow_zero
def g2n:=@Nat.sub_zero
def g2o:=@decide_false
def g2p:=@Int.emod_nonneg
def g2q:=@List.range_succ
def g2r:=@Nat.le_max_left
def g2s:=@Nat.min_le_left
def g2t:=@Nat.mul_add_div
def g2u:=@Nat.mul_add_mod
def g2v:=@Rat.den_intCast
def g2w:=@Rat.num_intCast
def g2x:=@Array.getElem?_modify
def g2y:=@List.Perm.append_left
def g2z:=@List.set_append_right
def g3a:=@List.singleton_append
def g3b:=@Array.toList_extract
def g3c:=@Decidable.of_not_not
def g3d:=@Int.dvd_add
def g3e:=@Int.ediv_emod_unique
def g3f:=@List.drop_left
def g3g:=@List.mem_erase_of_ne
def g3h:=@List.range_eq_range'
def g3i:=@List.take_left
def g3j:=@Nat.add_le_add
def g3k:=@Nat.add_mul_div_left
def g3l:=@Nat.div_one
def g3m:=@Nat.gcd_rec
def g3n:=@Nat.mul_pos
def g3o:=@Nat.pow_lt_pow_right
def g3p:=@Nat.pow_mul
def g3q:=@Rat.add_mul
def g3r:=@Rat.den_pos
def g3s:=@or_congr
def g3t:=@Int.natCast_eq_zero
def g3u:=@Int.neg_ediv_of_dvd
def g3v:=@Int.toNat_mul
def g3w:=@List.cons.inj
def g3x:=@Nat.le_of_dvd
def g3y:=@Array.foldl_toList
def g3z:=@List.filter_append
def g4a:=@List.pairwise_cons
def g4b:=@Nat.lt_of_le_of_ne
def g4c:=@Nat.lt_or_gt_of_ne
def g4d:=@Nat.mul_div_cancel
def g4e:=@Rat.add_neg_cancel
def g4f:=@Bool.or_true
def g4g:=@Decidable.em
def g4h:=@Int.le_total
def g4i:=@Int.lt_or_le
def g4j:=@Int.sign_mul
def g4k:=@List.map_map
def g4l:=@List.set_set
def g4m:=@Nat.lt_trichotomy
def g4n:=@Nat.zero_div
def g4o:=@ne_eq
def g4p:=@Int.natCast_ediv
def g4q:=@List.drop_append
def g4r:=@List.perm_middle
def g4s:=@List.range'_succ
def g4t:=@Nat.gcd_dvd_left
def g4u:=@Nat.le_add_right
def g4v:=@Nat.le_max_right
def g4w:=@Nat.shiftLeft_eq
def g4x:=@not_or
def g4y:=@Nat.mod_one
def g4z:=@Rat.mul_add
def g5a:=@Rat.neg_den
def g5b:=@Rat.neg_num
def g5c:=@decide_true
def g5d:=@Int.not_lt
def g5e:=@and_congr
def g5f:=@dif_pos
end Go
namespace Go.Gw
open Go Go.RowKit
open Go.IntKind (i64)
abbrev G9:=Nat->Value
def upd (E:G9) (d:Nat) (v:Value):G9:=λt=>bif Nat.beq t d then v else E t
def YW (E:G9):Option Tmp->Value->G9
 |some d,v=>upd E d v
 |none,_=>E
def ev (E:G9):Operand->Value
 | .tmp t=>E t
 | .const v=>v
 | .global g=> .pointer (some ⟨g,0,none⟩)
 | .func f=> .func (.func f) #[] #[]
def E5 {t d:Nat} (h:t≠d):Nat.beq t d=false:=by
 cases a:Nat.beq t d with
 |false=>rfl
 |true=>exact absurd (qD a) h
def C1 (E:G9) (d:Nat) (v:Value):upd E d v d=v:=by simp[upd]
def C5 (E:G9) (d t:Nat) (v:Value) (h:t≠d):upd E d v t=E t:=by
 have:Nat.beq t d=false:=E5 h;simp[upd,this]
structure C6 (n:Nat) (a:Act) (E:G9):Prop where
 size:a.tmps.size=n
 get:∀t,a.tmps.getD t undef=E t
 defers:a.defers= []
def C6.ev {n:Nat} {a:Act} {E:G9} (h:C6 n a E):a.eval=Gw.ev E:=by
 funext x;cases x with
 |tmp t=>exact h.get t
 | _=>rfl
def lH (n:Nat) (l:List Oper):Bool:=l.all λo=>match o.dst with|some d=>decide (d<n) |none=>true
def C6.put {n:Nat} {a:Act} {E:G9} (h:C6 n a E) (o:Option Tmp) (v:Value) (g:∀d,o=some d->d<n):C6 n (a.put o v) (YW E o v):=by
 cases o with
 |none=>exact h
 |some d=>
  have c:=g d rfl;refine⟨by simp[Act.put,h.size],λt=>?_,h.defers⟩;have i:=h.size;have f:=h.get t;by_cases b:t=d
  . subst b;simp[Act.put,YW,C1,tH,i,c]
  simp only[YW,C5 _ _ _ _ b];rw[<-f];simp[Act.put,tH,Ne.symm b]
def Aw (all:List Oper) (E:G9) (j:Nat):Option Bool:=
 match(all[j]?).bind (·.dst)with
 |some t=>match E t with| .bool b=>some b| _=>none
 |none=>none
def D6 (all:List Oper) (o:Oper) (E:G9):Bool:=
 match o.guard with
 |none=>true
 |some (j,a)=>Aw all E j==some a
def C6.yielded {n:Nat} {a:Act} {E:G9} (h:C6 n a E) (all:List Oper) (j:Nat):yielded all.toArray a.tmps j=Aw all E j:=by
 unfold Go.yielded Aw;rw[yE];cases d:(all[j]?).bind (·.dst)with
 |none=>simp
 |some t=>
  simp only[wD];have b:=h.get t;cases c:a.tmps[t]? with
  |none=>
   have:a.tmps.getD t undef=undef:=by simp[c]
   rw[this]at b;simp[<-b,undef]
  |some v=>
   have:a.tmps.getD t undef=v:=by simp[c]
   rw[this]at b;rw[<-b];cases v<;>rfl
def C6.wanted {n:Nat} {a:Act} {E:G9} (h:C6 n a E) (all:List Oper) (o:Oper):Region.wanted o (Go.yielded all.toArray a.tmps)=D6 all o E:=by
 unfold Region.wanted D6;cases o.guard with
 |none=>rfl
 |some g=>simp only[h.yielded]
def J8 (P:Program) (all:List Oper) (o:Oper) (next:G9->World->Prop) (E:G9) (w:World):Prop:=
 if D6 all o E=true then
  match(execOp (ev E) o).run P w with
  | .ok (.value v) a=>next (YW E o.dst v) a
  | .ok .skip a=>next (YW E o.dst undef) a
  | .ok (.enter f a) b=>Calls P f a b λe c=>∃v,e= .returned v/\next (YW E o.dst v) c
  | _=>False
 else next (YW E o.dst undef) w
def B6n (P:Program) (all:List Oper) (next:G9->World->Prop):List Oper->G9->World->Prop
 | []=>next
 |o::r=>J8 P all o (B6n P all next r)
def EO (n:Nat) (Q:Exit->G9->World->Prop):Exit->Act->World->Prop:=λe a w=>∃E,C6 n a E/\Q e E w
def I9 {P:Program} {all:List Oper} {o:Oper} {next b:G9->World->Prop} (h:∀E w,next E w->b E w) {E:G9} {w:World} (hs:J8 P all o next E w):J8 P all o b E w:=by
 unfold J8 at*;split
 . rename_i a;simp only[a,vW]at hs;generalize (execOp (ev E) o).run P w=r at*;cases r with
   |ok m c=>
    cases m<;>simp only at hs|-
    case value v=>exact h _ _ hs
    case skip=>exact h _ _ hs
    case enter f args=>exact hs.mono λe d ⟨v,he,hn⟩=>⟨v,he,h _ _ hn⟩
   |halt x c=>exact hs
 rename_i a;simp only[a]at hs;exact h _ _ hs
def HY {P:Program} {n:Nat} {all:List Oper} (g:lH n all=true) {i:Nat} {o:Oper} (k:all[i]? =some o) {Q:Exit->Act->World->Prop} {K:Act->World->Prop} {next:G9->World->Prop}
 (c:∀a E w,C6 n a E->next E w->K a w) {a:Act} {E:G9} {w:World} (hr:C6 n a E) (h:J8 P all o next E w):wpOp P all.toArray Q i K a w:=by
 have b:∀d,o.dst=some d->d<n:=λd b=>by
  have:=tB.1 g o (sW k);simpa[b]using this
 unfold wpOp;simp only[yE,k];rw[hr.wanted];unfold J8 at h;split
 . rename_i j;simp only[j,vW]at h;refine .inl ?_;unfold Oper.wp;rw[hr.ev];generalize (execOp (ev E) o).run P w=r at*;cases r with
   |ok m l=>
    cases m<;>simp only at h
    case value v=>exact c _ _ _ (hr.put _ _ b) h
    case skip=>exact c _ _ _ (hr.put _ _ b) h
    case enter f args=>
     refine h.mono λe s ⟨v,he,g⟩=>?_
     subst he;exact c _ _ _ (hr.put _ _ b) g
   |halt x l=>exact h.elim
 rename_i j;simp only[j]at h;exact c _ _ _ (hr.put _ _ b) h
def XR {P:Program} {n:Nat} {all:List Oper} (d:lH n all=true) {Q:Exit->G9->World->Prop} :
 ∀(b:List Oper) (k:Nat),(∀j,b[j]? =all[k+j]?)->∀(a:Act) (E:G9) (w:World),C6 n a E->B6n P all (Q .normal) b E w->
  wpOps P all.toArray (EO n Q) (List.range' k b.length) a w
 | [],_,_,a,E,w,c,h=>⟨E,c,h⟩
 |o::b,k,c,a,E,w,l,h=>by
  have g:all[k]? =some o:=by simpa using(c 0).symm
  rw[rJ,g4s,wpOps_cons];refine HY d g (λf E' s r i=>?_) l h;exact XR d b (k+1) (λj=>by have:=c (j+1);simpa[uQ,vZ 1 j]using this) f E' s r i
inductive fD where
 |done
 |q (i:Nat) (p:fD)
 |p (i:Nat) (p:fD)
 |e (i:Nat) (p:fD)
 |br (i:Nat) (p:fD) (j:Nat) (p':fD)
def H1 (tails:List Nat) (listed:Array Bool):Bool:=tails.any λi=>listed.getD i false
inductive Reach (ops:Array Oper) (j:Nat):Nat->Prop
 |one {oj:Oper} {e:Edge} :ops[j]? =some oj->e∈oj.after->Region.binds .any e=true->Reach ops j e.on
 |more {i:Nat} {oi:Oper} {e:Edge} :Reach ops j i->ops[i]? =some oi->e∈oi.after->Region.binds .any e=true->Reach ops j e.on
def A2r (all:List Oper) (i:Nat):List Nat:=match all[i]? with
 |some o=>(o.after.toList.filter λe=>Region.binds .any e).map (·.on)
 |none=> []
def A1s (all:List Oper):List Nat->List Nat->List Nat
 | [],s=>s
 |i::r,s=>A1s all r (bif s.contains i then s++(A2r all i).filter (λx=> !(s.contains x))else s)
def DO (all:List Oper) (a tails:List Nat):Bool:=
 tails.all λj=>(λs=>a.all λi=>s.contains i) (A1s all (List.range j).reverse (A2r all j))
def kA {all:List Oper} {i x:Nat} (h:x∈A2r all i):∃a e,all.toArray[i]? =some a/\e∈a.after/\Region.binds .any e=true/\e.on=x:=by
 unfold A2r at h;split at h
 . rename_i o f;obtain⟨e,d,rfl⟩:=tX.1 h;obtain⟨b,c⟩:=yA.1 d;exact⟨o,e,by rw[yE];exact f,by simpa using b,c,rfl⟩
 cases h
def eE {all:List Oper} {j:Nat} :∀ {r s:List Nat},(∀x∈s,Reach all.toArray j x)->∀x∈A1s all r s,Reach all.toArray j x
 | [],_,h,x,a=>h x a
 |i::r,s,h,x,g=>by
  refine eE (r:=r) (λy a=>?_) x g;cases b:s.contains i with
  |false=>rw[b]at a;exact h y a
  |true=>
   rw[b]at a;simp only[qR,qS]at a;rcases a with a|a
   . exact h y a
   obtain⟨k,e,c,d,f,rfl⟩:=kA (yA.1 a).1;exact .more (h i (by simpa using b)) c d f
def AH {all:List Oper} {a tails:List Nat} (i:DO all a tails=true):∀(j:Nat) (b:Oper),all.toArray[j]? =some b->j∈tails->∀h∈a,Reach all.toArray j h:=by
 intro j b r g h f;have c:=tB.1 i j g;have d:=tB.1 c h f;refine eE (λx k=>?_) h (by simpa using d);obtain⟨s,e,l,n,o,rfl⟩:=kA k;exact .one l n o
def Pv (P:Program) (S:World->Prop) (all:List Oper) (o:Oper) (next:G9->World->Prop) (E:G9) (w:World):Prop:=
 (D6 all o E=true/\∃v,(∀a,S a->(execOp (ev E) o).run P a= .ok (.value v) a)/\next (YW E o.dst v) w)\/
 (D6 all o E=false/\next (YW E o.dst undef) w)
def cH (P:Program) (S:World->Prop) (all:List Oper) (tails:List Nat) (next:G9->World->Prop):fD->Bool->G9->World->Prop
 | .done,_=>next
 | .q i p,t=>λE w=>∃o,all[i]? =some o/\Pv P S all o (cH P S all tails next p t) E w
 | .p i p,t=>λE w=>∃o,all[i]? =some o/\Pv P (λ_=>True) all o (cH P S all tails next p t) E w
 | .e i p,t=>λE w=>∃o,all[i]? =some o/\J8 P all o (λE' a=>((t||tails.contains i)=true\/S a)/\cH P S all tails next p (t||tails.contains i) E' a) E w
 | .br i p j b,t=>λE w=>(∃o,all[i]? =some o/\J8 P all o (λE' a=>((t||tails.contains i)=true\/S a)/\cH P S all tails next p (t||tails.contains i) E' a) E w)/\
  (∃o,all[j]? =some o/\J8 P all o (λE' a=>((t||tails.contains j)=true\/S a)/\cH P S all tails next b (t||tails.contains j) E' a) E w)
section held
variable {P:Program} {ops:Array Oper} {Q:Exit->Act->World->Prop} {S:World->Prop} {heads tails:List Nat}
def Y3 (P:Program) (ops:Array Oper) (Q:Exit->Act->World->Prop) (S:World->Prop) (tails:List Nat):Nat->Array Bool->Act->World->Prop
 |0,listed,a,w=>Region.ready .any ops listed= []/\Q .normal a w
 |fuel+1,listed,a,w=>
  (Region.ready .any ops listed= []->Q .normal a w)/\∀i∈Region.ready .any ops listed,wpOp P ops Q i (λc b=>(H1 tails (listed.setIfInBounds i true)=true\/S b)/\Y3 P ops Q S tails fuel (listed.setIfInBounds i true) c b) a w
def aB:∀(fuel:Nat) (listed:Array Bool) (a:Act) (w:World),Y3 P ops Q S tails fuel listed a w->wpAny P .any ops Q fuel listed a w
 |0,_,_,_,h=>h
 |fuel+1,_,_,_,h=>⟨h.1,λi d=>wpOp_mono (λb f c=>aB fuel _ b f c.2) (h.2 i d)⟩
def pD (ops:Array Oper) (listed:Array Bool):Prop:=∀(i:Nat) (a:Oper),ops[i]? =some a->listed.getD i false=true->∀e∈a.after,Region.binds .any e=true->listed.getD e.on false=true
def aH (ops:Array Oper) (heads tails:List Nat) (listed:Array Bool):Prop:=pD ops listed/\(H1 tails listed=true->∀h∈heads,listed.getD h false=true)
def kX (ops:Array Oper) (n:Nat):pD ops (Array.replicate n false):=λi b _ a=>by
 simp only[yG,zB]at a;split at a<;>cases a
def Reach.listed {ops:Array Oper} {listed:Array Bool} {j h:Nat} (d:pD ops listed) (g:j∈Region.ready .any ops listed) (k:Reach ops j h):listed.getD h false=true:=by
 induction k with
 |one i f c=>
  obtain⟨_,l,a,b⟩:=mem_ready.1 g;rw[i]at a;cases a;exact b _ f c
 |more _ c b a f=>exact d _ _ c f _ b a
def FR {listed:Array Bool} {i:Nat} (h:listed.getD i true=false):listed.getD i false=false:=by
 rcases sH i listed.size with a|a
 . simp[a]at h|-;exact h
 simp[g2d a]
def J2 {listed:Array Bool} {i:Nat} (c:i∉tails):H1 tails (listed.setIfInBounds i true)=H1 tails listed:=by
 unfold H1;rw[Bool.eq_iff_iff,xD,xD];constructor
 . rintro⟨x,a,h⟩;have b:i≠x:=λe=>c (by rw[e];exact a)
   exact⟨x,a,by rw[getD_set_ne false b]at h;exact h⟩
 rintro⟨x,a,h⟩;have b:i≠x:=λe=>c (by rw[e];exact a)
 exact⟨x,a,by rw[getD_set_ne false b];exact h⟩
def Dr {listed:Array Bool} {i:Nat} (h:H1 tails listed=true):H1 tails (listed.setIfInBounds i true)=true:=by
 unfold H1 at*;rw[xD]at*;obtain⟨x,a,h⟩:=h;exact⟨x,a,getD_set_true h⟩
def aH.set (u:∀(j:Nat) (c:Oper),ops[j]? =some c->j∈tails->∀h∈heads,Reach ops j h) {listed:Array Bool} {j:Nat} (a:aH ops heads tails listed) (k:j∈Region.ready .any ops listed):aH ops heads tails (listed.setIfInBounds j true):=by
 obtain⟨_,c,o,t⟩:=mem_ready.1 k;refine⟨λs v b n e f d=>?_,λr h g=>?_⟩
 . by_cases i:s=j
   . subst i;rw[o]at b;cases b;exact getD_set_true (t e f d)
   rw[getD_set_ne false (Ne.symm i)]at n;exact getD_set_true (a.1 s v b n e f d)
 by_cases l:j∈tails
 . exact getD_set_true ((u j c o l h g).listed a.1 k)
 rw[J2 l]at r;exact getD_set_true (a.2 r h g)
def MH {i:Nat} {f:Oper} {v:Value} (z:ops[i]? =some f) (F:i∈heads) (Z:i∉tails) (J:∀(j:Nat) (o:Oper) cs b,ops[j]? =some o->o.op≠ .select cs b)
 (O:∀(j:Nat) (d:Oper),ops[j]? =some d->j∈tails->∀h∈heads,Reach ops j h)
 (W:∀c a w,Q (.panic c) (a.put f.dst v) w->Q (.panic c) a w):
 ∀(g:Nat) (listed:Array Bool) (a:Act) (w:World),aH ops heads tails listed->
  (∀j d,ops[j]? =some d->j≠i->listed.getD j true=false->(∀e∈d.after,Region.binds .any e=true->e.on≠i)->f.apart ops d=true)->
  i∈Region.ready .any ops listed->YieldsIf P ops S f v a->S w->
  Y3 P ops Q S tails g (listed.setIfInBounds i true) (a.put f.dst v) w->Y3 P ops Q S tails (g+1) listed a w:=by
 intro g
 induction g with
 |zero=>
  intro listed a w _ _ n r k H;refine⟨λh=>(by rw[h]at n;cases n),λj hj=>?_⟩;by_cases l:j=i
  . subst l;exact r.wpOp z k ⟨.inr k,H⟩
  have:=ready_mono hj l;rw[H.1]at this;cases this
 |succ g a5=>
  intro listed a w y E u R D H;have B:listed.getD i false=false:=FR (mem_ready.1 u).1;refine⟨λh=>(by rw[h]at u;cases u),λj hj=>?_⟩;by_cases n:j=i
  . subst n;exact R.wpOp z D ⟨.inr D,H⟩
  obtain⟨I,d,t,X⟩:=mem_ready.1 hj;have a3:∀e∈d.after,Region.binds .any e=true->e.on≠i:=λe he hb heq=>by
   have l:=X e he hb;rw[heq]at l;rw[B]at l;cases l
  have A:j∉tails:=λA=>by
   have:=(O j d t A i F).listed y.1 hj;rw[B]at this;cases this
  have a4:H1 tails listed=false:=by
   cases M:H1 tails listed with
   |false=>rfl
   |true=>have:=y.2 M i F;rw[B]at this;cases this
  have l:=H.2 j (ready_mono hj n);have V:=wpOp_putIf t (E j d t n I a3) (λcs b=>J i f cs b z) (λcs b=>J j d cs b t) W R l;have Y:∀k r,ops[k]? =some r->k≠i->(listed.setIfInBounds j true).getD k true=false->
   (∀e∈r.after,Region.binds .any e=true->e.on≠i)->f.apart ops r=true:=λk r a0 a1 N a2=>by
   refine E k r a0 a1 ?_ a2;by_cases G:j=k
   . subst G;exact I
   rw[getD_set_ne true G]at N;exact N
  refine wpOp_mono (λU T x=>?_) V;have s:S T:=by
   rcases x.2.1 with M|s
   . rw[J2 A,J2 Z,a4]at M;cases M
   exact s
  refine⟨.inr s,a5 (listed.setIfInBounds j true) U T (y.set O hj) Y (ready_mono u (Ne.symm n)) x.1 s ?_⟩;rw[zC _ _ n];exact x.2.2
def BU {i:Nat} {d:Oper} {v:Value} (t:ops[i]? =some d) (U:i∉tails) (B:∀(j:Nat) (o:Oper) cs b,ops[j]? =some o->o.op≠ .select cs b)
 (N:∀c a w,Q (.panic c) (a.put d.dst v) w->Q (.panic c) a w):
 ∀(h:Nat) (listed:Array Bool) (a:Act) (w:World),
  (∀j f,ops[j]? =some f->j≠i->listed.getD j true=false->(∀e∈f.after,Region.binds .any e=true->e.on≠i)->d.apart ops f=true)->
  i∈Region.ready .any ops listed->YieldsIf P ops (λ_=>True) d v a->(H1 tails listed=true\/S w)->
  Y3 P ops Q S tails h (listed.setIfInBounds i true) (a.put d.dst v) w->Y3 P ops Q S tails (h+1) listed a w:=by
 intro h
 induction h with
 |zero=>
  intro listed a w _ k r n H;refine⟨λl=>(by rw[l]at k;cases k),λj hj=>?_⟩;by_cases g:j=i
  . subst g;exact r.wpOp t trivial ⟨n.imp Dr id,H⟩
  have:=ready_mono hj g;rw[H.1]at this;cases this
 |succ h a0=>
  intro listed a w y r F O H;have X:listed.getD i false=false:=FR (mem_ready.1 r).1;refine⟨λJ=>(by rw[J]at r;cases r),λj hj=>?_⟩;by_cases g:j=i
  . subst g;exact F.wpOp t trivial ⟨O.imp Dr id,H⟩
  obtain⟨A,f,u,R⟩:=mem_ready.1 hj;have Z:∀e∈f.after,Region.binds .any e=true->e.on≠i:=λe he hb heq=>by
   have l:=R e he hb;rw[heq]at l;rw[X]at l;cases l
  have l:=H.2 j (ready_mono hj g);have M:=wpOp_putIf u (y j f u g A Z) (λcs b=>B i d cs b t) (λcs b=>B j f cs b u) N F l;have T:∀k n,ops[k]? =some n->k≠i->(listed.setIfInBounds j true).getD k true=false->
   (∀e∈n.after,Region.binds .any e=true->e.on≠i)->d.apart ops n=true:=λk n V W E Y=>by
   refine y k n V W ?_ Y;by_cases z:j=k
   . subst z;exact A
   rw[getD_set_ne true z]at E;exact E
  refine wpOp_mono (λI G s=>?_) M;have x:H1 tails (listed.setIfInBounds j true)=true\/S G:=by
   refine s.2.1.imp (λD=>?_) id;rw[zC _ _ (Ne.symm g),J2 U]at D;exact D
  refine⟨x,a0 (listed.setIfInBounds j true) I G T (ready_mono r (Ne.symm g)) s.1 x ?_⟩;rw[zC _ _ g];exact s.2.2
end held
def R3 {l:List Nat} {i:Nat} (h:l.contains i=false):i∉l:=by
 intro a;have:l.contains i=true:=by simpa using a
 rw[h]at this;cases this
def kP {tails:List Nat} {listed:Array Bool} {i:Nat} (b:i<listed.size):H1 tails (listed.setIfInBounds i true)=(H1 tails listed||tails.contains i):=by
 cases a:tails.contains i with
 |false=>rw[J2 (R3 a)];simp
 |true=>
  rw[g4f];unfold H1;rw[xD];exact⟨i,by simpa using a,by simp[tH,b]⟩
def B2z {ops:Array Oper} {listed:Array Bool} {i:Nat} (h:i∈Region.ready .any ops listed):i<listed.size:=by
 have:=(mem_ready.1 h).1;rcases sH i listed.size with a|a
 . exact a
 simp[g2d a]at this
def Ci (n:Nat):Code->Bool
 | .region _ ops _=>lH n ops.toList
 | .seq a b=>Ci n a&&Ci n b
 | .cond _ a b=>Ci n a&&Ci n b
 | .block _ b=>Ci n b
 | .loop b=>Ci n b
 | .scope b=>Ci n b
 | .rangeFunc .. =>false
 | _=>true
def Wp (P:Program) (n:Nat) (c:Code) (Q:Exit->G9->World->Prop) (E:G9) (w:World):Prop:=
 Ci n c=true->∀a,C6 n a E->c.wp P (EO n Q) a w
inductive Fr where
 |code (c:Code)
 |blk (id:Nat)
 |ops (all rest:List Oper)
 |dops (S:World->Prop) (all:List Oper) (tails:List Nat) (p:fD) (t:Bool)
 |chk (S:World->Prop)
 |upto (I:G9->World->Prop)
def Den (P:Program) (n:Nat) (R:G9->World->Prop):List Fr->Exit->G9->World->Prop
 | [], .normal=>R
 | [], .ret=>R
 | [],_=>λ_ _=>False
 | .code c::k, .normal=>Wp P n c (Den P n R k)
 | .blk _::k, .normal=>Den P n R k .normal
 | .ops a b::k, .normal=>B6n P a (Den P n R k .normal) b
 | .dops S a b p t::k, .normal=>cH P S a b (Den P n R k .normal) p t
 | .chk S::k, .normal=>λE w=>S w/\Den P n R k .normal E w
 | .upto I:: _, .normal=>I
 | .blk id::k, .exit j=>if j=id then Den P n R k .normal else Den P n R k (.exit j)
 | _::k,e=>Den P n R k e
structure Go (P:Program) (n:Nat) (R:G9->World->Prop) (k:List Fr) (E:G9) (w:World):Prop where
 out:Den P n R k .normal E w
section rules
variable {P:Program} {n:Nat} {R:G9->World->Prop} {k:List Fr} {E:G9} {w:World}
def Tu:∀k:List Fr,R E w->Den P n R k .ret E w
 | [],h=>h
 | .code _::k,h=>Tu k h
 | .blk _::k,h=>Tu k h
 | .ops _ _::k,h=>Tu k h
 | .dops _ _ _ _ _::k,h=>Tu k h
 | .chk _::k,h=>Tu k h
 | .upto _::k,h=>Tu k h
def go_ret (h:R E w):Go P n R (.code .ret::k) E w:=⟨λ_ b a=>wp_ret ⟨E,a,Tu k h⟩⟩
def jV (a:List Nat) (E E0:G9):Prop:=∀t,a.contains t=false->E t=E0 t
def jV.refl (a:List Nat) (E:G9):jV a E E:=λ_ _=>rfl
def jV.upd {b:List Nat} {E E0:G9} {d:Nat} {v:Value} (c:b.contains d=true) (h:jV b E E0):jV b (upd E d v) E0:=λt a=>by
 rw[C5]
 . exact h t a
 intro e;subst e;rw[c]at a;cases a
end rules
def QC (args:List Value):G9:=λt=>(args[t]?).getD undef
def PW {P:Program} {f:FuncId} {fn:Func} {c:Code} {args:List Value} {w:World} {Φ:Value->World->Prop} (j:P.funcs[f]? =some fn) (i:fn.body=some c)
 (r:args.length<=fn.ntmps) (k:Ci fn.ntmps c=true) (R:G9->World->Prop)
 (g:∀E w (tmps:Array Value),(∀t,tmps.getD t undef=E t)->R E w->∃v,(results fn tmps).run P w= .ok v w/\Φ v w)
 (h:Go P fn.ntmps R [.code c] (QC args) w):
 Calls P f args.toArray w λe w'=>∃v,e= .returned v/\Φ v w':=by
 refine calls_of_wp j i ?_;have l:C6 fn.ntmps {tmps:=args.toArray++Array.replicate (fn.ntmps-args.toArray.size) undef,defers:= []} (QC args):=by
  refine⟨by simp;omega,λt=>?_,rfl⟩;unfold QC;simp only[yG,Array.getElem?_append,zY,yE,zB];split
  . rfl
  rename_i n;rw[rT ω];split<;>rfl
 refine wp_mono (h.out k _ l) ?_;rintro e d w' ⟨E',b,a⟩;cases e with
 |normal=>obtain⟨v,n,o⟩:=g E' w' d.tmps b.get a;exact⟨b.defers,v,n,v,rfl,o⟩
 |ret=>obtain⟨v,n,o⟩:=g E' w' d.tmps b.get a;exact⟨b.defers,v,n,v,rfl,o⟩
 |exit n=>exact a.elim
 |goto n=>exact a.elim
 |panic c=>exact a.elim
 |outgrown=>exact a.elim
def D9 (P:Program) (E:G9) (ty:TypeId) (op:Op) (w:World) (v:Value) (w':World):Prop:=
 ∀(d:Option Tmp) (b:String) (a:Array Edge) (g:Option (Nat×Bool)),(execOp (ev E) ⟨d,op,ty,b,a,g⟩).run P w= .ok (.value v) w'
def IX (P:Program) (E:G9) (ty:TypeId) (op:Op) (w w':World):Prop:=
 ∀(d:Option Tmp) (b:String) (a:Array Edge) (g:Option (Nat×Bool)),(execOp (ev E) ⟨d,op,ty,b,a,g⟩).run P w= .ok .skip w'
def pF (P:Program) (E:G9) (ty:TypeId) (op:Op) (w:World) (f:FuncId) (args:List Value):Prop:=
 ∀(d:Option Tmp) (b:String) (a:Array Edge) (g:Option (Nat×Bool)),(execOp (ev E) ⟨d,op,ty,b,a,g⟩).run P w= .ok (.enter f args.toArray) w
def aI (P:Program) (f:FuncId) (args:List Value) (w:World) (Φ:Value->World->Prop):Prop:=
 Calls P f args.toArray w λe a=>∃v,e= .returned v/\Φ v a
def aI.mono {P:Program} {f:FuncId} {args:List Value} {w:World} {Φ Φ':Value->World->Prop} (h:aI P f args w Φ) (a:∀v w',Φ v w'->Φ' v w'):aI P f args w Φ':=
 Calls.mono h λ_ _ ⟨v,he,hv⟩=>⟨v,he,a _ _ hv⟩
def KP {all:List Oper} {d:Option Tmp} {op:Op} {ty:TypeId} {pos:String} {aft:Array Edge} {j t:Nat} {b:Bool} {E:G9} (a:(all[j]?).bind (·.dst)=some t) (c:E t= .bool b):D6 all ⟨d,op,ty,pos,aft,some (j,b)⟩ E=true:=by
 simp[D6,Aw,a,c]
section frames
variable {P:Program} {n:Nat} {R:G9->World->Prop} {k:List Fr} {E:G9} {w:World} {all rest:List Oper} {d:Nat} {op:Op} {ty:TypeId} {pos:String} {aft:Array Edge} {g:Option (Nat×Bool)}
variable {S:World->Prop} {i:Nat} {p:fD} {tails:List Nat} {t:Bool}
end frames
def Dx (P:Program) (t:TypeId):Bool:=match P.underlying t with|some (.struct _)=>false|some (.array _ _)=>false|some _=>true|none=>false
def UG (P:Program) (t:TypeId) (s:Nat):Bool:=
 (match P.underlying t with|some (.struct _)=>true|some (.array _ _)=>true| _=>false)&&(match P.info? t with|some i=>i.size==s|none=>false)
def Sl (P:Program) (t:TypeId) (s:Nat):Bool:=match P.info? t with|some i=>i.size==s|none=>false
def NT (P:Program) (t:TypeId) (f off:Nat):Bool:=
 match P.underlying t with
 |some (.struct a)=>(match a[f]? with|some x=>x.offset==off&&(match P.info? x.type with|some i=> !(i.size==0) |none=>false) |none=>false)
 | _=>false
def Hc (P:Program) (t e:TypeId) (s:Nat):Bool:=(match P.underlying t with|some (.slice e')=>e'==e| _=>false)&&Sl P e s
def Gc (P:Program) (f:FuncId):Bool:=match P.funcs[f]? with|some fn=> !(fn.name== "runtime.NumGoroutine")&&fn.body.isSome|none=>false
def Fb (P:Program) (t:TypeId):Option Value:=(P.info? t).bind (·.zero)
section ops
variable {P:Program} {E:G9} {w:World} {ty:TypeId}
def B4d {x:Operand} :D9 P E ty (.move x) w (ev E x) w:=λ_ _ _ _=>rfl
def oX {x:Operand} :D9 P E ty (.assign x) w (ev E x) w:=λ_ _ _ _=>rfl
def C2g {c a b:Operand} {t:Bool} (d:ev E c= .bool t):D9 P E ty (.pick c a b) w (bif t then ev E a else ev E b) w:=λ_ _ _ _=>by
 cases t<;>simp[execOp,d,asBool,go_sem]
def A7y {x:Operand} {vs:Array Value} {v:Value} {i:Nat} (b:ev E x= .tuple vs) (a:vs[i]? =some v):D9 P E ty (.extract x i) w v w:=λ_ _ _ _=>by
 simp[execOp,b,Instr.extract,a,go_sem]
def C5v {T:TypeId} {x:Operand} {b:Bool} (a:ev E x= .bool b):D9 P E ty (.unOp .not T x) w (.bool !b) w:=λ_ _ _ _=>by
 simp[execOp,a,Op.unary,go_sem]
def C5u {T:TypeId} {x:Operand} {k:IntKind} {a:Int} (b:ev E x= .int k a):D9 P E ty (.unOp .neg T x) w (.int k (k.wrap (-a))) w:=λ_ _ _ _=>by
 simp[execOp,b,Op.unary,Op.intArith,go_sem]
def lO {op:BinOp} {T:TypeId} {x y:Operand} {k k':IntKind} {a b:Int} :(eqGuard op T x y (.int k a) (.int k' b)).run P w= .ok () w:=by
 unfold eqGuard;cases op<;>rfl
def B4b {op:BinOp} {T T':TypeId} {x y:Operand} {k k':IntKind} {a b:Int} {v:Value} (d:ev E x= .int k a) (f:ev E y= .int k' b) (h:(binOp op T (.int k a) (.int k' b)).run P w= .ok v w):D9 P E ty (.binOp op T x y T') w v w:=λ_ _ _ _=>by
 simp only[execOp,d,f];have c:=lO (P:=P) (w:=w) (op:=op) (T:=T) (x:=x) (y:=y) (k:=k) (k':=k') (a:=a) (b:=b);simp[go_sem,c,h]
def C2d {x y:Operand} {ts:Array TypeId} {k k':IntKind} {a b:Int} (d:ev E x= .int k a) (f:ev E y= .int k' b):D9 P E ty (.call ⟨.builtin .max, #[x,y],ts⟩) w (.int k (max a b)) w:=λ_ _ _ _=>by
 have c:(if b>a then b else a)=max a b:=by by_cases h:a<b<;>simp only[gt_iff_lt,h,vW,wS]<;>omega
 simp[execOp,resolve,invoke,builtin,Builtin.max_,Builtin.max2,d,f,go_sem];exact c
def C2e {x y z:Operand} {ts:Array TypeId} {k k' d:IntKind} {a b c:Int} (f:ev E x= .int k a) (g:ev E y= .int k' b) (i:ev E z= .int d c):D9 P E ty (.call ⟨.builtin .max, #[x,y,z],ts⟩) w (.int k (max (max a b) c)) w:=λ_ _ _ _=>by
 have d:∀a b:Int,(if b>a then b else a)=max a b:=λa b=>by by_cases h:a<b<;>simp only[gt_iff_lt,h,vW,wS]<;>omega
 simp only[execOp,resolve,invoke,builtin,Builtin.max_,go_sem];simp[f,g,i,Builtin.max2,d,go_sem]
def C2f {x y:Operand} {ts:Array TypeId} {k k':IntKind} {a b:Int} (d:ev E x= .int k a) (f:ev E y= .int k' b):D9 P E ty (.call ⟨.builtin .min, #[x,y],ts⟩) w (.int k (min a b)) w:=λ_ _ _ _=>by
 have c:(if b<a then b else a)=min a b:=by by_cases h:b<a<;>simp only[h,vW,wS]<;>omega
 simp[execOp,resolve,invoke,builtin,Builtin.min_,Builtin.min2,d,f,go_sem];exact c
def C5r {x:Operand} {t e:TypeId} {s len c:Nat} {a:Option Addr} (g:ev E x= .slice a len c) (b:Hc P t e s=true):D9 P E ty (.call ⟨.builtin .len, #[x], #[t]⟩) w (.int .i64 len) w:=λ_ _ _ _=>by
 have f:P.underlying t=some (.slice e):=by
  unfold Hc at b;simp only[qC]at b;obtain⟨b,_⟩:=b;split at b
  . rename_i h d;simp at b;subst b;exact d
  cases b
 simp[execOp,resolve,invoke,builtin,Builtin.len_,g,run_underlying f,goInt,go_sem]
end ops
def Ds {P:Program} {E:G9} {w:World} {ty:TypeId} {c:Operand} {f:FuncId} {b args:List Value} {as:List Operand} {ts:Array TypeId} (i:ev E c= .func (.func f) #[] b.toArray) (a:Gc P f=true) (h:as.map (ev E)++b=args):
 pF P E ty (.call ⟨.value c,as.toArray,ts⟩) w f args:=λ_ _ _ _=>by
 unfold Gc at a;split at a
 . rename_i fn j;simp only[qC,rL]at a;have g:¬fn.body=none:=by intro hb;rw[hb]at a;simp at a
   have d:¬fn.name= "runtime.NumGoroutine" :=by simpa using a.1
   subst h;simp[execOp,resolve,i,Deferred.ofValue,invoke,callFunc,j,d,g,go_sem]
 cases a
def C5s {P:Program} {E:G9} {w:World} {ty:TypeId} {fn:Fn} {a:List Operand} {vs:List Value} (b:a.map (ev E)=vs):D9 P E ty (.makeFunc fn #[] a.toArray) w (.func fn #[] vs.toArray) w:=λ_ _ _ _=>by
 subst b;simp[execOp,Instr.makeFunc]
def C5t {P:Program} {E:G9} {w:World} {ty:TypeId} {T T':TypeId} {x y:Operand} {a b:Bool} (g:ev E x= .bool a) (h:ev E y= .bool b) (d:P.underlying T=some .bool):D9 P E ty (.binOp .neq T x y T') w (.bool (a !=b)) w:=λ_ _ _ _=>by
 have c:=run_equalIn_bool' (P:=P) w 9999 T a b d;have f:(eqGuard .neq T x y (.bool a) (.bool b)).run P w= .ok () w:=rfl;have d:(binOp .neq T (.bool a) (.bool b)).run P w= .ok (.bool (a !=b)) w:=by
  show((Op.equal T (.bool a) (.bool b))>>=λr=>pure (Value.bool (!r))).run P w= _;unfold Op.equal Op.maxDepth;rw[Sem.run_bind,c];rfl
 simp only[execOp,g,h];simp[f,d]
def IV (w:World) (b:Nat) (cs:Array Value) (t:TypeId):Prop:=w.heap[b]? =some (.cells cs t (0,0))
structure R1 (w w':World):Prop extends Below w.heap.size w w' where
 drw:True
def IV.lt {w:World} {b:Nat} {cs:Array Value} {t:TypeId} (h:IV w b cs t):b<w.heap.size:=(rV.1 h).1
def IV.ext {w w':World} {b:Nat} {cs:Array Value} {t:TypeId} (h:IV w b cs t) (a:R1 w w'):IV w' b cs t:=(a.block b h.lt).trans h
def IV.cell {w:World} {b o:Nat} {cs:Array Value} {t:TypeId} {v:Value} (h:IV w b cs t) (a:cs[o]? =some v):w.cell? ⟨b,o,none⟩=some v:=by
 unfold IV at h;simp[World.cell?,h,a]
def R1.refl (w:World):R1 w w:=⟨Below.refl _ _,trivial⟩
def R1.trans {a b c:World} (h:R1 a b) (k:R1 b c):R1 a c:=⟨Below.trans h.toBelow (Below.mono k.toBelow h.size),trivial⟩
def R1.drew {a b:World} (h:R1 a b):R1 a b.drew:=⟨Below.drew h.toBelow,trivial⟩
def R1.alloc (w:World) (o:Obj):R1 w (w.alloc o):=⟨(Below.refl _ _).alloc (qU _) o,trivial⟩
section mem
variable {P:Program} {E:G9} {w:World} {ty:TypeId}
def Ie {t:TypeId} (h:Dx P t=true):(isAgg t).run P w= .ok false w:=by
 unfold Dx at h;cases a:P.underlying t with
 |none=>simp[a]at h
 |some d=>cases d<;>simp[a]at h<;>simp[isAgg,run_underlying a,go_sem]
def Ip {t:TypeId} {s:Nat} (h:UG P t s=true):(isAgg t).run P w= .ok true w/\(sizeOf t).run P w= .ok s w:=by
 unfold UG at h;simp only[qC]at h;obtain⟨d,a⟩:=h;constructor
 . cases c:P.underlying t with
   |none=>simp[c]at d
   |some f=>cases f<;>simp[c]at d<;>simp[isAgg,run_underlying c,go_sem]
 cases b:P.info? t with
 |none=>simp[b]at a
 |some i=>simp[b]at a;simp[sizeOf,typeInfo,b,a,go_sem]
def Fj {t:TypeId} {s:Nat} (h:Sl P t s=true):(sizeOf t).run P w= .ok s w:=by
 unfold Sl at h;cases a:P.info? t with
 |none=>simp[a]at h
 |some i=>simp[a]at h;simp[sizeOf,typeInfo,a,h,go_sem]
def jK {T:TypeId} {x:Operand} {a:Addr} {v:Value} (f:ev E x= .pointer (some a)) (d:Dx P T=true) (c:w.cell? a=some v):D9 P E ty (.load T x) w v w:=λ_ _ _ _=>by
 have b:=Ie (P:=P) (w:=w) d;simp[execOp,f,Instr.loadAt,Instr.sureAddr,loadVar,b,c,go_sem]
def I0 (w:World) (a:Addr) (cs:List Value):Prop:=∀j v,cs[j]? =some v->w.cell? (a.add j)=some v
def A2l {T:TypeId} {x:Operand} {a:Addr} {cs:List Value} {s:Nat} (h:ev E x= .pointer (some a)) (b:UG P T s=true) (g:cs.length=s) (f:I0 w a cs):D9 P E ty (.load T x) w (.agg cs.toArray) w:=λ_ _ _ _=>by
 obtain⟨c,d⟩:=Ip (P:=P) (w:=w) b;have b:=run_loadCells_list (P:=P) (w:=w) a cs f;rw[g]at b;unfold loadCells at b;simp[execOp,h,Instr.loadAt,Instr.sureAddr,loadVar,c,d,b,go_sem]
def IV.cellsAt {w:World} {b:Nat} {cs:Array Value} {t:TypeId} (h:IV w b cs t):I0 w ⟨b,0,none⟩ cs.toList:=λj v a=>by
 have:(⟨b,0,none⟩:Addr).add j=⟨b,j,none⟩:=by unfold Addr.add;split<;>simp_all
 rw[this];exact h.cell (by simpa using a)
def J9 (b o n:Nat):(⟨b,o,none⟩:Addr).add n=⟨b,o+n,none⟩:=by unfold Addr.add;split<;>simp_all
def BV {T:TypeId} {x:Operand} {b o f off:Nat} (k:ev E x= .pointer (some ⟨b,o,none⟩)) (a:NT P T f off=true):D9 P E ty (.fieldAddr T x f) w (.pointer (some ⟨b,o+off,none⟩)) w:=λ_ _ _ _=>by
 unfold NT at a;split at a
 . rename_i r j;split at a
   . rename_i g i;simp only[qC,g1k]at a;obtain⟨h,c⟩:=a;cases d:P.info? g.type with
     |none=>simp[d]at c
     |some n=>
      simp[d]at c;have l:(sizeOf g.type).run P w= .ok n.size w:=by simp[sizeOf,typeInfo,d,go_sem]
      subst h;simp[execOp,k,Instr.fieldAt,Instr.sureAddr,run_underlying j,i,fieldPlace,l,c,J9,go_sem]
   cases a
 cases a
def C5o {T:TypeId} {x:Operand} {v:Value} (a:ev E x=v):D9 P E ty (.box T x) w (.pointer (some ⟨w.heap.size,0,none⟩)) (w.alloc (.cells v.cells T)):=λ_ _ _ _=>by
 subst a;simp[execOp,Instr.box,newVar,newRow,go_sem]
def A4y {T:TypeId} {z:Value} (a:Fb P T=some z):D9 P E ty (.alloc T) w (.pointer (some ⟨w.heap.size,0,none⟩)) (w.alloc (.cells z.cells T)):=λ_ _ _ _=>by
 unfold Fb at a;cases b:P.info? T with
 |none=>simp[b]at a
 |some i=>
  simp[b]at a;simp[execOp,Instr.alloc,zeroValue,typeInfo,b,a,newVar,newRow,go_sem]
def Fo (w:World) (cs:Array Value) (t:TypeId):IV (w.alloc (.cells cs t)) w.heap.size cs t:=heap_alloc_new w _
def IV.alloc {w:World} {b:Nat} {cs:Array Value} {t:TypeId} (h:IV w b cs t) (o:Obj):IV (w.alloc o) b cs t:=h.ext (R1.alloc w o)
end mem
def Ko:∀u∈([]:List Value),u.oneCell'=true:=λ_ h=>by cases h
def Lu {v:Value} {l:List Value} (h:v.oneCell'=true) (t:∀u∈l,u.oneCell'=true):∀u∈v::l,u.oneCell'=true:=λu a=>by
 rcases qV.1 a with a|a
 . rw[a];exact h
 exact t u a
section frames
variable {P:Program} {n:Nat} {R:G9->World->Prop} {k:List Fr} {E:G9} {w:World} {all rest:List Oper} {d:Nat} {ty:TypeId} {pos:String} {aft:Array Edge} {g:Option (Nat×Bool)}
end frames
section tests
variable {P:Program} {n:Nat} {R:G9->World->Prop} {k:List Fr} {E:G9} {w:World} {all rest:List Oper} {d:Nat} {ty:TypeId} {pos:String} {aft:Array Edge} {g:Option (Nat×Bool)} {op:Op} {c:Prop} [Decidable c]
variable {S:World->Prop} {i:Nat} {p:fD} {tails:List Nat} {t:Bool}
end tests
def DI (P:Program) (t:TypeId):Option (List (Nat×Nat)):=
 match P.underlying t with
 |some (.struct a)=>a.toList.mapM λf=>(P.info? f.type).map λi=>(f.offset,i.size)
 | _=>none
def YE {P:Program} {w:World} :∀(a:List Field) (pl:List (Nat×Nat)),a.mapM (λf=>(P.info? f.type).map λi=>(f.offset,i.size))=some pl->
 (a.mapM λf=>do pure (f.offset, <-sizeOf f.type):Sem (List (Nat×Nat))).run P w= .ok pl w
 | [],pl,h=>by simp at h;subst h;rfl
 |f::a,pl,h=>by
  simp only[wR]at h;cases b:P.info? f.type with
  |none=>simp[b]at h
  |some i=>
   simp only[b,wJ,qG,wD]at h;cases c:a.mapM (λf=>(P.info? f.type).map λi=>(f.offset,i.size))with
   |none=>rw[c]at h;simp at h
   |some g=>
    rw[c]at h;simp at h;subst h;have d:=YE (w:=w) a g c;rw[wR];simp[sizeOf,typeInfo,b,go_sem];simp[sizeOf,typeInfo,go_sem]at d;rw[d];rfl
def B8f {P:Program} {E:G9} {w:World} {ty:TypeId} {T:TypeId} {parts:List (Nat×Operand)} {z:Value} {pl:List (Nat×Nat)} (cs:Array Value) (b:Fb P T=some z) (a:DI P T=some pl)
 (k:Instr.fill (λi=>pl[i]?) z.cells (parts.map λx=>(x.1,ev E x.2))=some cs):D9 P E ty (.build T parts.toArray) w (.agg cs) w:=λ_ _ _ _=>by
 unfold Fb at b;unfold DI at a;cases c:P.info? T with
 |none=>simp[c]at b
 |some i=>
  simp[c]at b;cases d:P.underlying T with
  |none=>simp[d]at a
  |some j=>
   cases j<;>simp[d]at a
   case struct fs=>
    have h:=YE (w:=w) fs.toList pl a;have g:(fs.mapM λf=>do pure (f.offset, <-sizeOf f.type):Sem (Array (Nat×Nat))).run P w= .ok pl.toArray w:=by
     rw[yS];simp at h|-;simp[h]
    simp only[execOp];unfold Instr.build;simp at g;simp[zeroValue,typeInfo,c,b,run_underlying d,g,k]
def oY {P:Program} {E:G9} {w:World} {ty:TypeId} {T e:TypeId} {len sz:Nat} {parts:List (Nat×Operand)} {z:Value} (cs:Array Value) (a:Fb P T=some z) (d:P.underlying T=some (.array len e)) (g:Sl P e sz=true)
 (f:Instr.fill (λi=>some (i*sz,sz)) z.cells (parts.map λx=>(x.1,ev E x.2))=some cs):D9 P E ty (.build T parts.toArray) w (.agg cs) w:=λ_ _ _ _=>by
 unfold Fb at a;have c:=Fj (P:=P) (w:=w) g;cases b:P.info? T with
 |none=>simp[b]at a
 |some i=>
  simp[b]at a;simp only[execOp];unfold Instr.build;simp[zeroValue,typeInfo,b,a,run_underlying d,c,f]
def A9d {w w':World} (c:R1 w w') {a:Addr} {v:Value} (h:w.cell? a=some v):w'.cell? a=some v:=by
 have b:a.block<w.heap.size:=block_lt_of_cell h;rw[c.cell b];exact h
def I0.ext {w w':World} {a:Addr} {cs:List Value} (h:I0 w a cs) (c:R1 w w'):I0 w' a cs:=λj v b=>A9d c (h j v b)
def SlR {α:Type} (w:World) (sz:Nat) (f:α->List Value) (v:Value) (l:List α):Prop:=
 (∃a b,v= .slice a 0 b/\l= [])\/∃c o b,v= .slice (some ⟨c,o,none⟩) l.length b/\l.length<=b/\∀i a,l[i]? =some a->I0 w ⟨c,o+i*sz,none⟩ (f a)
def SlR.ext {α:Type} {w w':World} {sz:Nat} {f:α->List Value} {v:Value} {l:List α} (h:SlR w sz f v l) (k:R1 w w'):SlR w' sz f v l:=by
 rcases h with h| ⟨b,o,c,j,d,g⟩
 . exact .inl h
 exact .inr ⟨b,o,c,j,d,λn a i=>(g n a i).ext k⟩
def SlR.nil {α:Type} (w:World) (sz:Nat) (f:α->List Value):SlR w sz f (.slice none 0 0) []:= .inl ⟨_,_,rfl,rfl⟩
section sl
variable {P:Program} {E:G9} {w:World} {ty:TypeId} {α:Type} {sz:Nat} {f:α->List Value} {v:Value} {l:List α}
def Ji {t e:TypeId} {s:Nat} (a:Hc P t e s=true):P.underlying t=some (.slice e)/\Sl P e s=true:=by
 unfold Hc at a;simp only[qC]at a;obtain⟨a,b⟩:=a;refine⟨?_,b⟩;split at a
 . rename_i d c;simp at a;subst a;exact c
 cases a
def B4c {x ix:Operand} {t e:TypeId} {n:IntKind} {i:Int} {a:Addr} {len b:Nat} (k:ev E x= .slice (some a) len b) (g:ev E ix= .int n i) (h:Hc P t e sz=true) (c:0<=i) (d:i<len):D9 P E ty (.indexAddr t x ix) w (.pointer (some (a.add (i.toNat*sz)))) w:=λ_ _ _ _=>by
 obtain⟨j,l⟩:=Ji h;have f:=Fj (P:=P) (w:=w) l;simp[execOp,k,g,Instr.indexAt,asIntOf,run_underlying j,c,d,f,go_sem]
end sl
section owned
variable {w w':World} {base:Nat} {e:TypeId} {sz:Nat} {v:Value} {n:Nat} {xs:List Value}
def B6r (h:w.ownsRow base e sz v n xs) (a:R1 w w'):w'.ownsRow base e sz v n xs:=
 h.kept (row:=none) ⟨a.os,a.tape,a.output,a.size,λk b _=>a.block k b⟩ (by cases v.ownBlock<;>simp)
def IV.grown {b:Nat} {cs:Array Value} {t:TypeId} {row:Option Nat} (h:IV w b cs t) (a:w.grownBy w' row) (c:some b≠row):IV w' b cs t:=(a.block b h.lt c).trans h
def kR {a:World} (b:R1 a w) (c:w.grownBy w' v.ownBlock) (h:w.ownsRow base e sz v n xs) (d:a.heap.size<=base) (f:w.drawn<=w'.drawn):R1 a w':=
 ⟨b.toBelow.grown c b.size (λk a=>by have:=(h.lt k a).1;omega),trivial⟩
end owned
section frames2
variable {P:Program} {n:Nat} {R:G9->World->Prop} {k:List Fr} {E:G9} {w:World} {all rest:List Oper} {d:Nat} {ty:TypeId} {pos:String} {aft:Array Edge} {g:Option (Nat×Bool)}
def jI {T e:TypeId} {sz len:Nat} {parts:List (Nat×Operand)} {z:Value} (cs:Array Value) (j:Hc P T e sz=true) (a:Fb P e=some z) (l:len*sz<=16777216)
 (f:Instr.fill (λi=>some (i*sz,sz)) ((Array.range (len*sz)).map (z.cells[· %z.cells.size]!)) (parts.map λx=>(x.1,ev E x.2))=some cs) (c:len*sz≠0):
 D9 P E ty (.buildSlice T len parts.toArray) w (.slice (some ⟨w.heap.size,0,none⟩) len len) (w.alloc (.cells cs e)):=λ_ _ _ _=>by
 obtain⟨k,h⟩:=Ji j;unfold Fb at a;have d:=Fj (P:=P) (w:=w) h;cases b:P.info? e with
 |none=>simp[b]at a
 |some i=>
  simp[b]at a;have g:¬(16777216<len*sz):=ω
  simp only[execOp];unfold Instr.buildSlice;simp[run_underlying k,d,g,c,zeroValue,typeInfo,b,a,f,newRow]
def UB (b:Nat) (w w':World):Prop:=w'.os=w.os/\w'.tape=w.tape/\(w'.output=w.output/\w.drawn<=w'.drawn)/\w'.heap.size=w.heap.size/\∀k,k≠b->w'.heap[k]? =w.heap[k]?
def IV.chg {w w':World} {b a:Nat} {cs:Array Value} {t:TypeId} (h:IV w b cs t) (c:UB a w w') (d:b≠a):IV w' b cs t:=(c.2.2.2.2 b d).trans h
def R1.chg {c w w':World} {b:Nat} (h:R1 c w) (a:UB b w w') (d:c.heap.size<=b):R1 c w':=
 ⟨⟨a.1.trans h.os,a.2.1.trans h.tape,a.2.2.1.1.trans h.output,by rw[a.2.2.2.1];exact h.size,λk c=>(a.2.2.2.2 k ω).trans (h.block k c)⟩,trivial⟩
def A9c {w w':World} {b:Nat} (c:UB b w w') {a:Addr} (d:a.block≠b):w'.cell? a=w.cell? a:=World.cell?_of_block (w:=w) (c.2.2.2.2 _ d)
def B6q {w w':World} {b c e sz n:Nat} {v:Value} {xs:List Value} (h:w.ownsRow c e sz v n xs) (a:UB b w w') (d:some b≠v.ownBlock):w'.ownsRow c e sz v n xs:=
 h.kept (row:=some b) ⟨a.1,a.2.1,a.2.2.1.1,by rw[a.2.2.2.1];exact qU _,λk _ c=>a.2.2.2.2 k (λe=>c (by rw[e]))⟩ (.inr (Ne.symm d))
def TS {T d:TypeId} {x y:Operand} {b o s:Nat} {cs:Array Value} {v:Value} (vs:List Value) (n:ev E x= .pointer (some ⟨b,o,none⟩)) (r:ev E y=v) (c:v.cells.toList=vs) (l:Sl P T s=true) (k:vs.length=s) (i:IV w b cs d) (j:o+vs.length<=cs.size) (f:∀u∈vs,u.oneCell'=true):
 IX P E ty (.store T x y) w (w.setRow b (cs.toList.take o++vs++cs.toList.drop (o+vs.length)).toArray):=λ_ _ _ _=>by
 have g:=Fj (P:=P) (w:=w) l;have a:=run_storeCells_at P b o d vs 0 cs w i (by simpa using j) f;have h:v.cells.size=s:=by rw[<-k, <-c];simp
 simp only[tJ]at a;subst r;simp[execOp,n,Instr.storeAt,Instr.sureAddr,storeVar,g,h,c,a]
end frames2
section el
variable {P:Program} {E:G9} {w:World} {ty:TypeId}
def I0.get {w:World} {b o j:Nat} {cs:List Value} {v:Value} (h:I0 w ⟨b,o,none⟩ cs) (a:cs[j]? =some v):w.cell? ⟨b,o+j,none⟩=some v:=by
 have:=h j v a;rwa[J9]at this
def B5f {α:Type} {l:List α} {i:Nat} (h:i<l.length):∃a,l[i]? =some a:=⟨_,qN h⟩
def PZ {α:Type} {l:List α} {i:Nat} {a:α} (h:l[i]? =some a):i<l.length:=(sR.1 h).1
end el
section frames
variable {P:Program} {n:Nat} {R:G9->World->Prop} {k:List Fr} {E:G9} {w:World} {all rest:List Oper} {d:Nat} {ty:TypeId} {pos:String} {aft:Array Edge} {g:Option (Nat×Bool)}
end frames
def two (a b:Int):Array Value:= #[.int .i64 a, .int .i64 b]
def Yd {a:Type} (kv:a->Value) (w:World) (b:Nat) (d:List a):Prop:=
 ∃a c,w.heap[b]? =some (.map a c)/\a.toList.map (·.key)=d.map kv/\∀x∈a.toList,x.val= .bool true
def Yd.lt {a:Type} {kv:a->Value} {w:World} {b:Nat} {c:List a} (h:Yd kv w b c):b<w.heap.size:=by
 obtain⟨d,c,a,_⟩:=h;exact(rV.1 a).1
def Yd.ext {c:Type} {kv:c->Value} {w w':World} {b:Nat} {a:List c} (h:Yd kv w b a) (g:R1 w w'):Yd kv w' b a:=by
 have f:=h.lt;obtain⟨c,a,d,r⟩:=h;exact⟨c,a,(g.block b f).trans d,r⟩
def Yd.chg {d:Type} {kv:d->Value} {w w':World} {b a:Nat} {c:List d} (h:Yd kv w b c) (f:UB a w w') (g:b≠a):Yd kv w' b c:=by
 obtain⟨c,a,d,r⟩:=h;exact⟨c,a,(f.2.2.2.2 b g).trans d,r⟩
def Yd.grown {c:Type} {kv:c->Value} {w w':World} {b:Nat} {row:Option Nat} {a:List c} (h:Yd kv w b a) (f:w.grownBy w' row) (i:some b≠row):Yd kv w' b a:=by
 have g:=h.lt;obtain⟨c,a,d,r⟩:=h;exact⟨c,a,(f.block b g i).trans d,r⟩
def iv (i:Int):Value:= .int .i64 i
def sv (s:Int×Int):Value:= .agg (two s.1 s.2)
section maps
variable {P:Program} {E:G9} {w:World} {ty:TypeId} {κ:Type} {kv:κ->Value}
def A8a {t:TypeId} :D9 P E ty (.makeMap t none) w (.map (some w.heap.size)) (w.alloc (.map #[] 0)):=λ_ _ _ _=>by
 simp[execOp,Instr.makeMap]
end maps
section mframes
variable {P:Program} {n:Nat} {R:G9->World->Prop} {k:List Fr} {E:G9} {w:World} {all rest:List Oper} {d:Nat} {ty:TypeId} {pos:String} {aft:Array Edge} {g:Option (Nat×Bool)} {κ:Type}
end mframes
def jM {α:Type} (w:World) (a:Nat) (e:TypeId) (sz:Nat) (f:α->List Value) (v:Value) (l:List α):Prop:=w.ownsRow a e sz v l.length (l.flatMap f)
section own
variable {α:Type} {w w':World} {base:Nat} {e:TypeId} {sz:Nat} {f:α->List Value} {v:Value} {l:List α}
def jM.ext (h:jM w base e sz f v l) (a:R1 w w'):jM w' base e sz f v l:=B6r h a
def jM.chg {b:Nat} (h:jM w base e sz f v l) (a:UB b w w') (c:some b≠v.ownBlock):jM w' base e sz f v l:=B6q h a c
def jM.nil (w:World) (base:Nat) (e:TypeId) (sz:Nat) (f:α->List Value):jM w base e sz f (.slice none 0 0) []:=World.ownsRow_nil w base e sz
def jM.below {a:World} (h:jM w base e sz f v l) (g:R1 a w) (d:w.grownBy w' v.ownBlock) (b:a.heap.size<=base) (c:w.drawn<=w'.drawn):R1 a w':=kR g d h b c
def jM.lit {b:Nat} {cs:Array Value} {a:α} (g:IV w b cs e) (d:cs.toList=f a) (c:(f a).length=sz) (h:base<=b):jM w base e sz f (.slice (some ⟨b,0,none⟩) 1 1) [a]:=by
 refine⟨by simp[c], .inr ⟨b,1,cs,rfl,h,g,by simp,δ,?_,?_⟩⟩
 . rw[<-sA,d,c];simp
 rw[d];simp[c,qQ]
def jM.grown {g:Type} {a b f:Nat} {c:g->List Value} {v2:Value} {d:List g} (h:jM w a b f c v2 d) (i:w.grownBy w' v.ownBlock) (j:v2.ownBlock=none\/v2.ownBlock≠v.ownBlock):jM w' a b f c v2 d:=h.kept i j
end own
section frames
variable {P:Program} {n:Nat} {R:G9->World->Prop} {k:List Fr} {E:G9} {w:World} {all rest:List Oper} {d:Nat} {ty:TypeId} {pos:String} {aft:Array Edge} {g:Option (Nat×Bool)} {α:Type} {f:α->List Value}
def Vi (off:Nat):∀(l:List Value) (j:Nat) (cs:Array Value),off+j+l.length<=cs.size->
 ((l.zipIdx j).foldl (λcs (x:Value×Nat)=>cs.setIfInBounds (off+x.2) x.1) cs).toList=cs.toList.take (off+j)++l++cs.toList.drop (off+j+l.length)
 | [],j,cs,_=>by simp
 |x::l,j,cs,h=>by
  simp only[g1x,List.foldl_cons];simp only[rJ]at h;rw[Vi off l (j+1) _ (by simp;omega)];have a:off+j<cs.size:=ω
  have b:off+j<cs.toList.length:=by simpa using a
  simp only[Array.toList_setIfInBounds];rw[List.take_set,yW ω,(ω:off+(j+1)=(off+j)+1),List.take_succ_eq_append_getElem b];rw[g2z _ _ (by simp;omega)];simp[tD (wG a),(ω:off+j+1+l.length=off+j+(l.length+1))]
def lT (sz:Nat):∀(vs:List Value) (k:Nat) (cs:Array Value),(∀v∈vs,v.cells.size=sz)->(k+vs.length)*sz<=cs.size->
 ∃r,Instr.fill (λi=>some (i*sz,sz)) cs ((vs.zipIdx k).map λx=>(x.2,x.1))=some r/\r.toList=cs.toList.take (k*sz)++vs.flatMap (·.cells.toList)++cs.toList.drop ((k+vs.length)*sz)/\r.size=cs.size
 | [],k,cs,_,_=>⟨cs,by simp[Instr.fill],by simp,rfl⟩
 |v::vs,k,cs,l,h=>by
  have g:v.cells.size=sz:=l v (by simp);have f:(k+(vs.length+1))*sz=k*sz+vs.length*sz+sz:=by rw[uX,tZ];omega
  simp only[rJ,f]at h;have A:k*sz+v.cells.size<=cs.size:=ω
  have b:=Vi (k*sz) v.cells.toList 0 cs (by simp;omega);simp only[tJ]at b;generalize t:(v.cells.toList.zipIdx 0).foldl (λcs (x:Value×Nat)=>cs.setIfInBounds (k*sz+x.2) x.1) cs=d at b;have j:d.size=cs.size:=by
   have:=sD List.length b;simp only[sA,rN,qY,sL]at this;omega
  have a:(k+1+vs.length)*sz=k*sz+vs.length*sz+sz:=by rw[uX,uX];omega
  obtain⟨r,u,w,y⟩:=lT sz vs (k+1) d (λx hx=>l x (by simp[hx])) (by rw[a,j];exact h);refine⟨r,?_,?_,by rw[y,j]⟩
  . simp only[g1x,rW];unfold Instr.fill;simp only[g];rw[qL (by simp;omega)];rw[<-u, <-t, <-g3y];simp
  rw[w,b];have o:(k+1)*sz=k*sz+sz:=tZ k sz;have s:(k+(vs.length+1))*sz=(k+1+vs.length)*sz:=by rw[a,f]
  have z:(cs.toList.take (k*sz)).length=k*sz:=by simp;omega
  have n:v.cells.toList.length=sz:=by simpa using g
  rw[o,yH,rJ,s];have c:(cs.toList.take (k*sz)++v.cells.toList).length=k*sz+sz:=by rw[rN,z,n]
  congr 1
  . rw[<-uC,g0m c]
  rw[g4q,sG (by rw[c,a];omega),wW,vX,c,n,a];congr 1;omega
end frames
def Frs (n:Nat) (v:Value):Prop:=∀g,v.ownBlock=some g->n<=g
def SlR.chg {α:Type} {w w':World} {sz b:Nat} {f:α->List Value} {v:Value} {l:List α} (h:SlR w sz f v l) (k:UB b w w') (s:∀g,v.ownBlock=some g->g≠b):SlR w' sz f v l:=by
 rcases h with h| ⟨a,y,i,c,n,o⟩
 . exact .inl h
 refine .inr ⟨a,y,i,c,n,λu d r x z t=>?_⟩;have j:a≠b:=s a (by rw[c];rfl);have:=o u d r x z t;rw[J9]at this|-;rw[A9c k j];exact this
def jM.frs {α:Type} {w:World} {a e sz n:Nat} {f:α->List Value} {v:Value} {l:List α} (h:jM w a e sz f v l) (b:n<=a):Frs n v:=λg a=>by have:=(World.ownsRow.lt h g a).1;omega
def bW (v v2:Value):Prop:=∀g,v.ownBlock=some g->v2.ownBlock≠some g
def bW.symm {v v2:Value} (h:bW v v2):bW v2 v:=λg a b=>h g b a
section
variable {α β:Type} {w w':World} {base e sz base2 e2 sz2:Nat} {f:α->List Value} {f2:β->List Value} {v v' v2:Value} {l:List α} {l2:List β}
def bW.append (d:bW v v2) (c:jM w base2 e2 sz2 f2 v2 l2) (h:v'.ownBlock=v.ownBlock\/v'.ownBlock=some w.heap.size):bW v' v2:=by
 intro g a b;rcases h with h|h
 . exact d g (h▸a) b
 rw[a]at h;have:=(World.ownsRow.lt c g b).2;cases h;omega
end
inductive Pl where
 |done
 |q (i:Nat) (p:Pl)
 |p (i:Nat) (p:Pl)
 |e (i:Nat) (p:Pl)
 |or (i:Nat) (p:Pl) (q:Pl)
 |al (is js:List Nat) (p:Pl)
def Fy (all:List Oper) (i:Nat):Nat:=((all[i]?).bind (·.dst)).getD 0
def Bg (all:List Oper) (l:List Nat):List Nat:=l.map (Fy all)
def dU (all:List Oper) (i:Nat):List Nat:=match all[i]? with
 |some o=>o.op.operands.toList.filterMap λx=>match x with| .tmp t=>some t| _=>none
 |none=> []
def iO (all:List Oper) (i:Nat):Bool:=match all[i]? with
 |some o=>o.dst.isSome&&o.guard.isNone&&(match o.op with| .select _ _=>false| _=>true)
 |none=>false
def rm (i:Nat) (l:List Nat):List Nat:=l.filter λk=> !Nat.beq k i
def B7q (l a:List Nat):Bool:=l.all λx=> !a.contains x
def XC:List Nat->Bool
 | []=>true
 |x::r=> !r.contains x&&XC r
def A5e (all:List Oper) (a b:List Nat):Bool:=(a++b).all (iO all)&&XC (a++b)&&XC (Bg all (a++b))&&a.all λi=>B7q (dU all i) (Bg all (a++b))
def A5d (all:List Oper) (tails:List Nat) (b:Nat->Array Bool->Bool):Nat->List Nat->List Nat->Array Bool->Bool
 |0,ri,a,listed=>ri.isEmpty&&a.isEmpty&&b 0 listed
 |f+1,ri,a,listed=>match a.find? λj=>(Region.ready .any all.toArray listed).contains j&&Region.free .any all.toArray listed j with
  |some j=> !tails.contains j&&B7q (dU all j) (Bg all (ri++a))&&A5d all tails b f ri (rm j a) (listed.setIfInBounds j true)
  |none=>match ri with
   | []=>a.isEmpty&&b (f+1) listed
   |i0::c=>(Region.ready .any all.toArray listed==i0::c)&&(i0::c).all λi=> !tails.contains i&&A5d all tails b f (rm i (i0::c)) a (listed.setIfInBounds i true)
def Fz (all:List Oper) (f:Nat->Nat->Value) (X:Nat->Obj):List Nat->G9->World->G9×World
 | [],E,w=>(E,w)
 |i::r,E,w=>Fz all f X r (upd E (Fy all i) (f i w.heap.size)) (w.alloc (X i))
def AlV (P:Program) (all:List Oper) (a:List Nat) (F:G9):Prop:=∀j∈a,∃o,all[j]? =some o/\∀w,(execOp (ev F) o).run P w= .ok (.value (F (Fy all j))) w
structure A8f (P:Program) (R:World->World->Prop) (all:List Oper) (is js:List Nat) (f:Nat->Nat->Value) (X:Nat->Obj) (nx:G9->World->Prop) (E:G9) (w:World):Prop where
 one:∀i∈is,∃o,all[i]? =some o/\∀w',(execOp (ev E) o).run P w'= .ok (.value (f i w'.heap.size)) (w'.alloc (X i))
 rel:∀i∈is,∀w',R w w'->R w' (w'.alloc (X i))
 fin:∀l,l.Perm is->∃F,(∀x,x∉Bg all js->F x=(Fz all f X l E w).1 x)/\AlV P all js F/\nx F (Fz all f X l E w).2
def Rp (all:List Oper) (a tails:List Nat):Pl->Nat->Array Bool->Option (List Nat)->Bool
 | .done,_,listed,al=>al.isNone&&(Region.ready .any all.toArray listed).isEmpty
 | .q i p,fuel,listed,al=>match fuel with
  |0=>false
  |fuel+1=>al.isNone&&a.contains i&& !tails.contains i&&Region.free .any all.toArray listed i&&(Region.ready .any all.toArray listed).contains i&&Rp all a tails p fuel (listed.setIfInBounds i true) none
 | .p i p,fuel,listed,al=>match fuel with
  |0=>false
  |fuel+1=>al.isNone&& !tails.contains i&&Region.free .any all.toArray listed i&&(Region.ready .any all.toArray listed).contains i&&Rp all a tails p fuel (listed.setIfInBounds i true) none
 | .e i p,fuel,listed,al=>match fuel with
  |0=>false
  |fuel+1=>(al.getD (Region.ready .any all.toArray listed)== [i])&&Rp all a tails p fuel (listed.setIfInBounds i true) none
 | .or i p q,fuel,listed,al=>match fuel with
  |0=>false
  |fuel+1=>match al.getD (Region.ready .any all.toArray listed)with
   | []=>false
   |j::b=>Nat.beq i j&&Rp all a tails p fuel (listed.setIfInBounds i true) none&&Rp all a tails q (fuel+1) listed (some b)
 | .al b c p,fuel,listed,al=>al.isNone&&A5e all b c&&A5d all tails (λf l=>Rp all a tails p f l none) fuel b c listed
def B8q (all:List Oper) (a tails:List Nat) (p:Pl):Bool:=Region.noSelect all.toArray&&DO all a tails&&Rp all a tails p all.length (Array.replicate all.length false) none
def VI (P:Program) (R:World->World->Prop) (all:List Oper) (tails:List Nat) (next:G9->World->Prop):Pl->Bool->G9->World->Prop
 | .done,_=>next
 | .q i p,t=>λE w=>∃o,all[i]? =some o/\Pv P (R w) all o (VI P R all tails next p t) E w
 | .p i p,t=>λE w=>∃o,all[i]? =some o/\Pv P (λ_=>True) all o (VI P R all tails next p t) E w
 | .e i p,t=>λE w=>∃o,all[i]? =some o/\J8 P all o (λE' a=>((t||tails.contains i)=true\/R w a)/\VI P R all tails next p (t||tails.contains i) E' a) E w
 | .or i p q,t=>λE w=>(∃o,all[i]? =some o/\J8 P all o (λE' a=>((t||tails.contains i)=true\/R w a)/\VI P R all tails next p (t||tails.contains i) E' a) E w)/\VI P R all tails next q t E w
 | .al a b p,t=>λE w=>∃f X,A8f P R all a b f X (VI P R all tails next p t) E w
section
variable {P:Program} {ops:Array Oper} {Q:Exit->Act->World->Prop} {S S':World->Prop} {tails:List Nat}
def Jo (c:∀w,S w->S' w):∀(fuel:Nat) (listed:Array Bool) (a:Act) (w:World),Y3 P ops Q S tails fuel listed a w->Y3 P ops Q S' tails fuel listed a w
 |0,_,_,_,h=>h
 |fuel+1,_,_,_,h=>⟨h.1,λi g=>wpOp_mono (λf d b=>⟨b.1.imp id (c d),Jo c fuel _ f d b.2⟩) (h.2 i g)⟩
def RG:∀(fuel:Nat) (listed:Array Bool) (a:Act) (w:World),H1 tails listed=true->Y3 P ops Q S tails fuel listed a w->Y3 P ops Q S' tails fuel listed a w
 |0,_,_,_,_,h=>h
 |fuel+1,_,_,_,b,h=>⟨h.1,λi f=>wpOp_mono (λc g d=>⟨.inl (Dr b),RG fuel _ c g (Dr b) d.2⟩) (h.2 i f)⟩
end
def Ll:∀ {l:List Nat},XC l=true->l.Nodup
 | [],_=>wF
 |x::r,h=>by
  simp only[XC,qC,rL]at h;exact sP.2 ⟨R3 h.1,Ll h.2⟩
def gZ {i k:Nat} {l:List Nat} :k∈rm i l↔k∈l/\k≠i:=by
 unfold rm;rw[yA];refine and_congr_right λ_=>⟨λh e=>by subst e;simp at h,λh=>by rw[E5 h];rfl⟩
def A4o {i:Nat} :∀ {l:List Nat},l.Nodup->i∈l->(i::rm i l).Perm l
 | [],_,h=>by cases h
 |x::r,f,h=>by
  obtain⟨b,c⟩:=sP.1 f;by_cases a:x=i
  . subst a;have:rm x (x::r)=r:=by
     unfold rm;rw[g1u,qL (by simp)];exact g0s.2 λk d=>by rw[E5 (show k≠x from λe=>b (by rw[<-e];exact d))];rfl
    rw[this]
  have:rm i (x::r)=x::rm i r:=by
   unfold rm;rw[g1u,qT (by rw[E5 a];rfl)]
  rw[this];rcases qV.1 h with h|h
  . exact absurd h.symm a
  exact(List.Perm.swap x i _).trans ((A4o c h).cons x)
def PE {l a:List Nat} (h:B7q l a=true):∀x∈l,x∉a:=λx a=>by
 have:=tB.1 h x a;simp only[rL]at this;exact R3 this
def Zm {all:List Oper} {i:Nat} {o:Oper} (h:iO all i=true) (c:all[i]? =some o):o.dst=some (Fy all i)/\o.guard=none/\∀cs b,o.op≠ .select cs b:=by
 unfold iO at h;rw[c]at h;simp only[qC,vH]at h;refine⟨?_,h.1.2,λcs b e=>by rw[e]at h;simp at h⟩;cases a:o.dst with
 |none=>rw[a]at h;simp at h
 |some d=>simp[Fy,c,a]
def A6l {all:List Oper} {i:Nat} {o:Oper} {t:Nat} (a:all[i]? =some o) (h:Operand.tmp t∈o.op.operands):t∈dU all i:=by
 unfold dU;rw[a];exact List.mem_filterMap.2 ⟨.tmp t,by simpa using h,rfl⟩
def NQ {all:List Oper} {i:Nat} {o:Oper} {E E':G9} (a:all[i]? =some o) (c:∀cs b,o.op≠ .select cs b) (h:∀t∈dU all i,E t=E' t):execOp (ev E) o=execOp (ev E') o:=
 execOp_congr o c λx d=>by
  cases x with
  |tmp t=>exact h t (A6l a d)
  | _=>rfl
def AC {all:List Oper} {f:Nat->Nat->Value} {X:Nat->Obj} :∀(a b:List Nat) (E:G9) (w:World),Fz all f X (a++b) E w=Fz all f X b (Fz all f X a E w).1 (Fz all f X a E w).2
 | [],_,_,_=>rfl
 |i::a,b,E,w=>AC a b _ _
def Ic {all:List Oper} {f:Nat->Nat->Value} {X:Nat->Obj} {x:Nat} :∀(l:List Nat) (E:G9) (w:World),x∉Bg all l->(Fz all f X l E w).1 x=E x
 | [],_,_,_=>rfl
 |i::l,E,w,h=>by
  simp only[Bg,rW,qV,g4x]at h;simp only[Fz];rw[Ic l _ _ h.2,C5 _ _ _ _ h.1]
def K7 {all:List Oper} {l:List Nat} {x:Nat} :x∈Bg all l↔∃i∈l,Fy all i=x:=by simp[Bg]
def fZ {all:List Oper} :∀ {l:List Nat},(Bg all l).Nodup->∀ {i k:Nat},i∈l->k∈l->i≠k->Fy all i≠Fy all k
 | [],_,_,_,h,_,_=>by cases h
 |x::r,c,i,k,hi,a,d=>by
  simp only[Bg,rW]at c;obtain⟨b,f⟩:=sP.1 c;rcases qV.1 hi with hi|hi<;>rcases qV.1 a with a|a
  . exact absurd (hi.trans a.symm) d
  . rw[hi];exact λe=>b (K7.2 ⟨k,a,e.symm⟩)
  . rw[a];exact λe=>b (K7.2 ⟨i,hi,e⟩)
  exact fZ f hi a d
def B9h {P:Program} {R:World->World->Prop} (bq:∀w,R w w) (b2:∀ {a b c},R a b->R b c->R a c) {n:Nat} {all:List Oper} {a4 tails O s:List Nat} (av:lH n all=true) (bs:Region.noSelect all.toArray=true) (bw:DO all a4 tails=true) {Q:Exit->Act->World->Prop} (bg:∀(c:List PanicEntry) (a a1:Act) (w:World),Q (.panic c) a1 w->Q (.panic c) a w)
 {ap:Nat->Array Bool->Bool} {b8:G9->World->Prop} {t:Bool} {f:Nat->Nat->Value} {X:Nat->Obj} {E:G9} {w:World} (b1:A5e all O s=true) (a0:A8f P R all O s f X b8 E w)
 (bk:∀(l:Nat) (listed:Array Bool) (a:Act) (E':G9) (w':World),ap l listed=true->aH all.toArray a4 tails listed->t=H1 tails listed->C6 n a E'->b8 E' w'->Y3 P all.toArray Q (R w') tails l listed a w'):
 ∀(l:Nat) (ri I:List Nat) (listed:Array Bool),A5d all tails ap l ri I listed=true->aH all.toArray a4 tails listed->t=H1 tails listed->∀(a:Act) (Ec:G9) (g:List Nat),C6 n a Ec->(g++ri).Perm O->(∀j∈I,j∈s)->
  (∀r,r.Perm ri->∀F,(∀x,x∉Bg all s->F x=(Fz all f X (g++r) E w).1 x)->AlV P all s F->∀x,x∉Bg all (ri++I)->F x=Ec x)->R w (Fz all f X g E w).2->
  Y3 P all.toArray Q (R (Fz all f X g E w).2) tails l listed a (Fz all f X g E w).2:=by
 simp only[A5e,qC,tB]at b1;obtain⟨⟨⟨ba,a7⟩,a8⟩,bz⟩:=b1;have a7:=Ll a7;have a8:=Ll a8;have b3:=AH bw;have fin:∀(l:Nat) (listed:Array Bool),ap l listed=true->aH all.toArray a4 tails listed->t=H1 tails listed->∀(a:Act) (Ec:G9) (g:List Nat),C6 n a Ec->(g++ []).Perm O->(∀r,r.Perm []->∀F,(∀x,x∉Bg all s->F x=(Fz all f X (g++r) E w).1 x)->AlV P all s F->∀x,x∉Bg all ([]++ [])->F x=Ec x)->Y3 P all.toArray Q (R (Fz all f X g E w).2) tails l listed a (Fz all f X g E w).2:=by
  intro l listed z o D a Ec g B A y;obtain⟨F,h,i,k⟩:=a0.fin g (by simpa using A);have:F=Ec:=funext λx=>y [] (wQ _) F (by simpa using h) i x (by simp[Bg])
  subst this;exact bk l listed a F _ z o D B k
 intro l
 induction l with
 |zero=>
  intro ri I listed h i z a Ec g y o _ k _;simp only[A5d,qC,g0f]at h;obtain⟨⟨rfl,rfl⟩,h⟩:=h;exact fin 0 listed h i z a Ec g y o k
 |succ l b7=>
  intro ri I listed z W ah a Ec g Z A T Y a9;simp only[A5d]at z;split at z
  . rename_i j ar;simp only[qC,rL]at z;obtain⟨⟨an,ao⟩,bx⟩:=z;have ad:j∈I:=List.mem_of_find?_eq_some ar;have ae:=List.find?_some ar;simp only[qC]at ae;have ay:j∈Region.ready .any all.toArray listed:=by simpa using ae.1
    have a5:=R3 an;have bu:=PE ao;obtain⟨F0,a2,a3,_⟩:=a0.fin (g++ri) A;obtain⟨G,D,a6⟩:=a3 j (T j ad);obtain⟨aa,ac,af⟩:=Zm (ba j (tA _ (T j ad))) D;have aw:all.toArray[j]? =some G:=by simpa using D
    have bb:∀r,r.Perm ri->∀F,(∀x,x∉Bg all s->F x=(Fz all f X (g++r) E w).1 x)->AlV P all s F->execOp (ev F) G=execOp (ev Ec) G:=λr N F H J=>NQ D af λu hu=>Y r N F H J u (bu u hu)
    have aq:=bb ri (wQ _) F0 a2 a3;have ai:t=H1 tails (listed.setIfInBounds j true):=by rw[J2 a5];exact ah
    have aj:D6 all G Ec=true:=by simp[D6,ac]
    refine BU (v:=F0 (Fy all j)) aw a5 (Region.noSelect_spec bs) (λc a w B=>bg c a _ w B) l listed a _ (Region.free_spec aw ae.2) ay (.inl ⟨by rw[Z.wanted];exact aj,λw' _=>by rw[Z.ev, <-aq];exact a6 w'⟩) (.inr (bq _)) ?_;refine b7 ri (rm j I) _ bx (W.set b3 ay) ai _ (upd Ec (Fy all j) (F0 (Fy all j))) g ?_ A (λk h=>T k (gZ.1 h).1) (λr N F H J x U=>?_) a9
    . have:=Z.put G.dst (F0 (Fy all j)) λd W=>by
       have:=tB.1 av G (sW D);simpa[W]using this
      rw[aa]at this|-;exact this
    by_cases am:x=Fy all j
    . subst am;rw[C1];obtain⟨c0,ax,bv⟩:=J j (T j ad);rw[D]at ax;cases ax;have V:=bv w;rw[bb r N F H J, <-aq,a6 w]at V;simp only[Result.ok.injEq,Next.value.injEq,vO]at V;exact V.symm
    rw[C5 _ _ _ _ am];refine Y r N F H J x λo=>U ?_
    obtain⟨i,y,e⟩:=K7.1 o;refine K7.2 ⟨i,?_,e⟩;rcases qS.1 y with y|y
    . exact sE _ y
    exact tA _ (gZ.2 ⟨y,λB=>am (by rw[<-e,B])⟩)
  split at z
  . simp only[qC,g0f]at z;obtain⟨rfl,z⟩:=z;exact fin _ listed z W ah a Ec g Z A Y
  rename_i b6 b9;have bn:b6::b9≠ []:=by simp
  generalize b6::b9=ri at*;simp only[qC,tB,g1k,rL]at z;obtain⟨az,bh⟩:=z;unfold Y3;refine⟨λbc=>absurd (az.symm.trans bc) bn,λi y=>?_⟩;have bl:=y;rw[az]at y;obtain⟨an,ao⟩:=bh i y;have a5:=R3 an;have M:i∈O:=A.subset (tA _ y);have bm:(g++ri).Nodup:=A.nodup_iff.2 (sF.1 a7).1;obtain⟨G,D,a6⟩:=a0.one i M;obtain⟨aa,ac,af⟩:=Zm (ba i (sE _ M)) D;obtain⟨F0,a2,a3,_⟩:=a0.fin (g++ri) A;have bf:∀x,x∉Bg all (O++s)->Ec x=E x:=λx U=>by
   have b4:x∉Bg all O:=λo=>U (by obtain⟨k,h,e⟩:=K7.1 o;exact K7.2 ⟨k,sE _ h,e⟩)
   have b5:x∉Bg all s:=λo=>U (by obtain⟨k,h,e⟩:=K7.1 o;exact K7.2 ⟨k,tA _ h,e⟩)
   have V:=Y ri (wQ _) F0 a2 a3 x λo=>by
    obtain⟨k,h,e⟩:=K7.1 o;rcases qS.1 h with h|h
    . exact b4 (K7.2 ⟨k,A.subset (tA _ h),e⟩)
    exact b5 (K7.2 ⟨k,T k h,e⟩)
   rw[<-V,a2 x b5];exact Ic _ _ _ λo=>by
    obtain⟨k,h,e⟩:=K7.1 o;exact b4 (K7.2 ⟨k,A.subset h,e⟩)
  have bj:=NQ (E:=Ec) (E':=E) D af λu hu=>bf u (PE (bz i M) u hu)
  have ai:t=H1 tails (listed.setIfInBounds i true):=by rw[J2 a5];exact ah
  have aj:D6 all G Ec=true:=by simp[D6,ac]
  have bt:J8 P all G (λE' w'=>E'=upd Ec (Fy all i) (f i (Fz all f X g E w).2.heap.size)/\w'=(Fz all f X g E w).2.alloc (X i)) Ec (Fz all f X g E w).2:=by
   unfold J8;rw[qT aj,bj,a6,aa];exact⟨rfl,rfl⟩
  have ag:=a0.rel i M _ a9;refine HY av D (λa1 E' w' bp B=>?_) Z bt;obtain⟨rfl,rfl⟩:=B;refine⟨.inr ag,?_⟩;have ab:Fz all f X (g++ [i]) E w=(upd (Fz all f X g E w).1 (Fy all i) (f i (Fz all f X g E w).2.heap.size),(Fz all f X g E w).2.alloc (X i)):=by rw[AC];rfl
  have b0:=A4o (sF.1 bm).2.1 y;have:=b7 (rm i ri) I _ ao (W.set b3 bl) ai a1 _ (g++ [i]) bp (by
   rw[uC];exact(g2y g b0).trans A) T (λr N F H J x U=>?_) (by rw[ab];exact b2 a9 ag)
  . rw[ab]at this;exact Jo (λc2 be=>b2 ag be) l _ a1 _ this
  have bi:(i::r).Perm ri:=(N.cons i).trans b0;rw[uC]at H;by_cases ak:x=Fy all i
  . subst ak;have bo:Fy all i∉Bg all s:=λo=>by
     obtain⟨k,h,e⟩:=K7.1 o;exact fZ a8 (tA _ h) (sE _ M) (λB=>by
      subst B;exact(sF.1 a7).2.2 k M k h rfl) e
    rw[H _ bo,C1,show g++([i]++r)=(g++ [i])++r from(uC _ _ _).symm,AC,ab];refine(Ic _ _ _ λo=>?_).trans (C1 _ _ _);obtain⟨k,h,e⟩:=K7.1 o;have au:=gZ.1 (N.subset h);exact fZ a8 (sE _ (A.subset (tA _ au.1))) (sE _ M) au.2 e
  rw[C5 _ _ _ _ ak];refine Y (i::r) bi F H J x λo=>U ?_
  obtain⟨k,h,e⟩:=K7.1 o;refine K7.2 ⟨k,?_,e⟩;rcases qS.1 h with h|h
  . exact sE _ (gZ.2 ⟨h,λB=>ak (by rw[<-e,B])⟩)
  exact tA _ h
def A9s {P:Program} {R:World->World->Prop} (N:∀w,R w w) (a8:∀ {a b c},R a b->R b c->R a c) {n:Nat} {all:List Oper} {J tails:List Nat} (a1:lH n all=true) (U:Region.noSelect all.toArray=true) (I:DO all J tails=true) {Q:Exit->G9->World->Prop} (aa:∀c E w,¬Q (.panic c) E w):
 ∀(p:Pl) (f:Nat) (listed:Array Bool) (al:Option (List Nat)),Rp all J tails p f listed al=true->aH all.toArray J tails listed->∀(t:Bool),t=H1 tails listed->∀(a:Act) (E:G9) (w:World),C6 n a E->(∀l,al=some l->∀i∈l,i∈Region.ready .any all.toArray listed)->VI P R all tails (Q .normal) p t E w->
  match al with
  |none=>Y3 P all.toArray (EO n Q) (R w) tails f listed a w
  |some l=>∃D,f=D+1/\∀i∈l,wpOp P all.toArray (EO n Q) i (λu o=>(H1 tails (listed.setIfInBounds i true)=true\/R w o)/\Y3 P all.toArray (EO n Q) (R w) tails D (listed.setIfInBounds i true) u o) a w:=by
 have T:∀(c:List PanicEntry) (a u:Act) (w:World),EO n Q (.panic c) u w->EO n Q (.panic c) a w:=λc a u w ⟨E,_,h⟩=>(aa c E w h).elim
 have V:∀(i:Nat) (y:Oper),all[i]? =some y->∀d,y.dst=some d->d<n:=λi y B d s=>by
  have:=tB.1 a1 y (sW B);simpa[s]using this
 have M:=AH I;have one:∀(i:Nat) (p:Pl) (f:Nat) (listed:Array Bool) (t:Bool) (a:Act) (E:G9) (w:World),(∀(f:Nat) (listed:Array Bool) (al:Option (List Nat)),Rp all J tails p f listed al=true->aH all.toArray J tails listed->∀(t:Bool),t=H1 tails listed->∀(a:Act) (E:G9) (w:World),C6 n a E->(∀l,al=some l->∀i∈l,i∈Region.ready .any all.toArray listed)->VI P R all tails (Q .normal) p t E w->
  match al with
  |none=>Y3 P all.toArray (EO n Q) (R w) tails f listed a w
  |some l=>∃D,f=D+1/\∀i∈l,wpOp P all.toArray (EO n Q) i (λu o=>(H1 tails (listed.setIfInBounds i true)=true\/R w o)/\Y3 P all.toArray (EO n Q) (R w) tails D (listed.setIfInBounds i true) u o) a w)->
  Rp all J tails p f (listed.setIfInBounds i true) none=true->aH all.toArray J tails listed->t=H1 tails listed->C6 n a E->i∈Region.ready .any all.toArray listed->(∃y,all[i]? =some y/\J8 P all y (λE' o=>((t||tails.contains i)=true\/R w o)/\VI P R all tails (Q .normal) p (t||tails.contains i) E' o) E w)->
  wpOp P all.toArray (EO n Q) i (λu o=>(H1 tails (listed.setIfInBounds i true)=true\/R w o)/\Y3 P all.toArray (EO n Q) (R w) tails f (listed.setIfInBounds i true) u o) a w:=by
  intro i p f listed t a E w A g s z k Z ⟨y,B,h⟩;have H:(t||tails.contains i)=H1 tails (listed.setIfInBounds i true):=by rw[kP (B2z Z),z]
  refine HY a1 B (λu E' o a2 j=>⟨H▸j.1,?_⟩) k h;have:=A f _ none g (s.set M Z) _ H u E' o a2 (λ_ j=>by cases j) j.2;simp only at this;rcases j.1 with a0|a0
  . exact RG f _ u o (H▸a0) this
  exact Jo (λah O=>a8 a0 O) f _ u o this
 intro p
 induction p with
 |done=>
  intro f listed al g _ t _ a E w k _ h;simp only[Rp,qC,vH]at g;obtain⟨rfl,g⟩:=g;have D:Region.ready .any all.toArray listed= []:=by simpa using g
  cases f with
  |zero=>exact⟨D,E,k,h⟩
  |succ f=>exact⟨λ_=>⟨E,k,h⟩,by rw[D];simp⟩
 |q i p A=>
  intro f listed al g s t z a E w k _ h;cases f with
  |zero=>simp[Rp]at g
  |succ f=>
   simp only[Rp,qC,rL,vH]at g;obtain⟨⟨⟨⟨⟨rfl,Y⟩,G⟩,a3⟩,D⟩,g⟩:=g;have Y:i∈J:=by simpa using Y
   have G:=R3 G;have D:i∈Region.ready .any all.toArray listed:=by simpa using D
   obtain⟨y,B,h⟩:=h;have W:all.toArray[i]? =some y:=by simpa using B
   have H:t=H1 tails (listed.setIfInBounds i true):=by rw[J2 G];exact z
   rcases h with⟨I,v,a5,h⟩ | ⟨I,h⟩
   . refine MH (v:=v) W Y G (Region.noSelect_spec U) M (λc a w j=>T c a _ w j) f listed a w s (Region.free_spec W a3) D (.inl ⟨by rw[k.wanted];exact I,λo a4=>by rw[k.ev];exact a5 o a4⟩) (N w) ?_;exact A f _ none g (s.set M D) t H _ _ w (k.put _ _ (V i y B)) (λ_ j=>by cases j) h
   refine MH (v:=undef) W Y G (Region.noSelect_spec U) M (λc a w j=>T c a _ w j) f listed a w s (Region.free_spec W a3) D (.inr ⟨by rw[k.wanted];exact I,rfl⟩) (N w) ?_;exact A f _ none g (s.set M D) t H _ _ w (k.put _ _ (V i y B)) (λ_ j=>by cases j) h
 |p i p A=>
  intro f listed al g s t z a E w k _ h;cases f with
  |zero=>simp[Rp]at g
  |succ f=>
   simp only[Rp,qC,rL,vH]at g;obtain⟨⟨⟨⟨rfl,G⟩,Y⟩,D⟩,g⟩:=g;have G:=R3 G;have D:i∈Region.ready .any all.toArray listed:=by simpa using D
   obtain⟨y,B,h⟩:=h;have W:all.toArray[i]? =some y:=by simpa using B
   have H:t=H1 tails (listed.setIfInBounds i true):=by rw[J2 G];exact z
   rcases h with⟨I,v,a4,h⟩ | ⟨I,h⟩
   . refine BU (v:=v) W G (Region.noSelect_spec U) (λc a w j=>T c a _ w j) f listed a w (Region.free_spec W Y) D (.inl ⟨by rw[k.wanted];exact I,λo a3=>by rw[k.ev];exact a4 o a3⟩) (.inr (N w)) ?_;exact A f _ none g (s.set M D) t H _ _ w (k.put _ _ (V i y B)) (λ_ j=>by cases j) h
   refine BU (v:=undef) W G (Region.noSelect_spec U) (λc a w j=>T c a _ w j) f listed a w (Region.free_spec W Y) D (.inr ⟨by rw[k.wanted];exact I,rfl⟩) (.inr (N w)) ?_;exact A f _ none g (s.set M D) t H _ _ w (k.put _ _ (V i y B)) (λ_ j=>by cases j) h
 |e i p A=>
  intro f listed al g s t z a E w k a3 h;cases f with
  |zero=>simp[Rp]at g
  |succ f=>
   simp only[Rp,qC,g1k]at g;obtain⟨D,g⟩:=g;cases al with
   |none=>
    simp only[g2c]at D;have Z:i∈Region.ready .any all.toArray listed:=by rw[D];simp
    refine⟨λG=>by rw[D]at G;simp at G,?_⟩;intro Y W;obtain rfl:Y=i:=by rw[D]at W;simpa using W
    exact one Y p f listed t a E w A g s z k Z h
   |some l=>
    simp only[vS]at D;subst D;refine⟨f,rfl,λG W=>?_⟩;obtain rfl:G=i:=by simpa using W
    exact one G p f listed t a E w A g s z k (a3 _ rfl G (by simp)) h
 |or i p q ae af=>
  intro f listed al g s t z a E w k ab h;cases f with
  |zero=>simp[Rp]at g
  |succ f=>
   simp only[Rp]at g;cases D:al.getD (Region.ready .any all.toArray listed)with
   |nil=>rw[D]at g;simp at g
   |cons ag a3=>
    rw[D]at g;simp only[qC]at g;obtain⟨⟨Y,ac⟩,ad⟩:=g;have Y:=qD Y;subst Y;have a7:∀m∈i::a3,m∈Region.ready .any all.toArray listed:=λm G=>by
     cases al with
     |none=>rw[g2c]at D;rw[D];exact G
     |some l=>rw[vS]at D;exact ab l rfl m (by rw[D];exact G)
    have a9:=one i p f listed t a E w ae ac s z k (a7 i (by simp)) h.1;have O:=af (f+1) listed (some a3) ad s t z a E w k (λl j m G=>by cases j;exact a7 m (by simp[G])) h.2;obtain⟨W,a6,O⟩:=O;have a6:W=f:=ω
    subst a6;have a5:∀m∈i::a3,wpOp P all.toArray (EO n Q) m (λu o=>(H1 tails (listed.setIfInBounds m true)=true\/R w o)/\Y3 P all.toArray (EO n Q) (R w) tails W (listed.setIfInBounds m true) u o) a w:=λm G=>by
     rcases qV.1 G with rfl|G
     . exact a9
     exact O m G
    cases al with
    |none=>
     rw[g2c]at D;exact⟨λa4=>by rw[D]at a4;simp at a4,λm G=>a5 m (by rw[D]at G;exact G)⟩
    |some l=>
     rw[vS]at D;subst D;exact⟨W,rfl,a5⟩
 |al ac a3 p A=>
  intro f listed al g s t z a E w k _ h;simp only[Rp,qC,vH]at g;obtain⟨⟨rfl,a9⟩,g⟩:=g;obtain⟨ae,X,a7⟩:=h;refine B9h N a8 a1 U I T (t:=t) a9 a7 (λa4 ad u E' o a6 a5 H a2 D=>A a4 ad none a6 a5 t H u E' o a2 (λ_ j=>by cases j) D) f ac a3 listed g s z a E [] k (wQ _) (λ_ j=>j) (λr hrp F g1 g2 x D=>?_) (N w);have ab:x∉Bg all a3:=λW=>D (by obtain⟨Y,G,e⟩:=K7.1 W;exact K7.2 ⟨Y,tA _ G,e⟩)
  rw[g1 x ab,wW];exact Ic _ _ _ λW=>D (by obtain⟨Y,G,e⟩:=K7.1 W;exact K7.2 ⟨Y,sE _ (hrp.subset G),e⟩)
end Go.Gw
namespace Go.Vc
open Go Go.RowKit Go.Gw
open Go.IntKind (i64)
inductive Ty where
 |int (k:IntKind)
 |bool
 |str
 |unit
 |pair (a b:Ty)
 |sl (t:Ty)
 |ptr (t:Ty)
 |mp (ka:Bool) (kt:Ty) (va:Bool) (vt:Ty)
 deriving DecidableEq
@[reducible] def Ty.den:Ty->Type
 | .int _=>Int
 | .bool=>Bool
 | .str=>ByteArray
 | .unit=>Unit
 | .pair a b=>a.den×b.den
 | .sl t=>List t.den
 | .ptr t=>t.den
 | .mp _ a _ b=>List (a.den×b.den)
def Ty.size:Ty->Nat
 | .unit=>0
 | .pair a b=>a.size+b.size
 | _=>1
def Ty.dflt:(t:Ty)->t.den
 | .int _=>(0:Int)
 | .bool=>false
 | .str=>⟨#[]⟩
 | .unit=>()
 | .pair a b=>(a.dflt,b.dflt)
 | .sl _=> []
 | .ptr t=>t.dflt
 | .mp _ _ _ _=> []
def FT (k:IntKind) (n:Int):Prop:=k.min<=n/\n<=k.max
def Ty.wf:(t:Ty)->t.den->Prop
 | .int k,n=>FT k n
 | .bool,_=>True
 | .str,_=>True
 | .unit,_=>True
 | .pair a b,x=>a.wf x.1/\b.wf x.2
 | .sl t,l=>l.length<=9223372036854775807/\∀x∈l,t.wf x
 | .ptr t,x=>t.wf x
 | .mp _ a _ b,l=>∀x∈l,a.wf x.1/\b.wf x.2
def G5 {α:Type} (R:List Value->α->Prop):List Value->List α->Prop
 |a,[]=>a= []
 |b,x::l=>∃c1 a,b=c1++a/\R c1 x/\G5 R a l
def U7 {α:Type} (R:List Value->α->Prop):Bool->Value->α->Prop
 |true,v,x=>∃a:List Value,v= .agg a.toArray/\R a x
 |false,v,x=>R [v] x
def MOk (a:Array MapEntry) (b:Nat):Prop:=(∀x∈a.toList,x.born<b)/\(a.toList.map (·.born)).Nodup
def S8 {a b:Type} (Rk:Value->a->Prop) (Rv:Value->b->Prop):List MapEntry->List (a×b)->Prop
 |a,[]=>a= []
 |b,x::l=>∃e a,b=e::a/\Rk e.key x.1/\Rv e.val x.2/\S8 Rk Rv a l
def C6:(t:Ty)->World->(Nat->Prop)->List Value->t.den->Prop
 | .int k,_,_,a,n=>a= [.int k n]/\FT k n
 | .bool,_,_,a,b=>a= [.bool b]
 | .str,_,_,a,s=>a= [.string s]
 | .unit,_,_,a,_=>a= []
 | .pair b c,w,Z,d,x=>∃c1 a,d=c1++a/\C6 b w Z c1 x.1/\C6 c w Z a x.2
 | .sl t,w,Z,f,l=>∃b a,f= [.slice b l.length a]/\l.length<=a/\a<=maxLen/\(b=none->a=0)/\(l= []\/∃c o d,b=some ⟨c,o,none⟩/\Z c/\I0 w ⟨c,o,none⟩ d/\G5 (C6 t w Z) d l)
 | .ptr t,w,Z,c,x=>∃b o a,c= [.pointer (some ⟨b,o,none⟩)]/\Z b/\I0 w ⟨b,o,none⟩ a/\C6 t w Z a x
 | .mp f g h i,w,Z,d,l=>(d= [.map none]/\l= [])\/∃b a c,d= [.map (some b)]/\Z b/\w.heap[b]? =some (.map a c)/\MOk a c/\S8 (U7 (C6 g w Z) f) (U7 (C6 i w Z) h) a.toList l
def U7.mono {α:Type} {R R':List Value->α->Prop} (h:∀c x,R c x->R' c x):∀ {a:Bool} {v:Value} {x:α},U7 R a v x->U7 R' a v x
 |true,_,_,⟨b,e,d⟩=>⟨b,e,h _ _ d⟩
 |false,_,_,b=>h _ _ b
def S8.mono {b d:Type} {Rk Rk':Value->b->Prop} {Rv Rv':Value->d->Prop} (h:∀c x,Rk c x->Rk' c x) (a:∀c x,Rv c x->Rv' c x):∀ {l:List (b×d)} {es:List MapEntry},S8 Rk Rv es l->S8 Rk' Rv' es l
 | [],_,b=>b
 | _:: _,_,⟨e,b,i,d,f,g⟩=>⟨e,b,i,h _ _ d,a _ _ f,S8.mono h a g⟩
def S8.mem {b c:Type} {Rk:Value->b->Prop} {Rv:Value->c->Prop} :∀ {l:List (b×c)} {es:List MapEntry} {x:b×c},S8 Rk Rv es l->x∈l->∃e∈es,Rk e.key x.1/\Rv e.val x.2
 |y::l,_,x,⟨e,n,j,f,g,i⟩,a=>by
  rw[j];rcases qV.1 a with rfl|a
  . exact⟨e,by simp,f,g⟩
  obtain⟨d,k,h⟩:=S8.mem i a;exact⟨d,by simp[k],h⟩
section each
variable {α:Type} {R R':List Value->α->Prop}
def G5.mono (h:∀c x,R c x->R' c x):∀ {l:List α} {cs:List Value},G5 R cs l->G5 R' cs l
 | [],_,a=>a
 | _:: _,_,⟨c1,a,e,b,d⟩=>⟨c1,a,e,h _ _ b,G5.mono h d⟩
def G5.append:∀ {l a:List α} {cs cs':List Value},G5 R cs l->G5 R cs' a->G5 R (cs++cs') (l++a)
 | [],_,cs,cs',h,b=>by cases h;simpa using b
 | _:: _,_,_,cs',⟨c1,b,e,d,f⟩,c=>⟨c1,b++cs',by simp[e],d,G5.append f c⟩
def G5.length {s:Nat} (a:∀c x,R c x->c.length=s):∀ {l:List α} {cs:List Value},G5 R cs l->cs.length=l.length*s
 | [],_,h=>by cases h;simp
 | _::l,_,⟨c1,f,e,b,d⟩=>by
  have:=G5.length a d;rw[e,rN,a _ _ b,this,rJ,tZ];omega
def G5.get {s:Nat} (f:∀c x,R c x->c.length=s):∀ {l:List α} {cs:List Value} {i:Nat} {x:α},G5 R cs l->l[i]? =some x->R ((cs.drop (i*s)).take s) x
 | [],_,_,_,_,a=>by simp at a
 |y::l,_,i,x,⟨c1,h,e,b,g⟩,a=>by
  have d:=f _ _ b;cases i with
  |zero=>
   simp at a;subst a;rw[e,xQ,tO,g0m d];exact b
  |succ i=>
   simp at a;have:=G5.get f g a;rw[e,tZ,vZ, <-vX,zI d];exact this
def G5.set {s:Nat} (g:∀c x,R c x->c.length=s):∀ {l:List α} {cs:List Value} {i:Nat} {x:α} {c:List Value},G5 R cs l->R c x->i<l.length->G5 R (cs.take (i*s)++c++cs.drop (i*s+s)) (l.set i x)
 | [],_,_,_,_,_,_,a=>by simp at a
 |y::l,_,i,x,c,⟨c1,h,e,b,d⟩,f,k=>by
  have a:=g _ _ b;cases i with
  |zero=>
   refine⟨c,h,?_,f,d⟩;rw[e,xQ,sC,zZ,wW,zI a]
  |succ i=>
   have n:i<l.length:=by simpa using k
   refine⟨c1,_,?_,b,G5.set g d f n⟩;have j:(i+1)*s=s+i*s:=by rw[tZ,vZ]
   rw[e,j,g0g,qQ ω,a,g1y,g4q,sG ω,a];simp[(ω:s+i*s+s-s=i*s+s)]
def G5.take {s:Nat} (b:∀c x,R c x->c.length=s):∀ {l:List α} {cs:List Value} (n:Nat),G5 R cs l->G5 R (cs.take (n*s)) (l.take n)
 | [],_,n,h=>by cases h;simp;rfl
 | _::l,_,n,⟨c1,g,e,a,d⟩=>by
  have f:=b _ _ a;cases n with
  |zero=>simp;rfl
  |succ n=>
   refine⟨c1,_,?_,a,G5.take b n d⟩;rw[e,show(n+1)*s=s+n*s from by rw[tZ,vZ],g0g,qQ ω,f,g1y]
def G5.drop {s:Nat} (d:∀c x,R c x->c.length=s):∀ {l:List α} {cs:List Value} (n:Nat),G5 R cs l->G5 R (cs.drop (n*s)) (l.drop n)
 | [],_,n,h=>by cases h;simp;rfl
 | _::l,_,n,⟨c1,f,e,a,b⟩=>by
  have g:=d _ _ a;cases n with
  |zero=>simp;exact⟨c1,f,e,a,b⟩
  |succ n=>
   have:=G5.drop d n b;rw[e,show(n+1)*s=s+n*s from by rw[tZ,vZ], <-vX,zI g];exact this
end each
def C6.length:∀ {t:Ty} {w:World} {Z:Nat->Prop} {cs:List Value} {x:t.den},C6 t w Z cs x->cs.length=t.size
 | .int _,_,_,_,_,h=>by rw[h.1];rfl
 | .bool,_,_,_,_,h=>by rw[show _= _ from h];rfl
 | .str,_,_,_,_,h=>by rw[show _= _ from h];rfl
 | .unit,_,_,_,_,h=>by rw[show _= _ from h];rfl
 | .pair c d,_,_,_,_,⟨c1,f,e,a,b⟩=>by rw[e,rN,C6.length a,C6.length b];rfl
 | .sl _,_,_,_,_,⟨_,_,e,_⟩=>by rw[e];rfl
 | .ptr _,_,_,_,_,⟨_,_,_,e,_⟩=>by rw[e];rfl
 | .mp _ _ _ _,_,_,_,_,h=>by
  rcases h with⟨e,_⟩ | ⟨_,_,_,e,_⟩<;>rw[e]<;>rfl
def O1 (Z:Nat->Prop) (w w':World):Prop:=∀b,Z b->w'.heap[b]? =w.heap[b]?
def Yn {Z:Nat->Prop} {w w':World} {b o:Nat} {a:List Value} (h:I0 w ⟨b,o,none⟩ a) (c:Z b) (d:O1 Z w w'):I0 w' ⟨b,o,none⟩ a:=λj v a=>by
 have:=h j v a;rw[J9]at this|-;rw[<-this];exact World.cell?_of_block (d b c)
def C6.mono:∀ {t:Ty} {w w':World} {Z Z':Nat->Prop} {cs:List Value} {x:t.den},(∀b,Z b->Z' b)->O1 Z w w'->C6 t w Z cs x->C6 t w' Z' cs x
 | .int _,_,_,_,_,_,_,_,_,h=>h
 | .bool,_,_,_,_,_,_,_,_,h=>h
 | .str,_,_,_,_,_,_,_,_,h=>h
 | .unit,_,_,_,_,_,_,_,_,h=>h
 | .pair h b,_,_,_,_,_,_,c,a,⟨c1,d,e,f,g⟩=>⟨c1,d,e,C6.mono c a f,C6.mono c a g⟩
 | .sl t,_,_,_,_,_,_,d,c,⟨f,g,e,j,n,o,i⟩=>⟨f,g,e,j,n,o,i.imp id fun⟨b,r,h,ha,a,k,l⟩=>⟨b,r,h,ha,d b a,Yn k a c,l.mono λ_ _=>C6.mono d c⟩⟩
 | .ptr t,_,_,_,_,_,_,d,c,⟨b,o,f,e,a,g,h⟩=>⟨b,o,f,e,d b a,Yn g a c,C6.mono d c h⟩
 | .mp d f g i,_,_,_,_,_,_,c,a,h=>h.imp id fun⟨b,es,cl,e,d,hh,g,f⟩=>⟨b,es,cl,e,c b d,by rw[a b d];exact hh,g,f.mono (λ_ _ h=>h.mono λ_ _=>C6.mono c a) (λ_ _ h=>h.mono λ_ _=>C6.mono c a)⟩
def U7.wf' {t:Ty} {R:List Value->t.den->Prop} (b:∀cs x,R cs x->t.wf x):∀ {a:Bool} {v:Value} {x:t.den},U7 R a v x->t.wf x
 |true,_,_,⟨_,_,h⟩=>b _ _ h
 |false,_,_,h=>b _ _ h
def C6.wf:∀ {t:Ty} {w:World} {Z:Nat->Prop} {cs:List Value} {x:t.den},C6 t w Z cs x->t.wf x
 | .int _,_,_,_,_,h=>h.2
 | .bool,_,_,_,_,_=>trivial
 | .str,_,_,_,_,_=>trivial
 | .unit,_,_,_,_,_=>trivial
 | .pair c d,_,_,_,_,⟨c1,f,e,a,b⟩=>⟨C6.wf a,C6.wf b⟩
 | .sl t,_,_,_,o,⟨g,k,e,n,d,_,h⟩=>⟨by simp only[maxLen]at d;omega,by
  rcases h with h| ⟨j,r,l,_,_,_,b⟩
  . intro x a;rw[h]at a;cases a
  intro x a;obtain⟨i,c,f⟩:=g0t a;exact C6.wf (t:=t) (G5.get (R:=C6 t _ _) (s:=t.size) (λ_ _ h=>C6.length h) b (i:=i) (by rw[qN c,f]))⟩
 | .ptr t,_,_,_,_,⟨b,o,c,e,d,f,a⟩=>C6.wf (t:=t) a
 | .mp o r v y,_,_,_,u,h=>by
  rcases h with⟨_,e⟩ | ⟨f,j,g,e,k,l,n,d⟩
  . intro x a;rw[e]at a;cases a
  intro x a;obtain⟨m,_,b,c⟩:=d.mem a;exact⟨U7.wf' (λ_ _=>C6.wf) b,U7.wf' (λ_ _=>C6.wf) c⟩
def C6.oneCell:∀ {t:Ty} {w:World} {Z:Nat->Prop} {cs:List Value} {x:t.den},C6 t w Z cs x->∀u∈cs,u.oneCell'=true
 | .int _,_,_,_,_,h=>by rw[h.1];exact Lu rfl Ko
 | .bool,_,_,_,_,h=>by rw[show _= _ from h];exact Lu rfl Ko
 | .str,_,_,_,_,h=>by rw[show _= _ from h];exact Lu rfl Ko
 | .unit,_,_,_,_,h=>by rw[show _= _ from h];exact Ko
 | .pair a d,_,_,_,_,⟨c1,f,e,b,c⟩=>by
  rw[e];intro u a;rcases qS.1 a with a|a
  . exact C6.oneCell b u a
  exact C6.oneCell c u a
 | .sl _,_,_,_,_,⟨_,_,e,_⟩=>by rw[e];exact Lu rfl Ko
 | .ptr _,_,_,_,_,⟨_,_,_,e,_⟩=>by rw[e];exact Lu rfl Ko
 | .mp _ _ _ _,_,_,_,_,h=>by
  rcases h with⟨e,_⟩ | ⟨_,_,_,e,_⟩<;>rw[e]<;>exact Lu rfl Ko
def G5.oneCell {t:Ty} {w:World} {Z:Nat->Prop} :∀ {l:List t.den} {cs:List Value},G5 (C6 t w Z) cs l->∀u∈cs,u.oneCell'=true
 | [],_,h=>by rw[show _= _ from h];exact Ko
 | _:: _,_,⟨c1,a,e,b,c⟩=>by
  rw[e];intro u a;rcases qS.1 a with a|a
  . exact C6.oneCell b u a
  exact G5.oneCell c u a
def L6 {w:World} {b o:Nat} {c:List Value} (h:I0 w ⟨b,o,none⟩ c) (i n:Nat):I0 w ⟨b,o+i,none⟩ ((c.drop i).take n):=λj v a=>by
 rw[J9];rw[wA]at a;split at a
 . rw[xF]at a;have:=h (i+j) v a;rw[J9]at this;rw[uQ];exact this
 cases a
@[reducible] def Y4:List (Bool×Ty)->Type
 | []=>Unit
 | (_,t)::r=>t.den×Y4 r
inductive C where
 |val (t:Ty) (x:t.den)
 |row (k:Nat)
 |box (k off:Nat)
 |elp (k sz i off:Nat)
 |win (k sz:Nat) (lo hi:Int)
 |pf (t:Ty) (x:t.den) (off:Nat)
 |mp (k:Nat)
 |fn (f:FuncId) (caps:List Nat)
 |fv (P:Program) (as:List (Bool×Ty)) (ra:Bool) (r:Ty) (ok:Y4 as->Prop) (φ:Y4 as->r.den)
 |raw (v:Value)
 |dead
structure SV where
 agg:Bool
 cs:List C
inductive DV where
 |one (v:SV)
 |tup (vs:List SV)
 |cnd (t:Tmp) (b:Bool) (v:SV)
 |dead
inductive LC where
 |none
 |box (ty:TypeId) (cs:List C)
 |row (t:Ty) (e:TypeId) (l:List t.den)
 |map (ka:Bool) (kt:Ty) (va:Bool) (vt:Ty) (es:List (kt.den×vt.den))
 |rows (t:Ty) (e e':TypeId) (ls:List (List t.den)) (al:List (Nat×Nat)) (ho:Option Nat)
 |al (k:Nat)
 |sbox (q:Nat) (t:Ty) (x:t.den)
 |mapE (ka:Bool) (kt:Ty) (va:Bool) (vt:Ty) (es:List (kt.den×vt.den)) (j q:Nat)
 |iter (ka:Bool) (kt:Ty) (va:Bool) (vt:Ty) (left:List (kt.den×vt.den)) (cur:Option (kt.den×vt.den))
 |nest (t:Ty) (e e':TypeId) (ls:List t.den) (bo:List (Nat×Nat)) (dd:List Nat)
 |itM (ka:Bool) (kt:Ty) (va:Bool) (vt:Ty) (es left:List (kt.den×vt.den)) (cur:Option (kt.den×vt.den)) (q:Nat)
structure St where
 sl:List (Nat×Nat×DV)
 lc:List (Nat×Nat×LC)
 nx:Nat
 ct:Nat
 nm:Nat:=0
 fr:List (List (Nat×Nat×DV)):= []
def EQ:Option Prop->Prop
 |none=>True
 |some a=>a
def aR (φ:Option Prop) (p:Prop):Prop:=match φ with
 |none=>p
 |some φ=>φ/\p
def E6 {φ:Option Prop} {p:Prop} :aR φ p↔EQ φ/\p:=by cases φ<;>simp[aR,EQ]
def B5r (c:Prop) (φ:Option Prop):Option Prop:=match φ with
 |none=>none
 |some φ=>some (c->φ)
def mM {c:Prop} {φ:Option Prop} :EQ (B5r c φ)↔(c->EQ φ):=by cases φ<;>simp[B5r,EQ]
def M0 {α:Type} (e:Bool) (x y:α):α:=bif e then x else y
def find {α:Type} (d:α) (s:Nat):List (Nat×α)->α
 | []=>d
 | (t,x)::l=>bif Nat.beq t s then x else find d s l
def St.eS (a:St) (s:Nat):Nat×DV:=find (0, .dead) s a.sl
def St.eL (a:St) (k:Nat):Nat×LC:=find (0, .none) k a.lc
def St.S (a:St) (s:Nat):DV:=(a.eS s).2
def St.L (a:St) (k:Nat):LC:=(a.eL k).2
def put {α:Type} (s:Nat) (x:α):List (Nat×α)->List (Nat×α)
 | []=> [(s,x)]
 | (t,y)::l=>bif Nat.beq t s then(t,x)::l else(t,y)::put s x l
def Yt {α:Type} (d:α) (s:Nat) (x:α) (q:Nat):∀l:List (Nat×α),find d q (put s x l)=if q=s then x else find d q l
 | []=>by
  simp only[put,find];by_cases h:q=s
  . simp[h]
  simp[h,E5 (Ne.symm h)]
 | (t,y)::l=>by
  have f:=Yt d s x q l;simp only[put];cases a:Nat.beq t s with
  |true=>
   have b:=qD a;subst b;simp only[qR,find];by_cases h:q=t
   . simp[h]
   simp[h,E5 (Ne.symm h)]
  |false=>
   have g:t≠s:=uI a;simp only[rG,find,f];cases c:Nat.beq t q with
   |true=>
    have b:=qD c;subst b;simp[g]
   |false=>simp
def FU (t:Nat):DV->Bool
 | .cnd a _ _=>Nat.beq a t
 | _=>false
def unc (t g:Nat):Nat×DV->Nat×DV
 | (n, .cnd a b v)=>bif Nat.beq a t then(g, .dead)else(n, .cnd a b v)
 | (n, .one v)=>(n, .one v)
 | (n, .tup v)=>(n, .tup v)
 | (n, .dead)=>(n, .dead)
def C2c (t g:Nat) (d:Nat×DV):unc t g d=bif FU t d.2 then(g, .dead)else d:=by
 obtain⟨n,d⟩:=d;cases d<;>rfl
def oU (t g:Nat):List (Nat×Nat×DV)->List (Nat×Nat×DV)
 | []=> []
 | (s,d)::l=>(s,unc t g d)::oU t g l
def VX (t g q:Nat):∀l:List (Nat×Nat×DV),find (0, .dead) q (oU t g l)=bif FU t (find (0, .dead) q l).2 then(g, .dead)else find (0, .dead) q l
 | []=>by simp[oU,find,FU]
 | (s,d)::l=>by
  have a:=VX t g q l;simp only[oU,find,C2c];cases Nat.beq s q<;>simp[a]
def St.setS (a:St) (d:Nat) (x:DV):St:=⟨put d (a.ct+1,x) (oU d (a.ct+1) a.sl),a.lc,a.nx,a.ct+1,a.nm,a.fr⟩
def St.setL (a:St) (k:Nat) (x:LC):St:=⟨a.sl,put k (a.ct+1,x) a.lc,a.nx,a.ct+1,a.nm,a.fr⟩
def St.newL (a:St) (x:LC):St:=⟨a.sl,put a.nx (a.ct+1,x) a.lc,a.nx+1,a.ct+1,a.nm,a.fr⟩
def St.eS_setS (a:St) (d s:Nat) (x:DV):(a.setS d x).eS s=if s=d then(a.ct+1,x)else bif FU d (a.S s)then(a.ct+1, .dead)else a.eS s:=by
 unfold St.eS St.setS;simp only;rw[Yt,VX];rfl
def St.S_setS (a:St) (d s:Nat) (x:DV):(a.setS d x).S s=if s=d then x else bif FU d (a.S s)then .dead else a.S s:=by
 show((a.setS d x).eS s).2= _;rw[St.eS_setS];split
 . rfl
 cases FU d (a.S s)<;>rfl
def St.eL_setL (a:St) (k q:Nat) (x:LC):(a.setL k x).eL q=if q=k then(a.ct+1,x)else a.eL q:=Yt ..
def St.L_setL (a:St) (k q:Nat) (x:LC):(a.setL k x).L q=if q=k then x else a.L q:=by
 show((a.setL k x).eL q).2= _;rw[St.eL_setL];split<;>rfl
def St.eL_newL (a:St) (q:Nat) (x:LC):(a.newL x).eL q=if q=a.nx then(a.ct+1,x)else a.eL q:=Yt ..
def St.L_newL (a:St) (q:Nat) (x:LC):(a.newL x).L q=if q=a.nx then x else a.L q:=by
 show((a.newL x).eL q).2= _;rw[St.eL_newL];split<;>rfl
def Q3 (n:Nat):List (Nat×Nat×DV)->List (Nat×Nat×DV)->Prop
 | [],[]=>True
 | (s,e)::l,(c,a)::b=>c=s/\(a.1<=n->a=e)/\Q3 n l b
 | _,_=>False
def Ay (n:Nat):List (List (Nat×Nat×DV))->List (List (Nat×Nat×DV))->Prop
 | [],[]=>True
 |f::l,a::b=>Q3 n f a/\Ay n l b
 | _,_=>False
def Q3.refl (n:Nat):∀l,Q3 n l l
 | []=>trivial
 | (_,_)::l=>⟨rfl,λ_=>rfl,Q3.refl n l⟩
def Ay.refl (n:Nat):∀l,Ay n l l
 | []=>trivial
 |f::l=>⟨Q3.refl n f,Ay.refl n l⟩
def Q3.trans {n m:Nat} (f:n<=m):∀ {a b c},Q3 n a b->Q3 m b c->Q3 n a c
 | [],[],[],_,_=>trivial
 | (_,_):: _,(_,_):: _,(_,_):: _,⟨g,i,k⟩,⟨h,j,l⟩=>⟨h.trans g,λd=>by
  have:=j (qZ d f);rw[this]at d|-;exact i d,Q3.trans f k l⟩
 | [],[],_:: _,_,h=>h.elim
 | [],_:: _,_,h,_=>h.elim
 | _:: _,[],_,h,_=>h.elim
 | (_,_):: _,(_,_):: _,[],_,h=>h.elim
def Ay.trans {n m:Nat} (d:n<=m):∀ {a b c},Ay n a b->Ay m b c->Ay n a c
 | [],[],[],_,_=>trivial
 | _:: _,_:: _,_:: _,h,k=>⟨h.1.trans d k.1,Ay.trans d h.2 k.2⟩
 | [],[],_:: _,_,h=>h.elim
 | [],_:: _,_,h,_=>h.elim
 | _:: _,[],_,h,_=>h.elim
 | _:: _,_:: _,[],_,h=>h.elim
def Q3.le {n m:Nat} (c:n<=m) {a b} (h:Q3 m a b):Q3 n a b:=(Q3.refl n a).trans c h
def Ay.le {n m:Nat} (c:n<=m) {a b} (h:Ay m a b):Ay n a b:=(Ay.refl n a).trans c h
def Q3.find {n:Nat} {d:Nat×DV} (s:Nat):∀ {a b},Q3 n a b->(Vc.find d s b).1<=n->Vc.find d s b=Vc.find d s a
 | [],[],_,_=>rfl
 | (t,e)::a,(j,k)::b,⟨f,g,i⟩,h=>by
  subst f;simp only[Vc.find]at h|-;cases c:Nat.beq j s with
  |true=>rw[c]at h;exact g h
  |false=>rw[c]at h;exact Q3.find s i h
 | [],_:: _,h,_=>h.elim
 | _:: _,[],h,_=>h.elim
def C0y (n:Nat) (a:List (List (Nat×Nat×DV))):Bool:=a.all λf=>f.all λe=>Nat.ble e.2.1 n
def Q3.old {n:Nat} :∀ {a b},Q3 n a b->(b.all λe=>Nat.ble e.2.1 n)=true->b=a
 | [],[],_,_=>rfl
 | (t,e)::a,(i,g)::b,⟨c,d,f⟩,h=>by
  simp only[tN,qC]at h;rw[c,d (qP h.1),Q3.old f h.2]
 | [],_:: _,h,_=>h.elim
 | _:: _,[],h,_=>h.elim
def Ay.old {n:Nat} :∀ {a b},Ay n a b->C0y n b=true->b=a
 | [],[],_,_=>rfl
 |f::a,g::b,⟨c,d⟩,h=>by
  simp only[C0y,tN,qC]at h;rw[c.old h.1,Ay.old d h.2]
 | [],_:: _,h,_=>h.elim
 | _:: _,[],h,_=>h.elim
structure C3 (st st':St):Prop where
 ct:st.ct<=st'.ct
 s:∀s,(st'.eS s).1≠0->(st'.eS s).1<=st.ct->st'.eS s=st.eS s
 l:∀k,(st'.eL k).1≠0->(st'.eL k).1<=st.ct->st'.eL k=st.eL k
 f:Ay st.ct st.fr st'.fr
def C3.refl (a:St):C3 a a:=⟨qU _,λ_ _ _=>rfl,λ_ _ _=>rfl,Ay.refl _ _⟩
def Bf (a:Bool) (t:Ty) (w:World) (Z:Nat->Prop) (v:Value) (x:t.den):Prop:=U7 (C6 t w Z) a v x
def UC (w:World) (Z:Nat->Prop):(as:List (Bool×Ty))->List Value->Y4 as->Prop
 | [],a,_=>a= []
 | (b,t)::r,c,x=>∃v a,c=v::a/\Bf b t w Z v x.1/\UC w Z r a x.2
def pG (P:Program) (w:World) (Z:Nat->Prop) (v:Value) (as:List (Bool×Ty)) (h:Bool) (r:Ty) (c:Y4 as->Prop) (φ:Y4 as->r.den):Prop:=
 ∃g,∃d:List Value,v= .func (.func g) #[] d.toArray/\Gc P g=true/\∀(a:World) (Z':Nat->Prop) (f:List Value) (x:Y4 as),O1 Z w a->(∀b,Z b->b<a.heap.size)->(∀b,Z' b->b<a.heap.size)->UC a Z' as f x->c x->
  Gw.aI P g (f++d) a λu c=>R1 a c/\∃Zn:Nat->Prop,(∀b,Zn b->(a.heap.size<=b/\b<c.heap.size)\/Z b\/Z' b)/\Bf h r c Zn u (φ x)
def RC (w:World) (Z:Nat->Prop) (B:Nat->Value):C->Value->Prop
 | .val t x,v=>C6 t w Z [v] x
 | .row k,v=>v=B k
 | .box k a,v=>∃b,B k= .pointer (some ⟨b,0,none⟩)/\v= .pointer (some ⟨b,a,none⟩)
 | .elp k sz i c,v=>∃b n a,B k= .slice (some ⟨b,0,none⟩) n a/\i<n/\v= .pointer (some ⟨b,i*sz+c,none⟩)
 | .win k sz b d,v=>∃c n a,B k= .slice c n a/\(∀x,c=some x->∃g,x=⟨g,0,none⟩)/\(c=none->a=0)/\0<=b/\b<=d/\d<=(n:Int)/\n<=a/\a<=maxLen/\v= .slice (if a=b.toNat then c else c.map (·.add (b.toNat*sz))) (d.toNat-b.toNat) (a-b.toNat)
 | .pf t x c,v=>∃b o a,v= .pointer (some ⟨b,o+c,none⟩)/\Z b/\I0 w ⟨b,o,none⟩ a/\C6 t w Z a x
 | .mp k,v=>v=B k
 | .fn f a,v=>v= .func (.func f) #[] (a.map B).toArray
 | .fv P as b r a c,v=>pG P w Z v as b r a c
 | .raw a,v=>v=a/\a.oneCell'=true
 | .dead,_=>True
def Ct (w:World) (Z:Nat->Prop) (B:Nat->Value):List C->List Value->Prop
 | [],a=>a= []
 |c::b,d=>∃v a,d=v::a/\RC w Z B c v/\Ct w Z B b a
def RS (w:World) (Z:Nat->Prop) (B:Nat->Value):SV->Value->Prop
 | ⟨true,b⟩,v=>∃a:List Value,v= .agg a.toArray/\Ct w Z B b a
 | ⟨false,a⟩,v=>Ct w Z B a [v]
def Nh (w:World) (Z:Nat->Prop) (B:Nat->Value):List SV->List Value->Prop
 | [],a=>a= []
 |c::b,d=>∃v a,d=v::a/\RS w Z B c v/\Nh w Z B b a
def RD (w:World) (Z:Nat->Prop) (B:Nat->Value) (E:G9):DV->Value->Prop
 | .one s,v=>RS w Z B s v
 | .tup b,v=>∃a:List Value,v= .tuple a.toArray/\Nh w Z B b a
 | .cnd t b s,v=>(E t= .bool b/\RS w Z B s v)\/(E t≠ .bool b/\v=undef)
 | .dead,_=>True
def Kh (w:World) (Z:Nat->Prop) (c:Bool) (a:Ty) (d:Bool) (b:Ty) (es:List MapEntry) (l:List (a.den×b.den)):Prop:=S8 (U7 (C6 a w Z) c) (U7 (C6 b w Z) d) es l
def root:Value->Option Nat
 | .pointer (some a)=>some a.block
 | .slice (some a) _ _=>some a.block
 | .map r=>r
 | _=>none
def Eb:Option Nat->Nat->Bool
 |none,_=>false
 |some j,i=>Nat.beq j i
def F6 (a:List (Nat×Nat)) (dd:List Nat) (i:Nat):Bool:=(a.any λp=>Nat.beq p.1 i) ||dd.any λj=>Nat.beq j i
def T1 (w:World) (v:Value) (H:Nat->Bool) (b:Nat):Prop:=root v=some b\/∃g n c a e i x,v= .slice (some ⟨g,0,none⟩) n c/\w.heap[g]? =some (.cells a e (0,0))/\i<n/\H i=false/\a[i]? =some x/\root x=some b
def B6 (w:World) (v:Value):LC->Nat->Prop
 | .none,_=>False
 | .box _ _,b=>root v=some b
 | .row _ _ _,b=>root v=some b
 | .map _ _ _ _ _,b=>root v=some b
 | .iter _ _ _ _ _ _,b=>root v=some b
 | .mapE _ _ _ _ _ _ _,b=>root v=some b
 | .al _,_=>False
 | .sbox _ _ _,_=>False
 | .nest _ _ _ _ a c,b=>T1 w v (F6 a c) b
 | .itM _ _ _ _ _ _ _ _,b=>root v=some b\/∃r c s a,v= .pointer (some ⟨r,0,none⟩)/\w.heap[r]? =some (.mapIter (some b) c s a)
 | .rows _ _ _ _ _ d,b=>root v=some b\/∃g n c a e i x,v= .slice (some ⟨g,0,none⟩) n c/\w.heap[g]? =some (.cells a e (0,0))/\i<n/\Eb d i=false/\a[i]? =some x/\root x=some b
def AtV (xs:List Value) (i:Nat) (v:Value):Prop:=xs[i]? =some v\/(xs.length<=i/\v= .slice none 0 0)
def Inn (w:World) (Z:Nat->Prop) (B:Nat->Value) (t:Ty) (e':TypeId) (ls:List (List t.den)) (al:List (Nat×Nat)) (a:Option Nat) (xs:List Value):Prop:=
 (∀p∈al,AtV xs p.1 (B p.2))/\(∀i l x,Eb a i=false->ls[i]? =some l->xs[i]? =some x->∃b,w.ownsRow 0 e' t.size x l.length b/\G5 (C6 t w Z) b l)/\
  ∀i j x y b,i≠j->Eb a i=false->Eb a j=false->xs[i]? =some x->xs[j]? =some y->root x=some b->root y≠some b
def ItR (w:World) (Z:Nat->Prop) (f:Bool) (c:Ty) (g:Bool) (d:Ty) (r:Nat) (left:List (c.den×d.den)) (cur:Option (c.den×d.den)):Prop:=
 (w.heap[r]? =some (.mapIter none 0 #[] 0)/\left= []/\cur=none)\/
 ∃(m:Nat) (seen:Array Nat) (b:Array MapEntry) (a:Nat),w.heap[r]? =some (.mapIter (some m) a seen a)/\Z m/\w.heap[m]? =some (.map b a)/\MOk b a/\Kh w Z f c g d (leftOf b seen).toList left/\
  ∀x,cur=some x->∃e∈b.toList,(∃a:Array Nat,seen=a.push e.born)/\U7 (C6 c w Z) f e.key x.1/\U7 (C6 d w Z) g e.val x.2
def RH:(t:Ty)->TypeId->World->(Nat->Prop)->Value->t.den->Prop
 | .sl t,b,w,Z,v,l=>∃a:List Value,w.ownsRow 0 b t.size v (List.length l) a/\G5 (C6 t w Z) a l
 | .mp f g h i,_,w,Z,v,d=>∃b a c,v= .map (some b)/\w.heap[b]? =some (.map a c)/\MOk a c/\Kh w Z f g h i a.toList d
 | _,_,_,_,_,_=>False
structure jX (w:World) (Z:Nat->Prop) (B:Nat->Value) (t:Ty) (e e':TypeId) (ls:List t.den) (bo:List (Nat×Nat)) (dd:List Nat) (v:Value) (xs:List Value):Prop where
 own:w.ownsRow 0 e 1 v ls.length xs
 out:∀p∈bo,xs[p.1]? =some (B p.2)
 elt:∀i l x,F6 bo dd i=false->ls[i]? =some l->xs[i]? =some x->RH t e' w Z x l
 dis:∀i j x y b,i≠j->F6 bo dd i=false->F6 bo dd j=false->xs[i]? =some x->xs[j]? =some y->root x=some b->root y≠some b
 top:∀i x b,F6 bo dd i=false->xs[i]? =some x->root x=some b->root v≠some b
structure C2m (w:World) (Z:Nat->Prop) (ka:Bool) (kt:Ty) (va:Bool) (vt:Ty) (es left:List (kt.den×vt.den)) (cur:Option (kt.den×vt.den)) (r m:Nat) (seen:Array Nat) (ents:Array MapEntry) (clock:Nat):Prop where
 it:w.heap[r]? =some (.mapIter (some m) clock seen clock)
 mp:w.heap[m]? =some (.map ents clock)
 ok:MOk ents clock
 all:Kh w Z ka kt va vt ents.toList es
 rest:Kh w Z ka kt va vt (leftOf ents seen).toList left
 cur:∀x,cur=some x->∃e∈ents.toList,(∃seen':Array Nat,seen=seen'.push e.born)/\U7 (C6 kt w Z) ka e.key x.1/\U7 (C6 vt w Z) va e.val x.2
def RL (U:Nat->Prop) (w:World) (Z:Nat->Prop) (B:Nat->Value) (k:Nat):LC->Prop
 | .none=>True
 | .box d c=>∃b a,B k= .pointer (some ⟨b,0,none⟩)/\U b/\¬Z b/\IV w b a d/\Ct w Z B c a.toList
 | .row t e l=>∃a,w.ownsRow 0 e t.size (B k) l.length a/\G5 (C6 t w Z) a l/\∀b,(B k).ownBlock=some b->U b/\¬Z b
 | .map f g h i d=>∃b a c,B k= .map (some b)/\U b/\¬Z b/\w.heap[b]? =some (.map a c)/\MOk a c/\Kh w Z f g h i a.toList d
 | .al _=>True
 | .sbox q t x=>q=k/\C6 (.ptr t) w Z [B q] x/\∃b,B q= .pointer (some ⟨b,0,none⟩)
 | .mapE f g h i d j q=>∃b a c,B k= .map (some b)/\U b/\¬Z b/\w.heap[b]? =some (.map a c)/\(MOk a c/\Kh w Z f g h i a.toList d)/\∃e:MapEntry,a.toList[j]? =some e/\B q= .int .i64 e.born
 | .iter b c d f left a=>∃r,B k= .pointer (some ⟨r,0,none⟩)/\U r/\¬Z r/\ItR w Z b c d f r left a
 | .nest t e d f a c=>∃g,jX w Z B t e d f a c (B k) g/\∀b,T1 w (B k) (F6 a c) b->U b/\¬Z b/\b<w.heap.size
 | .itM f g h i d left b q=>∃r m seen c a,B k= .pointer (some ⟨r,0,none⟩)/\B q= .map (some m)/\C2m w Z f g h i d left b r m seen c a/\U r/\¬Z r/\U m/\¬Z m
 | .rows t e f c al a=>∃d,w.ownsRow 0 e 1 (B k) c.length d/\Inn w Z B t f c al a d/\(∀i x b,Eb a i=false->d[i]? =some x->root x=some b->root (B k)≠some b)/\∀b,B6 w (B k) (.rows t e f c al a) b->U b/\¬Z b/\b<w.heap.size
def live:LC->Prop
 | .none=>False
 | .al _=>False
 | .sbox _ _ _=>False
 | _=>True
def Cq (n:Nat):C->Prop
 | .row k=>k<n
 | .box k _=>k<n
 | .elp k _ _ _=>k<n
 | .win k _ _ _=>k<n
 | .mp k=>k<n
 | .fn _ a=>∀k∈a,k<n
 | _=>True
def Ma (n:Nat) (s:SV):Prop:=∀c∈s.cs,Cq n c
def KW (n:Nat):DV->Prop
 | .one s=>Ma n s
 | .tup a=>∀s∈a,Ma n s
 | .cnd _ _ s=>Ma n s
 | .dead=>True
def Zz (n:Nat):LC->Prop
 | .box _ a=>∀c∈a,Cq n c
 | .rows _ _ _ _ al _=>∀p∈al,p.2<n
 | .mapE _ _ _ _ _ _ q=>q<n
 | .sbox q _ _=>q<n
 | .nest _ _ _ _ a _=>∀p∈a,p.2<n
 | .itM _ _ _ _ _ _ _ q=>q<n
 | _=>True
structure Zn where
 z:Nat->Prop
 m:Nat->Prop
 n:Nat
 v:Nat->Value
 k0:Nat:=0
 b0:Nat:=0
 f:Nat->Nat->Prop
 fm:∀k b,f k b->m b
 es:List G9:= []
def RF (w:World) (Z:Nat->Prop) (B:Nat->Value):List G9->List (List (Nat×Nat×DV))->Prop
 | [],[]=>True
 |E::a,f::b=>(∀s,RD w Z B E (find (0, .dead) s f).2 (E s))/\RF w Z B a b
 | _,_=>False
def jZ (n:Nat) (a:List (List (Nat×Nat×DV))):Prop:=∀f∈a,∀s,KW n (find (0, .dead) s f).2
structure X8 (m:Nat->Prop) (w w':World):Prop where
 os:w'.os=w.os
 tape:w'.tape=w.tape
 output:w'.output=w.output
 size:w.heap.size<=w'.heap.size
 block:∀k,k<w.heap.size->¬m k->w'.heap[k]? =w.heap[k]?
 drw:True
def X8.of {m:Nat->Prop} {w w':World} (h:R1 w w'):X8 m w w':=⟨h.os,h.tape,h.output,h.size,λk a _=>h.block k a,h.drw⟩
def X8.ext {m:Nat->Prop} {w w':World} (h:X8 m w w') (c:∀b,¬m b):R1 w w':=⟨⟨h.os,h.tape,h.output,h.size,λk a=>h.block k a (c k)⟩,h.drw⟩
def X8.trans {m:Nat->Prop} {a b c:World} (h:X8 m a b) (k:R1 b c):X8 m a c:=⟨k.os.trans h.os,k.tape.trans h.tape,k.output.trans h.output,qZ h.size k.size,λi d f=>(k.block i (rH d h.size)).trans (h.block i d f),trivial⟩
def X8.chg {m:Nat->Prop} {d w w':World} {b:Nat} (h:X8 m d w) (a:UB b w w') (c:d.heap.size<=b\/m b):X8 m d w':=
 ⟨a.1.trans h.os,a.2.1.trans h.tape,a.2.2.1.1.trans h.output,by rw[a.2.2.2.1];exact h.size,λk f g=>(a.2.2.2.2 k (λe=>by subst e;rcases c with c|c;exact absurd f ω;exact g c)).trans (h.block k f g),trivial⟩
def X8.grown {m:Nat->Prop} {d w w':World} {row:Option Nat} (h:X8 m d w) (a:w.grownBy w' row) (f:w.drawn<=w'.drawn) (c:∀b,row=some b->d.heap.size<=b\/m b):X8 m d w':=
 ⟨a.os.trans h.os,a.tape.trans h.tape,a.output.trans h.output,qZ h.size a.size,λk d f=>(a.block k (rH d h.size) (λe=>by rcases c k e.symm with c|c;exact absurd d ω;exact f c)).trans (h.block k d f),trivial⟩
def up (a:Zn) (c:World) (k:Nat):Nat->Prop:=λb=>(a.n<=k/\c.heap.size<=b)\/(k<a.n/\a.f k b)
def up.m {a:Zn} {c:World} {k b:Nat} (h:up a c k b):c.heap.size<=b\/a.m b:=h.imp And.right λh=>a.fm k b h.2
structure C2 (za:Zn) (w0:World) (st:St) (E:G9) (w:World) (Z:Nat->Prop) (B:Nat->Value):Prop where
 ext:X8 za.m w0 w
 zlt:∀b,Z b->b<w.heap.size
 slots:∀s,RD w Z B E (st.S s) (E s)
 locs:∀k,RL (up za w0 k) w Z B k (st.L k)
 disj:∀k k' b,k≠k'->B6 w (B k) (st.L k) b->¬B6 w (B k') (st.L k') b
 refs:∀s,KW st.nx (st.S s)
 refl:∀k,Zz st.nx (st.L k)
 fresh:∀k,st.nx<=k->st.L k= .none
 bone:∀k,(B k).oneCell'=true
 zin:∀b,Z b->za.z b\/w0.heap.size<=b
 nms:st.nm=za.n/\za.n<=st.nx
 bfix:∀k,k<za.n->B k=za.v k
 mrk:za.b0<=w.heap.size/\∀k b,za.k0<=k->B6 w (B k) (st.L k) b->za.b0<=b
 frs:RF w Z B za.es st.fr
 frf:jZ st.nx st.fr
section mono
variable {w w':World} {Z Z':Nat->Prop} {B B':Nat->Value} {n:Nat}
def RC.mono (d:∀b,Z b->Z' b) (f:O1 Z w w') (a:∀k,k<n->B' k=B k):∀ {c:C} {v:Value},Cq n c->RC w Z B c v->RC w' Z' B' c v
 | .val _ _,_,_,h=>C6.mono d f h
 | .row k,_,g,h=>h.trans (a k g).symm
 | .box k i,_,g,⟨b,e,h⟩=>⟨b,(a k g).trans e,h⟩
 | .elp k sz j l,_,i,⟨b,m,g,e,h⟩=>⟨b,m,g,(a k i).trans e,h⟩
 | .win k sz o l,_,j,⟨g,m,h,e,i⟩=>⟨g,m,h,(a k j).trans e,i⟩
 | .pf t x l,_,_,⟨b,o,h,e,g,j,i⟩=>⟨b,o,h,e,d b g,Yn j g f,C6.mono d f i⟩
 | .mp k,_,g,h=>h.trans (a k g).symm
 | .fn j g,_,i,h=>by
  show _= _;rw[show _= _ from h];congr 2;exact g0u λk g=>(a k (i k g)).symm
 | .fv P as j r i l,_,_,⟨g,a,e,s,h⟩=>⟨g,a,e,s,λu Z2 t x i j l o r=>(h u Z2 t x (λb a=>(i b (d b a)).trans (f b a)) (λb a=>j b (d b a)) l o r).mono λu g ⟨f,Zn,g2,g3⟩=>⟨f,Zn,λb a=>(g2 b a).imp id (Or.imp (d b) id),g3⟩⟩
 | .raw _,_,_,h=>h
 | .dead,_,_,_=>trivial
def Ct.mono (g:∀b,Z b->Z' b) (f:O1 Z w w') (a:∀k,k<n->B' k=B k):∀ {cs:List C} {vs:List Value},(∀c∈cs,Cq n c)->Ct w Z B cs vs->Ct w' Z' B' cs vs
 | [],_,_,h=>h
 |c::cs,_,d,⟨v,l,e,h,i⟩=>⟨v,l,e,RC.mono g f a (d c (by simp)) h,Ct.mono g f a (λc j=>d c (by simp[j])) i⟩
def RS.mono (d:∀b,Z b->Z' b) (c:O1 Z w w') (a:∀k,k<n->B' k=B k):∀ {s:SV} {v:Value},Ma n s->RS w Z B s v->RS w' Z' B' s v
 | ⟨true,cs⟩,_,f,⟨g,e,h⟩=>⟨g,e,Ct.mono d c a f h⟩
 | ⟨false,cs⟩,_,f,h=>Ct.mono (cs:=cs) d c a f h
def Nh.mono (g:∀b,Z b->Z' b) (f:O1 Z w w') (a:∀k,k<n->B' k=B k):∀ {cs:List SV} {vs:List Value},(∀c∈cs,Ma n c)->Nh w Z B cs vs->Nh w' Z' B' cs vs
 | [],_,_,h=>h
 |c::cs,_,d,⟨v,l,e,h,i⟩=>⟨v,l,e,RS.mono g f a (d c (by simp)) h,Nh.mono g f a (λc j=>d c (by simp[j])) i⟩
def RD.mono {E:G9} (f:∀b,Z b->Z' b) (c:O1 Z w w') (a:∀k,k<n->B' k=B k):∀ {d:DV} {v:Value},KW n d->RD w Z B E d v->RD w' Z' B' E d v
 | .one _,_,g,h=>RS.mono f c a g h
 | .tup _,_,g,⟨i,e,h⟩=>⟨i,e,Nh.mono f c a g h⟩
 | .cnd _ _ _,_,i,h=>h.imp (fun⟨g,b⟩=>⟨g,RS.mono f c a i b⟩) id
 | .dead,_,_,_=>trivial
def RF.mono (f:∀b,Z b->Z' b) (d:O1 Z w w') (c:∀k,k<n->B' k=B k):∀ {es:List G9} {a:List (List (Nat×Nat×DV))},jZ n a->RF w Z B es a->RF w' Z' B' es a
 | [],[],_,_=>trivial
 |E::es,g::h,a,⟨i,j⟩=>⟨λs=>RD.mono f d c (a g (by simp) s) (i s),RF.mono f d c (λh l=>a h (by simp[l])) j⟩
 | [],_:: _,_,h=>h.elim
 | _:: _,[],_,h=>h.elim
def Bf.mono {a:Bool} {t:Ty} {v:Value} {x:t.den} (d:∀b,Z b->Z' b) (c:O1 Z w w') (h:Bf a t w Z v x):Bf a t w' Z' v x:=U7.mono (λ_ _=>C6.mono d c) h
def UC.mono (c:∀b,Z b->Z' b) (a:O1 Z w w'):∀ {as:List (Bool×Ty)} {vs:List Value} {x:Y4 as},UC w Z as vs x->UC w' Z' as vs x
 | [],_,_,h=>h
 | _:: _,_,_,⟨v,g,e,d,f⟩=>⟨v,g,e,d.mono c a,UC.mono c a f⟩
def Kh.mono {g i:Bool} {a c:Ty} (f:∀b,Z b->Z' b) (d:O1 Z w w') {l:List (a.den×c.den)} {es:List MapEntry} (h:Kh w Z g a i c es l):Kh w' Z' g a i c es l:=
 S8.mono (λ_ _ h=>h.mono λ_ _=>C6.mono f d) (λ_ _ h=>h.mono λ_ _=>C6.mono f d) h
def B6.live {v:Value} {l:LC} {b:Nat} (h:B6 w v l b):Vc.live l:=by cases l<;>first|exact h.elim|trivial
def B6.of {v:Value} {l:LC} {b:Nat} (a:Vc.live l) (h:Vc.root v=some b):B6 w v l b:=by
 cases l<;>first|exact a.elim|exact h|exact .inl h
def T1.iff {v:Value} {H:Nat->Bool} {b:Nat} (h:∀b,root v=some b->w'.heap[b]? =w.heap[b]?):T1 w' v H b↔T1 w v H b:=by
 refine g3s xS ⟨fun⟨g,n,cap,cur,e,i,x,hv,hg,r⟩=>⟨g,n,cap,cur,e,i,x,hv,?_,r⟩,fun⟨g,n,cap,cur,e,i,x,hv,hg,r⟩=>⟨g,n,cap,cur,e,i,x,hv,?_,r⟩⟩
 . rw[<-h g (by rw[hv];rfl)];exact hg
 rw[h g (by rw[hv];rfl)];exact hg
def B6.iff {v:Value} {l:LC} {b:Nat} (h:∀b,B6 w v l b->w'.heap[b]? =w.heap[b]?):B6 w' v l b↔B6 w v l b:=by
 cases l with
 |rows t e d j al f=>
  refine g3s xS ⟨fun⟨g,n,cap,a,e,i,x,hv,hg,r⟩=>⟨g,n,cap,a,e,i,x,hv,?_,r⟩,fun⟨g,n,cap,a,e,i,x,hv,hg,r⟩=>⟨g,n,cap,a,e,i,x,hv,?_,r⟩⟩
  . rw[<-h g (.inl (by rw[hv];rfl))];exact hg
  rw[h g (.inl (by rw[hv];rfl))];exact hg
 |nest t e g j d f=>exact T1.iff λb a=>h b (.inl a)
 |itM f g j k d left a q=>
  refine g3s xS ⟨fun⟨r,c,s,c2,hv,hg⟩=>⟨r,c,s,c2,hv,?_⟩,fun⟨r,c,s,c2,hv,hg⟩=>⟨r,c,s,c2,hv,?_⟩⟩
  . rw[<-h r (.inl (by rw[hv];rfl))];exact hg
  rw[h r (.inl (by rw[hv];rfl))];exact hg
 | _=>exact xS
def RL.root {U:Nat->Prop} {k:Nat} {l:LC} (h:RL U w Z B k l) {b:Nat} (a:B6 w (B k) l b):U b/\b<w.heap.size/\¬Z b:=by
 cases l with
 |none=>exact a.elim
 |al _=>exact a.elim
 |sbox _ _ _=>exact a.elim
 |mapE r s t u n o q=>
  obtain⟨g,j,i,e,c,d,f,_⟩:=h;have a:Vc.root (B k)=some b:=a;rw[e]at a;simp[Vc.root]at a;subst a;exact⟨c,(rV.1 f).1,d⟩
 |iter i j n o left g=>
  obtain⟨r,e,d,f,c⟩:=h;have a:Vc.root (B k)=some b:=a;rw[e]at a;simp[Vc.root]at a;subst a;refine⟨d,?_,f⟩;rcases c with⟨c,_⟩ | ⟨_,_,_,_,c,_⟩<;>exact(rV.1 c).1
 |box j i=>
  obtain⟨g,n,e,c,d,f,_⟩:=h;have a:Vc.root (B k)=some b:=a;rw[e]at a;simp[Vc.root]at a;subst a;exact⟨c,f.lt,d⟩
 |row t e l=>
  obtain⟨r,f,o,g⟩:=h;have a:Vc.root (B k)=some b:=a;have c:(B k).ownBlock=some b:=by
   rcases f.2 with⟨d,_⟩ | ⟨n,i,j,d,_⟩
   . rw[d]at a;simp[Vc.root]at a
   rw[d]at a|-;simpa[Vc.root,Value.ownBlock]using a
  have:=World.ownsRow.lt f b c;exact⟨(g b c).1,this.2,(g b c).2⟩
 |map o r s t n=>
  obtain⟨g,j,i,e,c,d,f,_⟩:=h;have a:Vc.root (B k)=some b:=a;rw[e]at a;simp[Vc.root]at a;subst a;exact⟨c,(rV.1 f).1,d⟩
 |rows t e d g al f=>
  obtain⟨i,_,_,_,c⟩:=h;exact⟨(c b a).1,(c b a).2.2,(c b a).2.1⟩
 |nest t e g i d f=>
  obtain⟨j,_,c⟩:=h;exact⟨(c b a).1,(c b a).2.2,(c b a).2.1⟩
 |itM z A G H y left u q=>
  obtain⟨D,m,seen,x,t,d,v,c,i,j,n,o⟩:=h;rcases a with a| ⟨E,r,F,s,g,f⟩
  . rw[d]at a;simp[Vc.root]at a;subst a;exact⟨i,(rV.1 c.it).1,j⟩
  rw[d]at g;cases g;rw[c.it]at f;cases f;exact⟨n,(rV.1 c.mp).1,o⟩
def E4 {a e sz m:Nat} {v:Value} {xs:List Value} (h:w.ownsRow a e sz v m xs):root v=v.ownBlock:=by
 rcases h.2 with⟨a,_⟩ | ⟨g,b,c,a,_⟩<;>rw[a]<;>rfl
def Bm {a e sz m:Nat} {v:Value} {xs:List Value} (h:w.ownsRow a e sz v m xs) (l:∀b,v.ownBlock=some b->w'.heap[b]? =w.heap[b]?):w'.ownsRow a e sz v m xs:=by
 refine⟨h.1,?_⟩;rcases h.2 with h| ⟨g,d,f,c,i,j,k⟩
 . exact .inl h
 exact .inr ⟨g,d,f,c,i,by rw[l g (by rw[c];rfl)];exact j,k⟩
def T1.own {f e n:Nat} {v:Value} {xs:List Value} {H:Nat->Bool} (c:w.ownsRow f e 1 v n xs) {i b:Nat} {x:Value} (o:H i=false) (a:xs[i]? =some x) (k:Vc.root x=some b):T1 w v H b:=by
 refine .inr ?_;rcases c.2 with⟨d,s⟩ | ⟨j,g,h,d,_,l,z,_,A,t⟩
 . have:=c.1;rw[s]at this;have u:xs= []:=qM ω;rw[u]at a;cases a
 have r:i<n:=by have:=(sR.1 a).1;have y:=c.1;omega
 refine⟨j,_,g,h,e,i,x,d,l,r,o,?_,k⟩;rw[<-t,rX ω]at a;simpa using a
def T1.cases {base e n:Nat} {v:Value} {xs:List Value} {H:Nat->Bool} (h1:w.ownsRow base e 1 v n xs) {b:Nat} (hf:T1 w v H b):Vc.root v=some b\/∃(i:Nat) (x:Value),H i=false/\xs[i]? =some x/\Vc.root x=some b:=by
 rcases hf with c| ⟨u,m,l,r,t,i,x,f,h,z,g,k,c⟩
 . exact .inl c
 refine .inr ⟨i,x,g,?_,c⟩;rcases h1.2 with⟨a,_⟩ | ⟨y,o,s,a,_,d,A,_,B,j⟩
 . rw[f]at a;cases a
 rw[f]at a;cases a;rw[h]at d;cases d;rw[<-j,rX ω];simpa using k
def RH.mono (d:∀b,Z b->Z' b) (c:O1 Z w w'):∀ {t:Ty} {e':TypeId} {v:Value} {x:t.den},(∀b,Vc.root v=some b->w'.heap[b]? =w.heap[b]?)->RH t e' w Z v x->RH t e' w' Z' v x
 | .sl t,_,_,_,g,⟨i,a,f⟩=>⟨i,Bm a (λb h=>g b ((E4 a).trans h)),f.mono λ_ _=>C6.mono d c⟩
 | .mp k l n o,_,_,_,j,⟨b,f,a,e,g,h,i⟩=>⟨b,f,a,e,by rw[j b (by rw[e];rfl)];exact g,h,i.mono d c⟩
 | .int _,_,_,_,_,h=>h.elim
 | .bool,_,_,_,_,h=>h.elim
 | .str,_,_,_,_,h=>h.elim
 | .unit,_,_,_,_,h=>h.elim
 | .pair _ _,_,_,_,_,h=>h.elim
 | .ptr _,_,_,_,_,h=>h.elim
def RL.mono {U:Nat->Prop} {k:Nat} {l:LC} (d:∀b,Z b->Z' b) (c:O1 Z w w') (s:∀k,k<n->B' k=B k) (g:live l->B' k=B k) (a:∀b,B6 w (B k) l b->w'.heap[b]? =w.heap[b]?) (i:∀b,B6 w (B k) l b->¬Z' b) (t:Zz n l) (h:RL U w Z B k l):RL U w' Z' B' k l:=by
 cases l with
 |none=>trivial
 |al _=>trivial
 |sbox q u x=>
  obtain⟨j,o,b,r⟩:=h;have f:B' q=B q:=s q t;refine⟨j,?_,b,f.trans r⟩;rw[f];exact C6.mono d c o
 |mapE G H I J D F q=>
  obtain⟨b,r,j,e,u,E,v,⟨A,x⟩,o,y,z⟩:=h;have f:Vc.root (B k)=some b:=by rw[e];rfl
  exact⟨b,r,j,(g trivial).trans e,u,i b f,by rw[a b f];exact v,⟨A,x.mono d c⟩,o,y,(s q t).trans z⟩
 |iter M N O P left I=>
  obtain⟨r,e,z,J,f⟩:=h;have u:Vc.root (B k)=some r:=by rw[e];rfl
  refine⟨r,(g trivial).trans e,z,i r u,?_⟩;have v:=a r u;rcases f with⟨f,j⟩ | ⟨m,seen,y,x,f,j,A,D,E,F⟩
  . exact .inl ⟨v.trans f,j⟩
  exact .inr ⟨m,seen,y,x,v.trans f,d m j,(c m j).trans A,D,E.mono d c,λH G=>(F H G).imp λe o=>⟨o.1,o.2.1,o.2.2.1.mono λ_ _=>C6.mono d c,o.2.2.2.mono λ_ _=>C6.mono d c⟩⟩
 |box y v=>
  obtain⟨b,u,e,j,x,o,r⟩:=h;have f:Vc.root (B k)=some b:=by rw[e];rfl
  refine⟨b,u,(g trivial).trans e,j,i b f,?_,Ct.mono d c s t r⟩;unfold IV;rw[a b f];exact o
 |row x e l=>
  obtain⟨v,j,r,u⟩:=h;have o:=E4 j;refine⟨v,?_,r.mono λ_ _=>C6.mono d c,λb f=>?_⟩
  . rw[g trivial];exact Bm j λb f=>a b (o.trans f)
  rw[g trivial]at f;exact⟨(u b f).1,i b (o.trans f)⟩
 |map A D E F y=>
  obtain⟨b,o,j,e,r,z,u,x,v⟩:=h;have f:Vc.root (B k)=some b:=by rw[e];rfl
  exact⟨b,o,j,(g trivial).trans e,r,i b f,by rw[a b f];exact u,x,v.mono d c⟩
 |rows a3 e I F al A=>
  have T:=λb=>B6.iff (b:=b) a
  obtain⟨y,r,⟨O,P,Q⟩,z,R⟩:=h;have a7:=E4 r;have X:∀o x b,Eb A o=false->y[o]? =some x->Vc.root x=some b->B6 w (B k) (.rows a3 e I F al A) b:=λo x b v j f=>by
   refine .inr ?_;rcases r.2 with⟨E,a0⟩ | ⟨J,G,H,E,_,V,a6,_,a8,a1⟩
   . have:=r.1;rw[a0]at this;have a2:y= []:=qM ω;rw[a2]at j;cases j
   have W:o<F.length:=by have:=(sR.1 j).1;have a5:=r.1;omega
   refine⟨J,_,G,H,e,o,x,E,V,W,v,?_,f⟩;rw[<-a1,rX ω]at j;simpa using j
  rw[<-g trivial]at r z;refine⟨y,Bm r λb f=>a b (.inl (by rw[<-g trivial];exact(E4 r).trans f)),⟨λp D=>by rw[s _ (t p D)];exact O p D,λo l x v Y j=>?_,Q⟩,z,λb f=>?_⟩
  . obtain⟨a4,u,M⟩:=P o l x v Y j;exact⟨a4,Bm u λb f=>a b (X o x b v j ((E4 u).trans f)),M.mono λ_ _=>C6.mono d c⟩
  rw[g trivial]at f;have f:=(T b).1 f;obtain⟨u,_,N⟩:=R b f;refine⟨u,i b f,?_⟩;have:=a b f;rw[uS N]at this;exact(rV.1 this).1
 |nest D e v A o r=>
  obtain⟨u,j,G⟩:=h;have H:=g trivial;have I:∀b,T1 w' (B k) (F6 o r) b↔T1 w (B k) (F6 o r) b:=λb=>T1.iff λb f=>a b (.inl f)
  rw[show RL U w' Z' B' k (.nest D e v A o r)=∃u,jX w' Z' B' D e v A o r (B k) u/\∀b,T1 w' (B k) (F6 o r) b->U b/\¬Z' b/\b<w'.heap.size from by rw[<-H];rfl];refine⟨u,⟨Bm j.own λb f=>a b (.inl ((E4 j.own).trans f)),λp y=>(j.out p y).trans (by rw[s _ (t p y)]),λM l N x J z=>?_,j.dis,j.top⟩,λb f=>?_⟩
  . exact(j.elt M l N x J z).mono d c λb f=>a b (T1.own j.own x z f)
  have f:=(I b).1 f;obtain⟨E,_,F⟩:=G b f;refine⟨E,i b f,?_⟩;have:=a b f;rw[uS F]at this;exact(rV.1 this).1
 |itM z A D E v left u q=>
  obtain⟨r,m,seen,H,F,o,G,f,I,O,J,P⟩:=h;have x:B6 w (B k) (.itM z A D E v left u q) r:= .inl (by rw[o];rfl);have y:B6 w (B k) (.itM z A D E v left u q) m:= .inr ⟨r,_,_,_,o,f.it⟩;exact⟨r,m,seen,H,F,(g trivial).trans o,(s q t).trans G,⟨(a r x).trans f.it,(a m y).trans f.mp,f.ok,f.all.mono d c,f.rest.mono d c,λN M=>(f.cur N M).imp λe j=>⟨j.1,j.2.1,j.2.2.1.mono λ_ _=>C6.mono d c,j.2.2.2.mono λ_ _=>C6.mono d c⟩⟩,I,i r x,J,i m y⟩
def Cq.le {m:Nat} (a:n<=m):∀ {c:C},Cq n c->Cq m c
 | .val _ _,h=>h
 | .row _,h=>rH h a
 | .box _ _,h=>rH h a
 | .elp _ _ _ _,h=>rH h a
 | .win _ _ _ _,h=>rH h a
 | .pf _ _ _,h=>h
 | .mp _,h=>rH h a
 | .fn _ _,h=>λk b=>rH (h k b) a
 | .fv _ _ _ _ _ _,h=>h
 | .raw _,h=>h
 | .dead,h=>h
def KW.le {m:Nat} (a:n<=m):∀ {d:DV},KW n d->KW m d
 | .one _,h=>λc b=>(h c b).le a
 | .tup _,h=>λs f c b=>(h s f c b).le a
 | .cnd _ _ _,h=>λc b=>(h c b).le a
 | .dead,h=>h
def Zz.le {m:Nat} (a:n<=m):∀ {d:LC},Zz n d->Zz m d
 | .none,h=>h
 | .box _ _,h=>λc b=>(h c b).le a
 | .row _ _ _,h=>h
 | .map _ _ _ _ _,h=>h
 | .al _,h=>h
 | .sbox _ _ _,h=>rH h a
 | .iter _ _ _ _ _ _,h=>h
 | .mapE _ _ _ _ _ _ _,h=>rH h a
 | .rows _ _ _ _ _ _,h=>λp b=>rH (h p b) a
 | .nest _ _ _ _ _ _,h=>λp b=>rH (h p b) a
 | .itM _ _ _ _ _ _ _ _,h=>rH h a
def jZ.le {n m:Nat} {a:List (List (Nat×Nat×DV))} (h:jZ n a) (b:n<=m):jZ m a:=λf a s=>(h f a s).le b
def RD.upd {E:G9} {d:Nat} {u:Value} :∀ {x:DV} {v:Value},FU d x=false->RD w Z B E x v->RD w Z B (upd E d u) x v
 | .one _,_,_,h=>h
 | .tup _,_,_,h=>h
 | .cnd t b s,v,a,h=>by
  have b:t≠d:=uI a;show(Gw.upd E d u t= _ /\ _)\/(Gw.upd E d u t≠ _ /\ _);rw[C5 _ _ _ _ b];exact h
 | .dead,_,_,_=>trivial
end mono
section steps
variable {za:Zn} {w0 w w':World} {Z Z':Nat->Prop} {B:Nat->Value} {st:St} {E:G9}
def C2.setS (h:C2 za w0 st E w Z B) (d:Nat) {x:DV} {v:Value} (f:RD w Z B (upd E d v) x v) (c:KW st.nx x):C2 za w0 (st.setS d x) (upd E d v) w Z B:=by
 refine⟨h.ext,h.zlt,λs=>?_,h.locs,h.disj,λs=>?_,h.refl,h.fresh,h.bone,h.zin,h.nms,h.bfix,h.mrk,h.frs,h.frf⟩
 . rw[St.S_setS];by_cases a:s=d
   . subst a;simp only[vW,C1];exact f
   rw[qL a,C5 _ _ _ _ a];cases b:FU d (st.S s)with
   |true=>trivial
   |false=>exact RD.upd b (h.slots s)
 rw[St.S_setS];by_cases a:s=d
 . rw[qT a];exact c
 rw[qL a];cases b:FU d (st.S s)with
 |true=>trivial
 |false=>exact h.refs s
def C2.keep (h:C2 za w0 st E w Z B) (u:X8 za.m w0 w') (o:w.heap.size<=w'.heap.size) (f:∀b,(Z b\/∃k,B6 w (B k) (st.L k) b)->w'.heap[b]? =w.heap[b]?)
 (l:∀b,Z b->Z' b) (n:∀b,Z' b->Z b\/(b<w'.heap.size/\w0.heap.size<=b/\∀k,¬B6 w (B k) (st.L k) b)):C2 za w0 st E w' Z' B:=by
 have j:O1 Z w w':=λb c=>f b (.inl c)
 have i:∀k b,B6 w' (B k) (st.L k) b↔B6 w (B k) (st.L k) b:=λk b=>B6.iff λb g=>f b (.inr ⟨k,g⟩)
 refine⟨u,λb c=>?_,λs=>(h.slots s).mono l j (λ_ _=>rfl) (h.refs s),λk=>?_,λk r b x a t=>h.disj k r b x ((i k b).1 a) ((i r b).1 t),h.refs,h.refl,h.fresh,h.bone,λb c=>?_,h.nms,h.bfix,⟨qZ h.mrk.1 o,λk b v g=>h.mrk.2 k b v ((i k b).1 g)⟩,h.frs.mono l j (λ_ _=>rfl) h.frf,h.frf⟩
 . rcases n b c with a|a
   . exact rH (h.zlt b a) o
   exact a.1
 . refine(h.locs k).mono l j (λ_ _=>rfl) (λ_=>rfl) (λb d=>f b (.inr ⟨k,d⟩)) (λb d c=>?_) (h.refl k);rcases n b c with a|a
   . exact((h.locs k).root d).2.2 a
   exact a.2.2 k d
 rcases n b c with a|a
 . exact h.zin b a
 exact .inr a.2.1
def C2.ft (h:C2 za w0 st E w Z B) (f:R1 w w') {k b:Nat} (d:B6 w' (B k) (st.L k) b):B6 w (B k) (st.L k) b:=(B6.iff λc a=>f.block c ((h.locs k).root a).2.1).1 d
def C2.more (h:C2 za w0 st E w Z B) (c:R1 w w') (d:∀b,Z b->Z' b) (f:∀b,Z' b->Z b\/(w.heap.size<=b/\b<w'.heap.size)):C2 za w0 st E w' Z' B:=by
 refine h.keep (h.ext.trans c) c.size (λb a=>c.block b ?_) d (λb a=>?_)
 . rcases a with a| ⟨k,d⟩
   . exact h.zlt b a
   exact((h.locs k).root d).2.1
 rcases f b a with c|c
 . exact .inl c
 exact .inr ⟨c.2,qZ h.ext.size c.1,λk d=>by have:=((h.locs k).root d).2.1;omega⟩
def C2.new (h:C2 za w0 st E w Z B) {v:Value} {lc:LC} (f:RL (up za w0 st.nx) w Z (upd B st.nx v) st.nx lc) (r:∀k b,B6 w v lc b->¬B6 w (B k) (st.L k) b) (D:Zz (st.nx+1) lc) (F:v.oneCell'=true) (A:∀b,za.k0<=st.nx->B6 w v lc b->za.b0<=b):
 C2 za w0 (st.newL lc) E w Z (upd B st.nx v):=by
 have d:∀k,k<st.nx->(upd B st.nx v) k=B k:=λk a=>C5 _ _ _ _ (tY a)
 have l:(upd B st.nx v) st.nx=v:=C1 _ _ _;have j:∀k,live (st.L k)->k<st.nx:=λk a=>by
  by_cases z:k<st.nx
  . exact z
  rw[h.fresh k ω]at a;exact a.elim
 have o:O1 Z w w:=λ_ _=>rfl
 refine⟨h.ext,h.zlt,λs=>(h.slots s).mono (λ_=>id) o d (h.refs s),λk=>?_,?_,λs=>(h.refs s).le (uG _),λk=>?_,λk a=>?_,λk=>?_,h.zin,⟨h.nms.1,xO h.nms.2⟩,λk a=>(d k (rH a h.nms.2)).trans (h.bfix k a),⟨h.mrk.1,λk b a f=>?_⟩,h.frs.mono (λ_=>id) o d h.frf,h.frf.le (uG _)⟩
 . rw[St.L_newL];by_cases a:k=st.nx
   . subst a;rw[qT rfl];exact f
   rw[qL a];exact(h.locs k).mono (λ_=>id) o d (λy=>d k (j k y)) (λ_ _=>rfl) (λb x G=>((h.locs k).root x).2.2 G) (h.refl k)
 . intro k i b u g c;rw[St.L_newL]at g c;by_cases a:k=st.nx
   . subst a;rw[qL (Ne.symm u)]at c;rw[qT rfl,l]at g;rw[d i (j i c.live)]at c;exact r i b g c
   rw[qL a]at g;rw[d k (j k g.live)]at g;by_cases n:i=st.nx
   . subst n;rw[qT rfl,l]at c;exact r k b c g
   rw[qL n]at c;rw[d i (j i c.live)]at c;exact h.disj k i b u g c
 . rw[St.L_newL];by_cases a:k=st.nx
   . rw[qT a];exact D
   rw[qL a];exact(h.refl k).le (uG _)
 . rw[St.L_newL];have n:st.nx+1<=k:=a;rw[qL ω];exact h.fresh k ω
 . by_cases a:k=st.nx
   . rw[a,l];exact F
   rw[C5 _ _ _ _ a];exact h.bone k
 rw[St.L_newL]at f;by_cases t:k=st.nx
 . subst t;rw[qT rfl,l]at f;exact A b a f
 rw[qL t]at f;rw[d k (j k f.live)]at f;exact h.mrk.2 k b a f
def C2.drop (h:C2 za w0 st E w Z B) (k:Nat):C2 za w0 (st.setL k .none) E w Z B:=by
 refine⟨h.ext,h.zlt,h.slots,λq=>?_,λq j d g a b=>?_,h.refs,λq=>?_,λq i=>?_,h.bone,h.zin,h.nms,h.bfix,⟨h.mrk.1,λq d f c=>(by rw[St.L_setL]at c;split at c;exact c.elim;exact h.mrk.2 q d f c)⟩,h.frs,h.frf⟩
 . rw[St.L_setL];split
   . trivial
   exact h.locs q
 . rw[St.L_setL]at a b;split at a
   . exact a.elim
   split at b
   . exact b.elim
   exact h.disj q j d g a b
 . rw[St.L_setL];split
   . trivial
   exact h.refl q
 rw[St.L_setL];split
 . rfl
 exact h.fresh q i
def C2.chg (h:C2 za w0 st E w Z B) {k b:Nat} {lc:LC} (n:live (st.L k)) (j:B6 w (B k) (st.L k) b) (g:UB b w w') (x:RL (up za w0 k) w' Z B k lc) (z:Zz st.nx lc) (l:∀b,B6 w' (B k) lc b->root (B k)=some b\/B6 w (B k) (st.L k) b):C2 za w0 (st.setL k lc) E w' Z B:=by
 have s:=(h.locs k).root j;have l:∀b,B6 w' (B k) lc b->B6 w (B k) (st.L k) b:=λb hh=>(l b hh).elim (B6.of n) id
 have c:C2 za w0 (st.setL k .none) E w' Z B:=by
  refine(h.drop k).keep (h.ext.chg g s.1.m) (by rw[g.2.2.2.1];exact qU _) (λq a=>g.2.2.2.2 q ?_) (λ_=>id) (λ_=> .inl);rintro rfl;rcases a with a| ⟨t,d⟩
  . exact s.2.2 a
  rw[St.L_setL]at d;by_cases o:t=k
  . rw[qT o]at d;exact d.elim
  rw[qL o]at d;exact h.disj t k q o d j
 have F:k<st.nx:=by
  by_cases o:k<st.nx
  . exact o
  rw[h.fresh k ω]at n;exact n.elim
 have i:∀q,(st.setL k lc).L q=if q=k then lc else(st.setL k .none).L q:=λq=>by
  rw[St.L_setL,St.L_setL];split<;>simp_all
 have r:∀q b,B6 w' (B q) ((st.setL k lc).L q) b->B6 w (B q) (st.L q) b:=λq f a=>by
  rw[St.L_setL]at a;split at a
  . rename_i e;rw[e]at a|-;exact l f a
  refine(B6.iff λo t=>g.2.2.2.2 o ?_).1 a;rintro rfl;rename_i e;exact h.disj q k o e t j
 refine⟨c.ext,c.zlt,c.slots,λq=>?_,λq u f y A D=>?_,c.refs,λq=>?_,λq a=>?_,h.bone,h.zin,h.nms,h.bfix,⟨c.mrk.1,λq b v d=>h.mrk.2 q b v (r q b d)⟩,c.frs,c.frf⟩
 . rw[i];split
   . rename_i a;rw[a];exact x
   exact c.locs q
 . exact h.disj q u f y (r q f A) (r u f D)
 . rw[i];split
   . exact z
   exact c.refl q
 rw[i,qL (by have:st.nx<=q:=a;omega)];exact c.fresh q a
def C2.relc (h:C2 za w0 st E w Z B) {k:Nat} {lc:LC} (d:live (st.L k)) (i:RL (up za w0 k) w Z B k lc) (n:Zz st.nx lc) (g:∀b,B6 w (B k) lc b->root (B k)=some b\/B6 w (B k) (st.L k) b):C2 za w0 (st.setL k lc) E w Z B:=by
 have a:k<st.nx:=by
  by_cases a:k<st.nx
  . exact a
  rw[h.fresh k ω]at d;exact d.elim
 have f:∀q b,B6 w (B q) ((st.setL k lc).L q) b->B6 w (B q) (st.L q) b:=λq c a=>by
  rw[St.L_setL]at a;split at a
  . rename_i e;rw[e]at a|-;exact(g c a).elim (B6.of d) id
  exact a
 refine⟨h.ext,h.zlt,h.slots,λq=>?_,λq d c l o r=>?_,h.refs,λq=>?_,λq a=>?_,h.bone,h.zin,h.nms,h.bfix,⟨h.mrk.1,λq b g j=>h.mrk.2 q b g (f q b j)⟩,h.frs,h.frf⟩
 . rw[St.L_setL];split
   . rename_i a;rw[a];exact i
   exact h.locs q
 . exact h.disj q d c l (f q c o) (f d c r)
 . rw[St.L_setL];split
   . exact n
   exact h.refl q
 rw[St.L_setL,qL (by have:st.nx<=q:=a;omega)];exact h.fresh q a
def C2.addL (h:C2 za w0 st E w Z B) {k:Nat} {lc:LC} (v:k<st.nx) (s:RL (up za w0 k) w Z B k lc) (l:∀j b,j≠k->B6 w (B k) lc b->¬B6 w (B j) (st.L j) b) (u:Zz st.nx lc) (t:∀b,za.k0<=k->B6 w (B k) lc b->za.b0<=b):C2 za w0 (st.setL k lc) E w Z B:=by
 refine⟨h.ext,h.zlt,h.slots,λq=>?_,λq i b g d c=>?_,h.refs,λq=>?_,λq a=>?_,h.bone,h.zin,h.nms,h.bfix,⟨h.mrk.1,λq b n f=>(by
  rw[St.L_setL]at f;by_cases r:q=k
  . subst r;rw[qT rfl]at f;exact t b n f
  rw[qL r]at f;exact h.mrk.2 q b n f)⟩,h.frs,h.frf⟩
 . rw[St.L_setL];split
   . rename_i a;rw[a];exact s
   exact h.locs q
 . rw[St.L_setL]at d c;by_cases a:q=k
   . subst a;rw[qL (Ne.symm g)]at c;rw[qT rfl]at d;exact l i b (Ne.symm g) d c
   rw[qL a]at d;by_cases o:i=k
   . subst o;rw[qT rfl]at c;exact l q b a c d
   rw[qL o]at c;exact h.disj q i b g d c
 . rw[St.L_setL];split
   . exact u
   exact h.refl q
 rw[St.L_setL,qL (by have:st.nx<=q:=a;omega)];exact h.fresh q a
def W0 {v:Value} {t c:Ty} {e e' d j b:Nat} {ls:List (List t.den)} {k:List (List c.den)} {al f:List (Nat×Nat)} {a:Option Nat} (h:∀g,root v=some g->w'.heap[g]? =w.heap[g]?):B6 w' v (.rows c d j k f a) b↔B6 w v (.rows t e e' ls al a) b:=by
 refine g3s xS ⟨fun⟨g,n,cap,cur,e,i,x,hv,hg,r⟩=>⟨g,n,cap,cur,e,i,x,hv,?_,r⟩,fun⟨g,n,cap,cur,e,i,x,hv,hg,r⟩=>⟨g,n,cap,cur,e,i,x,hv,?_,r⟩⟩
 . rw[<-h g (by rw[hv];rfl)];exact hg
 rw[h g (by rw[hv];rfl)];exact hg
def B3e {U:Nat->Prop} {t:Ty} {k e e' i q b:Nat} {ls:List (List t.den)} {al:List (Nat×Nat)} {l:List t.den} {v:List Value} (h:RL U w Z B k (.rows t e e' ls al none)) (X:(i,q)∈al) (d:root (B q)=some b) (j:UB b w w') (a0:¬Z b) (W:w'.ownsRow 0 e' t.size (B q) l.length v) (T:G5 (C6 t w' Z) v l):
 RL U w' Z B k (.rows t e e' (ls.set i l) al none)/\B6 w (B k) (.rows t e e' ls al none) b/\root (B k)≠some b:=by
 obtain⟨a3,f,⟨y,Q,z⟩,A,R⟩:=h;have c:=(y _ X).resolve_right λhh=>by rw[hh.2]at d;simp[Vc.root]at d
 have E:i<ls.length:=by have:=(sR.1 c).1;have a5:=f.1;omega
 have F:root (B k)≠some b:=A i _ b rfl c d;have G:O1 Z w w':=λr hc'=>j.2.2.2.2 r (λe=>a0 (e▸hc'))
 have D:∀g,root (B k)=some g->w'.heap[g]? =w.heap[g]?:=λg a=>j.2.2.2.2 g (λe=>F (e▸a))
 refine⟨⟨a3,by rw[qW];exact Bm f (λg a=>D g ((E4 f).trans a)),⟨y,λu a1 a2 _ n o=>?_,z⟩,A,λr V=>?_⟩,?_,F⟩
 . by_cases s:i=u
   . subst s;rw[sS E]at n;cases n;rw[c]at o;cases o;exact⟨v,W,T⟩
   rw[sY s]at n;obtain⟨a4,x,P⟩:=Q u a1 a2 rfl n o;refine⟨a4,Bm x (λg a=>j.2.2.2.2 g (λe=>?_)),P.mono λ_ _=>C6.mono (λ_=>id) G⟩;subst e;exact z i u _ _ g s rfl rfl c o d ((E4 x).trans a)
 . obtain⟨I,J,M⟩:=R r ((W0 D).1 V);exact⟨I,J,by rw[j.2.2.2.1];exact M⟩
 refine .inr ?_;rcases f.2 with⟨H,a7⟩ | ⟨g,N,O,H,_,a,a6,_,G,Y⟩
 . omega
 refine⟨g,_,N,O,e,i,_,H,a,E,rfl,?_,d⟩;rw[<-Y,rX ω]at c;simpa using c
def Cl (w:World) (Z:Nat->Prop) (t:Ty) (e e':TypeId) (v:Value) (ls:List (List t.den)):Prop:=
 ∃a:List Value,w.ownsRow 0 e 1 v ls.length a/\(∀(i:Nat) (l:List t.den) (x:Value),ls[i]? =some l->a[i]? =some x->∃b,w.ownsRow 0 e' t.size x l.length b/\G5 (C6 t w Z) b l)/\
  (∀(i j:Nat) (x y:Value) (b:Nat),i≠j->a[i]? =some x->a[j]? =some y->root x=some b->root y≠some b)/\∀(i:Nat) (x:Value) (b:Nat),a[i]? =some x->root x=some b->root v≠some b
def RL.rowsR {U:Nat->Prop} {t:Ty} {k e e':Nat} {ls:List (List t.den)} {al:List (Nat×Nat)} (h:RL U w Z B k (.rows t e e' ls al none)):Cl w Z t e e' (B k) ls:=by
 obtain⟨c,b,⟨a,d,f⟩,g,i⟩:=h;exact⟨c,b,λi r x l a=>d i r x rfl l a,λi o x y b j a n c=>f i o x y b j rfl rfl a n c,λi x b a c=>g i x b rfl a c⟩
def Cl.rl {U:Nat->Prop} {t:Ty} {k e e':Nat} {ls:List (List t.den)} (h:Cl w Z t e e' (B k) ls) (g:∀b,B6 w (B k) (.rows t e e' ls [] none) b->U b/\¬Z b/\b<w.heap.size):RL U w Z B k (.rows t e e' ls [] none):=by
 obtain⟨o,a,c,d,f⟩:=h;exact⟨o,a,⟨λp n=>(by cases n),λi l x _ hl hx=>c i l x hl hx,λi j x y b hij _ _ hx hy hb=>d i j x y b hij hx hy hb⟩,λi x b _ hx hb=>f i x b hx hb,g⟩
def Cl.mono {t:Ty} {e e':Nat} {v:Value} {ls:List (List t.den)} (k:∀b,Z b->Z' b) (h:Cl w Z t e e' v ls):Cl w Z' t e e' v ls:=by
 obtain⟨o,c,d,f,g⟩:=h;exact⟨o,c,λl n x i j=>(d l n x i j).imp λr a=>⟨a.1,a.2.mono λ_ _=>C6.mono k (λ_ _=>rfl)⟩,f,g⟩
end steps
def gM (P:Program) (r:TypeId->Ty->Bool):List Field->Nat->Ty->Bool
 | [],_, .unit=>true
 | [f],b,a=>Nat.beq f.offset b&&r f.type a&&Nat.beq (P.cellsOf f.type) a.size
 |f::g::d,b, .pair a c=>Nat.beq f.offset b&&r f.type a&&Nat.beq (P.cellsOf f.type) a.size&&gM P r (g::d) (b+a.size) c
 | _,_,_=>false
def gK (r:Ty->Bool) (sz:Nat):Nat->Ty->Bool
 |0, .unit=>true
 |1,a=>r a&&Nat.beq a.size sz
 |n+2, .pair a b=>r a&&Nat.beq a.size sz&&gK r sz (n+1) b
 | _,_=>false
def lV (P:Program):Nat->TypeId->Ty->Bool
 |0,_,_=>false
 |n+1,T,a=>match P.underlying T with
  |some (.int k)=>(match a with| .int k'=>decide (k=k') | _=>false)
  |some .bool=>(match a with| .bool=>true| _=>false)
  |some (.struct b)=>gM P (lV P n) b.toList 0 a&&Nat.beq (P.cellsOf T) a.size&&b.all (·.name != "_")
  |some (.array m e)=>gK (lV P n e) (P.cellsOf e) m a&&Nat.beq (P.cellsOf T) a.size
  | _=>false
def Lj:(t:Ty)->t.den->List Lit
 | .int k,n=> [.int k n]
 | .bool,b=> [.bool b]
 | .pair a b,x=>Lj a x.1++Lj b x.2
 | _,_=> []
def Gr:Ty->Bool
 | .int _=>true
 | .bool=>true
 | .unit=>true
 | .pair a b=>Gr a&&Gr b
 | _=>false
def FQ:(t:Ty)->t.den->t.den->Bool
 | .int _,a,b=>decide ((show Int from a)=b)
 | .bool,a,b=>(show Bool from a)==b
 | .pair a b,x,y=>FQ a x.1 y.1&&FQ b x.2 y.2
 | _,_,_=>true
def WK:∀ {t:Ty} {x y:t.den},(Lj t x).length=(Lj t y).length
 | .int _,_,_=>rfl
 | .bool,_,_=>rfl
 | .pair a b,x,y=>by simp only[Lj,rN];rw[WK (t:=a) (x:=x.1) (y:=y.1),WK (t:=b) (x:=x.2) (y:=y.2)]
 | .str,_,_=>rfl
 | .unit,_,_=>rfl
 | .sl _,_,_=>rfl
 | .ptr _,_,_=>rfl
 | .mp _ _ _ _,_,_=>rfl
def WJ:∀ {t:Ty} {x y:t.den},Gr t=true->(Lj t x=Lj t y↔x=y)
 | .int _,x,y,_=>by simp[Lj]
 | .bool,x,y,_=>by simp[Lj]
 | .unit,x,y,_=>by simp[Lj]
 | .pair a b,x,y,h=>by
  simp only[Gr,qC]at h;simp only[Lj];constructor
  . intro e;have:=List.append_inj e WK;exact Prod.ext ((WJ h.1).1 this.1) ((WJ h.2).1 this.2)
  rintro rfl;rfl
 | .str,_,_,h=>by cases h
 | .sl _,_,_,h=>by cases h
 | .ptr _,_,_,h=>by cases h
 | .mp _ _ _ _,_,_,h=>by cases h
def TE:∀ {t:Ty} {x y:t.den},Gr t=true->(FQ t x y=true↔x=y)
 | .int _,x,y,_=>by simp[FQ]
 | .bool,x,y,_=>by simp[FQ]
 | .unit,x,y,_=>by simp[FQ]
 | .pair a b,x,y,h=>by
  simp only[Gr,qC]at h;simp only[FQ,qC,TE h.1,TE h.2];exact⟨fun⟨a,b⟩=>Prod.ext a b,λe=>by rw[e];exact⟨rfl,rfl⟩⟩
 | .str,_,_,h=>by cases h
 | .sl _,_,_,h=>by cases h
 | .ptr _,_,_,h=>by cases h
 | .mp _ _ _ _,_,_,h=>by cases h
def Oc:∀ {t:Ty} {w w':World} {Z Z':Nat->Prop} {cs cs':List Value} {x:t.den},Gr t=true->C6 t w Z cs x->C6 t w' Z' cs' x->cs=cs'
 | .int _,_,_,_,_,_,_,_,_,h,a=>h.1.trans a.1.symm
 | .bool,_,_,_,_,_,_,_,_,h,a=>(show _= _ from h).trans (show _= _ from a).symm
 | .unit,_,_,_,_,_,_,_,_,h,a=>(show _= _ from h).trans (show _= _ from a).symm
 | .pair h i,_,_,_,_,_,_,_,a,⟨c1,k,e,c,f⟩,⟨j,l,b,d,g⟩=>by
  simp only[Gr,qC]at a;rw[e,b,Oc a.1 c d,Oc a.2 f g]
 | .str,_,_,_,_,_,_,_,h,_,_=>by cases h
 | .sl _,_,_,_,_,_,_,_,h,_,_=>by cases h
 | .ptr _,_,_,_,_,_,_,_,h,_,_=>by cases h
 | .mp _ _ _ _,_,_,_,_,_,_,_,h,_,_=>by cases h
section
variable {P:Program} {w:World} {Z:Nat->Prop}
def cO {n:Nat} {r:TypeId->Ty->Bool} {cs:List Value} (c:∀ {T:TypeId} {ty:Ty} {cs:List Value} {x:ty.den},r T ty=true->C6 ty w Z cs x->P.keyLits n T cs=some (Lj ty x)):
 ∀ {b:List Field} {off:Nat} {ty:Ty} {x:ty.den},gM P r b off ty=true->C6 ty w Z (cs.drop off) x->∃ls,b.mapM (λf=>P.keyLits n f.type ((cs.drop f.offset).take (P.cellsOf f.type)))=some ls/\ls.flatten=Lj ty x
 | [],off,ty,x,h,a=>by
  cases ty<;>simp[gM]at h;exact⟨[],rfl,rfl⟩
 | [f],off,ty,x,i,d=>by
  have a:(Nat.beq f.offset off&&r f.type ty&&Nat.beq (P.cellsOf f.type) ty.size)=true:=by cases ty<;>exact i
  simp only[qC]at a;have g:=qD a.1.1;have h:=qD a.2;have j:=C6.length d;refine⟨[Lj ty x],?_,by simp⟩;rw[wR,g,h,qQ ω,c a.1.2 d];rfl
 |f::B::b,off,ty,x,h,v=>by
  cases ty<;>simp only[gM]at h<;>try cases h
  rename_i a z;simp only[qC]at h;obtain⟨⟨⟨k,l⟩,o⟩,s⟩:=h;obtain⟨c1,A,e,g,y⟩:=v;have d:=C6.length g;have i:=qD k;have j:=qD o;obtain⟨ls,u,t⟩:=cO (cs:=cs) (off:=off+a.size) (x:=x.2) c s (by rw[<-vX,e,zI d];exact y);refine⟨Lj a x.1::ls,?_,by simp[Lj,t]⟩;rw[wR,i,j,e,g0m d,c l g,u];rfl
def cN {n e sz:Nat} {r:Ty->Bool} (b:∀ {ty:Ty} {cs:List Value} {x:ty.den},r ty=true->C6 ty w Z cs x->P.keyLits n e cs=some (Lj ty x)):
 ∀ {m i:Nat} {ty:Ty} {cs:List Value} {x:ty.den},gK r sz m ty=true->C6 ty w Z (cs.drop (i*sz)) x->∃ls,(List.range' i m).mapM (λi=>P.keyLits n e ((cs.drop (i*sz)).take sz))=some ls/\ls.flatten=Lj ty x
 |0,i,ty,cs,x,h,a=>by
  cases ty<;>simp[gK]at h;exact⟨[],rfl,rfl⟩
 |1,i,ty,cs,x,h,c=>by
  have a:(r ty&&Nat.beq ty.size sz)=true:=by cases ty<;>exact h
  simp only[qC]at a;have d:=qD a.2;have f:=C6.length c;refine⟨[Lj ty x],?_,by simp⟩;rw[List.range'_one,wR,qQ ω,b a.1 c];rfl
 |m+2,i,ty,cs,x,h,l=>by
  cases ty<;>simp only[gK]at h<;>try cases h
  rename_i c s;simp only[qC]at h;obtain⟨⟨d,f⟩,g⟩:=h;obtain⟨c1,t,e,a,o⟩:=l;have v:=C6.length a;have u:=qD f;obtain⟨ls,k,j⟩:=cN (cs:=cs) (i:=i+1) (x:=x.2) b g (by rw[tZ, <-vX,e,zI ω];exact o);refine⟨Lj c x.1::ls,?_,by simp[Lj,j]⟩;rw[g4s,wR,e,g0m ω,b d a,k];rfl
def TF:∀ {n:Nat} {T:TypeId} {ty:Ty} {cs:List Value} {x:ty.den},lV P n T ty=true->C6 ty w Z cs x->P.keyLits n T cs=some (Lj ty x)
 |0,_,_,_,_,h,_=>by cases h
 |n+1,T,ty,cs,x,h,a=>by
  unfold lV at h;unfold Program.keyLits;split at h
  . rename_i l b;cases ty<;>simp only at h<;>try cases h
    have:=qA h;subst this;obtain⟨e,g⟩:=a;simp only[b,e];rw[qT ⟨trivial,by simp only[Lit.wf,qC,rU];exact g⟩];rfl
  . rename_i b;cases ty<;>simp only at h<;>try cases h
    simp only[b,show cs= _ from a];rfl
  . rename_i k b;simp only[qC]at h;have f:=C6.length a;obtain⟨j,c,d⟩:=cO (n:=n) (cs:=cs) (off:=0) (λhh a=>TF hh a) h.1.1 (by simpa using a);simp only[b];rw[qT ⟨by rw[f,qD h.1.2],h.2⟩,c];simp[d]
  . rename_i m e b;simp only[qC]at h;have f:=C6.length a;obtain⟨j,c,d⟩:=cN (n:=n) (e:=e) (sz:=P.cellsOf e) (i:=0) (cs:=cs) (λhh a=>TF hh a) h.1 (by simpa using a);simp only[b];rw[qT (by rw[f,qD h.2]),g3h,c];simp[d]
  cases h
def EN (P:Program) (T:TypeId) (a:Bool) (ty:Ty):Bool:=lV P 20 T ty&&P.keyTypeAt 20 T&&Gr ty&& !(P.eqGuardType P.depth T)&&(match P.underlying T with|some (.struct _)=>a|some (.array _ _)=>a| _=> !a)
def HF {T:TypeId} {a:Bool} {ty:Ty} {v:Value} {x:ty.den} (h:EN P T a ty=true) (i:U7 (C6 ty w Z) a v x):v.formed P T=true/\P.keyLits 20 T v.cells.toList=some (Lj ty x):=by
 simp only[EN,qC]at h;obtain⟨⟨⟨⟨b,l⟩,n⟩,_⟩,d⟩:=h;cases a with
 |true=>
  obtain⟨k,e,g⟩:=i;subst e;have j:=TF b g;have f:=C6.length g;refine⟨?_,j⟩;unfold lV at b;split at b
  . rename_i c;simp[c]at d
  . rename_i c;simp[c]at d
  . rename_i c;simp only[qC]at b;simp only[Value.formed,c];have:=qD b.1.2;simp[this,f]
  . rename_i c;simp only[qC]at b;simp only[Value.formed,c];have:=qD b.2;simp[this,f]
  cases b
 |false=>
  have f:C6 ty w Z [v] x:=i;have g:=TF b f;unfold lV at b;split at b
  . rename_i k c;cases ty<;>simp only at b<;>try cases b
    have e:=f.1;simp only[sI,vO]at e;subst e;exact⟨by simp[Value.formed,c],g⟩
  . rename_i c;cases ty<;>simp only at b<;>try cases b
    have e: [v]= [.bool x]:=f;simp only[sI,vO]at e;subst e;exact⟨by simp[Value.formed,c],g⟩
  . rename_i c;simp[c]at d
  . rename_i c;simp[c]at d
  cases b
def HE {T:TypeId} {a:Bool} {ty:Ty} (h:EN P T a ty=true):Gr ty=true:=by
 simp only[EN,qC]at h;exact h.1.1.2
def cX {T:TypeId} {a:Bool} {ty:Ty} {v b:Value} {x y:ty.den} (h:EN P T a ty=true) (j:U7 (C6 ty w Z) a v x) (k:U7 (C6 ty w Z) a b y) (w':World):(Op.equalIn 10000 T v b).run P w'= .ok (FQ ty x y) w':=by
 obtain⟨d,l⟩:=HF h j;obtain⟨f,n⟩:=HF h k;have c:=HE h;simp only[EN,qC]at h;obtain⟨r,i,g⟩:=run_equalIn_deep (P:=P) 9980 20 T h.1.1.1.2 w' 20 20 v b _ _ d f l n;rw[i];have:r=FQ ty x y:=by
  rw[WJ c, <-TE c]at g;cases r<;>cases o:FQ ty x y<;>simp_all
 rw[this]
def Qy {T:TypeId} {a:Bool} {ty:Ty} {v:Value} {x:ty.den} (h:EN P T a ty=true) (d:U7 (C6 ty w Z) a v x) (w':World) (b:Bool):(Instr.checkKey b 10000 T v).run P w'= .ok () w':=by
 obtain⟨c,f⟩:=HF h d;simp only[EN,qC]at h;exact run_checkKey_deep (P:=P) b 9980 20 T h.1.1.1.2 w' 20 v _ c f
def P5 {α:Type} (t:Ty) (k:t.den):List (t.den×α)->Nat->Option Nat
 | [],_=>none
 |x::l,i=>bif FQ t k x.1 then some i else P5 t k l (i+1)
def I6 {α:Type} (t:Ty) (k:t.den):List (t.den×α)->Option α
 | []=>none
 |x::l=>bif FQ t k x.1 then some x.2 else I6 t k l
def Ej {α:Type} (t:Ty) (k:t.den) (v:α):List (t.den×α)->List (t.den×α)
 | []=> [(k,v)]
 |x::l=>bif FQ t k x.1 then(k,v)::l else x::Ej t k v l
def Yx {T:TypeId} {g:Bool} {a:Ty} {n:Type} {Rv:Value->n->Prop} {v:Value} {k:a.den} (h:EN P T g a=true) (D:U7 (C6 a w Z) g v k) (w':World):
 ∀ {l:List (a.den×n)} {es:List MapEntry},S8 (U7 (C6 a w Z) g) Rv es l->(Instr.findKey T v es).run P w'= .ok ((P5 a k l 0).bind λj=>(es[j]?).map λe=>(j,e.val)) w':=by
 have J:∀ {l:List (a.den×n)} {es:List MapEntry} (i:Nat),S8 (U7 (C6 a w Z) g) Rv es l->(Instr.findAsking T v es i).run P w'= .ok ((P5 a k l i).bind λj=>(es[j-i]?).map λe=>(j,e.val)) w':=by
  intro l
  induction l with
  |nil=>intro es i b;rw[show es= []from b];rfl
  |cons x l u=>
   intro es i b;obtain⟨e,M,rfl,f,o,F⟩:=b;have I:=cX h D f w';unfold Instr.findAsking P5;simp only[Sem.run_bind,Op.equal,Op.maxDepth,I,Result.andThen_ok];cases FQ a k x.1 with
   |true=>simp
   |false=>
    simp only[uK,wS,rG];rw[u (i+1) F];cases H:P5 a k l (i+1)with
    |none=>rfl
    |some j=>
     have N:i+1<=j:=by
      have:∀(l:List (a.den×n)) (i j:Nat),P5 a k l i=some j->i<=j:=by
       intro l
       induction l with
       |nil=>intro i j t;cases t
       |cons y l u=>
        intro i j t;unfold P5 at t;cases A:FQ a k y.1 with
        |true=>simp[A]at t;omega
        |false=>simp[A]at t;have:=u _ _ t;omega
      exact this _ _ _ H
     simp only[wD];rw[(ω:j-i=(j-(i+1))+1)];simp
 intro l es b;have G:=J 0 b;by_cases z:(match P.underlying T with|some (.array _ _) |some (.struct _)=>true| _=>false)=true
 . rw[run_findKey_eq w' z];exact G
 have B:=h;simp only[EN,qC]at B;obtain⟨⟨⟨⟨d,_⟩,_⟩,_⟩,s⟩:=B;have E:∀(r:TypeDesc),P.underlying T=some r->(∀(v v':Value) (x y:a.den),U7 (C6 a w Z) g v x->U7 (C6 a w Z) g v' y->Instr.sameNow r v v'=some (FQ a x y))->∀ {l:List (a.den×n)} {es:List MapEntry} (i:Nat),S8 (U7 (C6 a w Z) g) Rv es l->Instr.findNow r v es i=some ((P5 a k l i).bind λj=>(es[j-i]?).map λe=>(j,e.val)):=by
  intro r N I l
  induction l with
  |nil=>intro es i b;rw[show es= []from b];rfl
  |cons x l A=>
   intro es i b;obtain⟨e,M,rfl,f,o,F⟩:=b;unfold Instr.findNow P5;rw[I _ _ _ _ D f];cases u:FQ a k x.1 with
   |true=>simp
   |false=>
    simp only[rG];rw[A (i+1) F];cases H:P5 a k l (i+1)with
    |none=>rfl
    |some j=>
     have O:i+1<=j:=by
      have:∀(l:List (a.den×n)) (i j:Nat),P5 a k l i=some j->i<=j:=by
       intro l
       induction l with
       |nil=>intro i j t;cases t
       |cons y l A=>
        intro i j t;unfold P5 at t;cases u:FQ a k y.1 with
        |true=>simp[u]at t;omega
        |false=>simp[u]at t;have:=A _ _ t;omega
      exact this _ _ _ H
     simp only[wD];rw[(ω:j-i=(j-(i+1))+1)];simp
 unfold lV at d;split at d
 . rename_i q c;simp only[c,rL]at s;subst s;cases a<;>simp only at d<;>try cases d
   have:=qA d;subst this;have:=E _ c (λv v' x y f o=>by
    have t:=f.1;have u:=o.1;simp only[sI,vO]at t u;rw[t,u];simp[Instr.sameNow,FQ,BEq.beq]) 0 b
   simp[Instr.findKey,run_underlying c,this]
 . rename_i c;simp only[c,rL]at s;subst s;cases a<;>simp only at d<;>try cases d
   have:=E _ c (λv v' x y f o=>by
    have t: [v]= [.bool x]:=f;have u: [v']= [.bool y]:=o;simp only[sI,vO]at t u;rw[t,u];simp[Instr.sameNow,FQ]) 0 b
   simp[Instr.findKey,run_underlying c,this]
 . rename_i c;simp[c]at z
 . rename_i c;simp[c]at z
 cases d
end
def Ng (k:IntKind) (n:Int):FT k (k.wrap n):=by
 unfold FT;cases k<;>simp only[IntKind.wrap,IntKind.min,IntKind.max,IntKind.signed,IntKind.bits]<;>simp<;>(try split)<;>omega
def mP (k:IntKind):FT k 0:=by unfold FT;cases k<;>decide
def B1s (k:IntKind):k.min<=0/\0<=k.max:=mP k
def B3s {k:IntKind} {a b:Int} (l:FT k a):FT k (a.tmod b):=by
 have j:=B1s k;unfold FT at*;rcases g4h 0 a with h|h
 . have d:=zH b h;have f:a.tmod b<=a:=by
    rw[uL h];by_cases g:b=0
    . subst g;simp
    have i:=yD a b;rcases g4h 0 b with c|c
    . have:=tT c (g0l h c);omega
    have:=zL c (zF h c);omega
   omega
 have d:0<=(-a).tmod b:=zH b ω;have f:(-a).tmod b<= -a:=by
  rw[uL ω];by_cases g:b=0
  . subst g;simp
  have i:=yD (-a) b;rcases g4h 0 b with c|c
  . have:=tT c (g0l (ω:0<= -a) c);omega
  have:=zL c (zF (ω:0<= -a) c);omega
 rw[Int.neg_tmod]at d f;omega
def A9z {k:IntKind} {a:Int} (n:Nat) (f:FT k a):FT k (a.fdiv (2^n)):=by
 have d:=B1s k;have b:(0:Int)<2^n:=Int.pow_pos δ;have c:(1:Int)<=2^n:=b;unfold FT at*;rw[sJ _ ω];constructor
 . rw[g2g b];have:k.min*2^n<=k.min*1:=Int.mul_le_mul_of_nonpos_left d.1 c;omega
 have:a/2^n<k.max+1:=by
  rw[g2f b];have:(k.max+1)*1<=(k.max+1)*2^n:=uB c ω;omega
 omega
structure TI where
 ty:Ty
 agg:Bool
 elem:TypeId:=0
 fields:List (Nat×Nat×Bool):= []
 arr:Nat:=0
 bytes:Nat:=0
 eq:Bool:=false
 key:TypeId:=0
 rows:Bool:=false
 nest:List Nat:= []
def zc (t:Ty) (vs:List Value):Option (List Value):=
 match t with
 | .int k=>(match vs with| .int k' n::r=>bif decide (k=k')&&decide (n=0)then some r else none| _=>none)
 | .bool=>(match vs with| .bool b::r=>bif b then none else some r| _=>none)
 | .str=>(match vs with| .string s::r=>bif s.data.isEmpty then some r else none| _=>none)
 | .unit=>some vs
 | .pair a b=>(zc a vs).bind (zc b)
 | .sl _=>(match vs with| .slice none 0 0::r=>some r| _=>none)
 | .ptr _=>(match vs with| .pointer none::r=>some r| _=>none)
 | .mp _ _ _ _=>(match vs with| .map none::r=>some r| _=>none)
def Dz:Ty->List Value
 | .int k=> [.int k 0]
 | .bool=> [.bool false]
 | .str=> [.string ⟨#[]⟩]
 | .unit=> []
 | .pair a b=>Dz a++Dz b
 | .sl _=> [.slice none 0 0]
 | .ptr _=> [.pointer none]
 | .mp _ _ _ _=> [.map none]
def jL:∀ {t:Ty} {vs r:List Value},zc t vs=some r->vs=Dz t++r
 | .int k,vs,r,h=>by
  simp only[zc]at h;split at h
  . rename_i c n d;cases a:decide (k=c)<;>simp[a]at h;cases b:decide (n=0)<;>simp at b a<;>simp[b]at h;subst b a h;rfl
  cases h
 | .bool,vs,r,h=>by
  simp only[zc]at h;split at h
  . rename_i b a;cases b<;>simp at h;subst h;rfl
  cases h
 | .str,vs,r,h=>by
  simp only[zc]at h;split at h
  . rename_i s b;cases a:s.data.isEmpty<;>simp[a]at h;subst h;have:s=⟨#[]⟩:=by cases s;simp at a;simp[a]
    rw[this];rfl
  cases h
 | .unit,vs,r,h=>by simp[zc]at h;subst h;rfl
 | .pair b c,vs,r,h=>by
  simp only[zc]at h;cases a:zc b vs with
  |none=>simp[a]at h
  |some d=>
   simp[a]at h;rw[jL a,jL h];simp[Dz]
 | .sl t,vs,r,h=>by
  simp only[zc]at h;split at h
  . cases h;rfl
  cases h
 | .ptr t,vs,r,h=>by
  simp only[zc]at h;split at h
  . cases h;rfl
  cases h
 | .mp _ _ _ _,vs,r,h=>by
  simp only[zc]at h;split at h
  . cases h;rfl
  cases h
def isB (P:Program) (T:TypeId):Bool:=match P.underlying T with|some .bool=>true| _=>false
def A0h (P:Program) (T:TypeId) (f sz:Nat) (agg:Bool):Bool:=
 match P.underlying T with
 |some (.struct a)=>(match a[f]? with|some x=>bif agg then UG P x.type sz else(Dx P x.type&&Nat.beq sz 1) |none=>false)
 | _=>false
def Yr (P:Program) (T:TypeId):Nat->List (Nat×Nat×Bool)->Bool
 | _,[]=>true
 |f,(b,sz,a)::r=>NT P T f b&&A0h P T f sz a&&Yr P T (f+1) r
def Qk (P:Program) (T:TypeId) (t:Ty):Bool:=match Fb P T with|some z=>(match zc t z.cells.toList with|some []=>true| _=>false) |none=>false
def MI (P:Program) (T:TypeId) (a:Bool):Bool:=match Fb P T with|some (.agg _)=>a|some (.tuple _)=>false|some _=> !a|none=>false
def Vm (P:Program) (T:TypeId) (ti:TI):Bool:=
 Sl P T ti.ty.size&&(bif ti.agg then UG P T ti.ty.size else(Dx P T&&Nat.beq ti.ty.size 1))&&Qk P T ti.ty&&
 (match ti.ty with
  | .bool=>isB P T
  | .str=>(match P.underlying T with|some .string=>true| _=>false)
  | .sl t=>Hc P T ti.elem t.size&&Qk P ti.elem t&&(match P.info? ti.elem with|some i=>Nat.beq i.bytes ti.bytes|none=>false)
  | .int k=>(match P.underlying T with|some (.int k')=>decide (k=k') | _=>false)
  | .mp a b c d=>(match P.underlying T with|some (.map k e)=>Nat.beq k ti.key&&Nat.beq e ti.elem| _=>false)&&EN P ti.key a b&&Qk P ti.elem d&&MI P ti.elem c
  | _=>true)&&
 (bif ti.fields.isEmpty then true else(Yr P T 0 ti.fields&&(match DI P T with|some pl=>decide (pl=ti.fields.map λx=>(x.1,x.2.1)) |none=>false)))&&
 (bif Nat.beq ti.arr 0 then true else(match P.underlying T with|some (.array n e)=>Nat.beq n ti.arr&&Nat.beq e ti.elem| _=>false))&&
 (bif ti.eq then EN P T ti.agg ti.ty else true)
def Pg:Value->C
 | .int k n=>bif decide (k.min<=n)&&decide (n<=k.max)then .val (.int k) n else .raw (.int k n)
 | .bool b=> .val .bool b
 | .string s=> .val .str s
 |v=>bif v.oneCell' then .raw v else .dead
def fW:Value->SV
 | .agg a=>⟨true,a.toList.map Pg⟩
 |v=>⟨false,[Pg v]⟩
def CM {w:World} {Z:Nat->Prop} {B:Nat->Value} {n:Nat} (v:Value):RC w Z B (Pg v) v/\Cq n (Pg v):=by
 cases v with
 |int k m=>
  simp only[Pg];cases h:decide (k.min<=m)&&decide (m<=k.max)with
  |true=>simp at h;simp only[qR];exact⟨⟨rfl,h⟩,trivial⟩
  |false=>simp only[rG];exact⟨⟨rfl,rfl⟩,trivial⟩
 | _=>exact⟨by first|rfl|exact⟨rfl,rfl⟩ |trivial,by first|trivial|rfl⟩
def Cu {w:World} {Z:Nat->Prop} {B:Nat->Value} {n:Nat} :∀vs:List Value,Ct w Z B (vs.map Pg) vs/\∀c∈vs.map Pg,Cq n c
 | []=>⟨rfl,by simp⟩
 |v::vs=>⟨⟨v,vs,rfl,(CM (n:=n) v).1,(Cu (n:=n) vs).1⟩,λc a=>by
  simp only[rW,qV]at a;rcases a with rfl|a
  . exact(CM (w:=w) (Z:=Z) (B:=B) v).2
  exact(Cu (w:=w) (Z:=Z) (B:=B) vs).2 c a⟩
def A0c {w:World} {Z:Nat->Prop} {B:Nat->Value} {n:Nat} (v:Value):RS w Z B (fW v) v/\Ma n (fW v):=by
 have b:∀v,RS w Z B ⟨false,[Pg v]⟩ v/\Ma n ⟨false,[Pg v]⟩:=λv=>⟨⟨v,[],rfl,(CM (n:=n) v).1,rfl⟩,λc hc=>by simp at hc;rw[hc];exact(CM (w:=w) (Z:=Z) (B:=B) v).2⟩
 cases v with
 |agg a=>exact⟨⟨a.toList,by simp,(Cu (n:=n) a.toList).1⟩,(Cu (w:=w) (Z:=Z) (B:=B) a.toList).2⟩
 | _=>exact b _
abbrev Hn:=List (Tmp×Bool)
def mN (t:Tmp) (b:Bool):Hn->Bool
 | []=>false
 | (c,a)::r=>(Nat.beq c t&&(b==a)) ||mN t b r
def St.ev (a:St) (ctx:Hn):Operand->Option SV
 | .tmp t=>match a.S t with
  | .one v=>some v
  | .cnd a b v=>bif mN a b ctx then some v else none
  | _=>none
 | .const v=>some (fW v)
 | .func f=>some ⟨false,[.fn f []]⟩
 | .global _=>none
def gctx (a:St):Nat->Tmp->Bool->Hn
 |0,t,b=> [(t,b)]
 |n+1,t,b=>(t,b)::match a.S t with
  | .cnd c b _=>gctx a n c b
  | _=> []
def PU:SV->Option Bool
 | ⟨false,[.val .bool e]⟩=>some e
 | _=>none
def gval (a:St) (t:Tmp):Option Bool:=match a.S t with
 | .one v=>PU v
 | .cnd _ _ v=>PU v
 | _=>none
def ctxP (a:St):Hn->Prop
 | []=>True
 | (t,b)::r=>match gval a t with
  |some e=>match r with
   | []=>e=b
   |r=>e=b/\ctxP a r
  |none=>ctxP a r
def NL {a:St} {t:Tmp} {b e:Bool} {r:Hn} (c:gval a t=some e):ctxP a ((t,b)::r)↔e=b/\ctxP a r:=by
 simp only[ctxP,c];cases r with
 |nil=>simp[ctxP]
 |cons _ _=>rfl
def P7 (E:G9) (ctx:Hn):Prop:=∀t b,(t,b)∈ctx->E t= .bool b
def cT {t:Tmp} {b:Bool} :∀ {ctx:Hn},mN t b ctx=true->(t,b)∈ctx
 | (f,d)::r,h=>by
  simp only[mN,uE,qC]at h;rcases h with⟨c,a⟩ |h
  . have:=qD c;simp at a;subst this a;simp
  simp[cT h]
def GE (b:Bool):undef≠ .bool b:=by simp[undef]
section
variable {za:Zn} {w0 w:World} {Z:Nat->Prop} {B:Nat->Value} {st:St} {E:G9}
def C2.ev (h:C2 za w0 st E w Z B) {ctx:Hn} (c:P7 E ctx) {x:Operand} {v:SV} (a:st.ev ctx x=some v):RS w Z B v (Gw.ev E x)/\Ma st.nx v:=by
 cases x with
 |tmp t=>
  have b:=h.slots t;have f:=h.refs t;simp only[St.ev]at a;cases d:st.S t with
  |one u=>rw[d]at b f a;cases a;exact⟨b,f⟩
  |tup _=>rw[d]at a;cases a
  |dead=>rw[d]at a;cases a
  |cnd j i u=>
   rw[d]at b f a;cases g:mN j i ctx with
   |false=>simp[g]at a
   |true=>
    simp[g]at a;subst a;rcases b with⟨_,b⟩ | ⟨b,_⟩
    . exact⟨b,f⟩
    exact absurd (c j i (cT g)) b
 |const u=>cases a;exact A0c u
 |func f=>cases a;exact⟨⟨_,[],rfl,by show _= _;rfl,rfl⟩,λd c=>by simp at c;subst c;exact λk b=>by cases b⟩
 |global g=>cases a
def C2.gctx (h:C2 za w0 st E w Z B):∀ {n:Nat} {t:Tmp} {b:Bool},E t= .bool b->P7 E (gctx st n t b)
 |0,t,b,c=>λf d a=>by simp[Vc.gctx]at a;rw[a.1,a.2];exact c
 |n+1,t,b,f=>λj i a=>by
  unfold Vc.gctx at a;rcases qV.1 a with a|a
  . cases a;exact f
  have g:=h.slots t;cases d:st.S t with
  |cnd l k u=>
   rw[d]at g a;rcases g with⟨c,_⟩ | ⟨_,c⟩
   . exact h.gctx c j i a
   rw[f]at c;exact absurd c.symm (GE b)
  |one _=>rw[d]at a;cases a
  |tup _=>rw[d]at a;cases a
  |dead=>rw[d]at a;cases a
def Qr {v:SV} {e:Bool} {u:Value} (h:RS w Z B v u) (a:PU v=some e):u= .bool e:=by
 unfold PU at a;split at a
 . cases a;obtain⟨_,_,b,c,_⟩:=h;cases b;simpa[RC,C6]using c
 cases a
def C2.gval (h:C2 za w0 st E w Z B) {t:Tmp} {b e:Bool} (f:E t= .bool b) (a:gval st t=some e):e=b:=by
 have c:=h.slots t;unfold Vc.gval at a;cases d:st.S t with
 |one u=>rw[d]at c a;have:=Qr c a;rw[f]at this;cases this;rfl
 |tup _=>rw[d]at a;cases a
 |dead=>rw[d]at a;cases a
 |cnd i g u=>
  rw[d]at c a;rcases c with⟨_,c⟩ | ⟨_,c⟩
  . have:=Qr c a;rw[f]at this;cases this;rfl
  rw[f]at c;exact absurd c.symm (GE b)
def C2.ctxP (h:C2 za w0 st E w Z B):∀ {ctx:Hn},P7 E ctx->ctxP st ctx
 | [],_=>trivial
 | (t,b)::r,c=>by
  have d:=h.ctxP (ctx:=r) λt b hm=>c t b (qI _ hm)
  cases a:Vc.gval st t with
  |none=>simp only[Vc.ctxP,a];exact d
  |some e=>exact(NL a).2 ⟨h.gval (c t b (by simp)) a,d⟩
end
def explode:(t:Ty)->t.den->List C
 | .pair a b,x=>explode a x.1++explode b x.2
 | .unit,_=> []
 | .int k,x=> [.val (.int k) x]
 | .bool,x=> [.val .bool x]
 | .str,x=> [.val .str x]
 | .sl t,x=> [.val (.sl t) x]
 | .ptr t,x=> [.pf t x 0]
 | .mp a b c d,x=> [.val (.mp a b c d) x]
def UY (t:Ty):C->Option t.den
 | .val a x=>if h:a=t then some (h▸x)else none
 | .raw (.slice none 0 0)=>match t with
  | .sl _=>some []
  | _=>none
 | .raw (.map none)=>match t with
  | .mp _ _ _ _=>some []
  | _=>none
 | .pf a x 0=>if h:Ty.ptr a=t then some (h▸(show(Ty.ptr a).den from x))else none
 | _=>none
def Lw:(t:Ty)->List C->Option (t.den×List C)
 | .pair a b,c=>(Lw a c).bind λx=>(Lw b x.2).map λy=>((x.1,y.1),y.2)
 | .unit,a=>some ((),a)
 | .int k,c::r=>(UY (.int k) c).map λx=>(x,r)
 | .bool,c::r=>(UY .bool c).map λx=>(x,r)
 | .str,c::r=>(UY .str c).map λx=>(x,r)
 | .sl t,c::r=>(UY (.sl t) c).map λx=>(x,r)
 | .ptr t,c::r=>(UY (.ptr t) c).map λx=>(x,r)
 | .mp a b d f,c::r=>(UY (.mp a b d f) c).map λx=>(x,r)
 | _,_=>none
def Ro (agg:Bool) (t:Ty) (s:SV):Option t.den:=
 bif s.agg==agg then(match Lw t s.cs with|some (x,[])=>some x| _=>none)else none
section
variable {w:World} {Z:Nat->Prop} {B:Nat->Value} {n:Nat}
def Ct.append:∀ {cs cs':List C} {vs a:List Value},Ct w Z B cs vs->Ct w Z B cs' a->Ct w Z B (cs++cs') (vs++a)
 | [],_,_,_,h,b=>by rw[show _= _ from h];exact b
 | _:: _,_,_,a,⟨v,f,e,c,d⟩,b=>⟨v,f++a,by rw[e];rfl,c,Ct.append d b⟩
def O2:∀ {t:Ty} {cs:List Value} {x:t.den},C6 t w Z cs x->Ct w Z B (explode t x) cs
 | .int k,_,_,h=>⟨_,[],h.1,⟨rfl,h.2⟩,rfl⟩
 | .bool,_,_,h=>⟨_,[],h,rfl,rfl⟩
 | .str,_,_,h=>⟨_,[],h,rfl,rfl⟩
 | .unit,_,_,h=>h
 | .pair c d,_,_,⟨c1,f,e,a,b⟩=>by rw[e];exact(O2 a).append (O2 b)
 | .sl t,_,_,h=>by
  obtain⟨a,b,e,r⟩:=h;exact⟨_,[],e,⟨a,b,rfl,r⟩,rfl⟩
 | .ptr t,_,_,h=>by
  obtain⟨b,o,a,e,r⟩:=h;exact⟨_,[],e,⟨b,o,a,rfl,r⟩,rfl⟩
 | .mp d f g i,_,_,h=>by
  rcases h with⟨e,h⟩ | ⟨b,c,a,e,h⟩
  . exact⟨_,[],e, .inl ⟨rfl,h⟩,rfl⟩
  exact⟨_,[],e, .inr ⟨b,c,a,rfl,h⟩,rfl⟩
def E8:∀ {t:Ty} {x:t.den},∀c∈explode t x,Cq n c
 | .int k,_,c,h=>by simp[explode]at h;subst h;trivial
 | .bool,_,c,h=>by simp[explode]at h;subst h;trivial
 | .str,_,c,h=>by simp[explode]at h;subst h;trivial
 | .unit,_,c,h=>by simp[explode]at h
 | .pair a b,x,c,h=>by
  simp only[explode,qS]at h;rcases h with h|h
  . exact E8 c h
  exact E8 c h
 | .sl t,_,c,h=>by simp[explode]at h;subst h;trivial
 | .ptr t,_,c,h=>by simp[explode]at h;subst h;trivial
 | .mp _ _ _ _,_,c,h=>by simp[explode]at h;subst h;trivial
def fK {t:Ty} {c:C} {x:t.den} {v:Value} (h:RC w Z B c v) (a:UY t c=some x):C6 t w Z [v] x:=by
 unfold UY at a;split at a
 . rename_i j k;split at a
   . rename_i e;subst e;cases a;exact h
   cases a
 . split at a
   . cases a;rw[show v= _ from h.1];exact⟨none,0,rfl,qU _,rS _,λ_=>rfl, .inl rfl⟩
   cases a
 . split at a
   . cases a;rw[show v= _ from h.1];exact .inl ⟨rfl,rfl⟩
   cases a
 . rename_i j k;split at a
   . rename_i e;subst e;cases a;obtain⟨b,o,d,e,f,g,i⟩:=h;exact⟨b,o,d,by rw[e];rfl,f,g,i⟩
   cases a
 cases a
def B6s:∀ {t:Ty} {cs r:List C} {vs:List Value} {x:t.den},Ct w Z B cs vs->Lw t cs=some (x,r)->∃v1 v2,vs=v1++v2/\C6 t w Z v1 x/\Ct w Z B r v2:=by
 have one:∀(t:Ty) {cs r:List C} {vs:List Value} {x:t.den} (c:C),Ct w Z B (c::cs) vs->(UY t c).map (λx=>(x,cs))=some (x,r)->∃v1 v2,vs=v1++v2/\C6 t w Z v1 x/\Ct w Z B r v2:=by
  intro t cs r vs x c h b;obtain⟨v,g,e,d,f⟩:=h;cases a:UY t c with
  |none=>simp[a]at b
  |some y=>
   simp[a]at b;obtain⟨rfl,rfl⟩:=b;exact⟨[v],g,e,fK d a,f⟩
 intro t
 induction t with
 |pair g h k l=>
  intro cs r vs x j a;simp only[Lw]at a;cases b:Lw g cs with
  |none=>simp[b]at a
  |some y=>
   simp only[b,wD]at a;cases d:Lw h y.2 with
   |none=>simp[d]at a
   |some z=>
    simp[d]at a;obtain⟨rfl,rfl⟩:=a;obtain⟨v1,v2,e,n,o⟩:=k j (by rw[b]);obtain⟨f,v,i,s,u⟩:=l o (by rw[d]);exact⟨v1++f,v,by rw[e,i];simp,⟨v1,f,rfl,n,s⟩,u⟩
 |unit=>intro cs r vs x h a;simp[Lw]at a;subst a;exact⟨[],vs,rfl,rfl,h⟩
 |int k=>intro cs r vs x h a;cases cs with
  |nil=>simp[Lw]at a
  |cons c cs=>exact one _ c h a
 |bool=>intro cs r vs x h a;cases cs with
  |nil=>simp[Lw]at a
  |cons c cs=>exact one _ c h a
 |str=>intro cs r vs x h a;cases cs with
  |nil=>simp[Lw]at a
  |cons c cs=>exact one _ c h a
 |sl t _=>intro cs r vs x h a;cases cs with
  |nil=>simp[Lw]at a
  |cons c cs=>exact one _ c h a
 |ptr t _=>intro cs r vs x h a;cases cs with
  |nil=>simp[Lw]at a
  |cons c cs=>exact one _ c h a
 |mp b d f g _ _=>intro cs r vs x h a;cases cs with
  |nil=>simp[Lw]at a
  |cons c cs=>exact one _ c h a
def Gq {t:Ty} {cs:List C} {vs:List Value} {x:t.den} (h:Ct w Z B cs vs) (c:Lw t cs=some (x,[])):C6 t w Z vs x:=by
 obtain⟨f,d,e,a,b⟩:=B6s h c;rw[show d= []from b,vY]at e;rw[e];exact a
def Em {a:Bool} {t:Ty} {s:SV} {v:Value} {x:t.den} (h:RS w Z B s v) (b:Ro a t s=some x):Bf a t w Z v x:=by
 obtain⟨d,g⟩:=s;unfold Ro at b;cases c:(d==a)with
 |false=>simp[c]at b
 |true=>
  simp only[c,qR]at b;have:d=a:=by simpa using c
  subst this;split at b
  . rename_i y f;cases b;cases d with
    |true=>obtain⟨vs,e,h⟩:=h;exact⟨vs,e,Gq h f⟩
    |false=>exact Gq (vs:= [v]) h f
  cases b
def Bf.explode {a:Bool} {t:Ty} {v:Value} {x:t.den} (h:Bf a t w Z v x):RS w Z B ⟨a,explode t x⟩ v:=by
 cases a with
 |true=>obtain⟨cs,e,h⟩:=h;exact⟨cs,e,O2 h⟩
 |false=>exact O2 (cs:= [v]) h
def Ct.len:∀ {cs:List C} {vs:List Value},Ct w Z B cs vs->cs.length=vs.length
 | [],_,h=>by rw[show _= _ from h];rfl
 | _:: _,_,⟨v,b,e,_,a⟩=>by rw[e,rJ,rJ,Ct.len a]
def Ct.drop:∀ {cs:List C} {vs:List Value} (i:Nat),Ct w Z B cs vs->Ct w Z B (cs.drop i) (vs.drop i)
 |cs,vs,0,h=>h
 | [],_,i+1,h=>by rw[show _= _ from h];simp;rfl
 | _:: _,_,i+1,⟨v,b,e,_,a⟩=>by rw[e];simp only[List.drop_succ_cons];exact Ct.drop i a
def Ct.take:∀ {cs:List C} {vs:List Value} (i:Nat),Ct w Z B cs vs->Ct w Z B (cs.take i) (vs.take i)
 |cs,vs,0,h=>by simp;rfl
 | [],_,i+1,h=>by rw[show _= _ from h];simp;rfl
 | _:: _,_,i+1,⟨v,c,e,a,b⟩=>by rw[e];simp only[List.take_succ_cons];exact⟨v,_,rfl,a,Ct.take i b⟩
end
def A0q (op:BinOp) (k:IntKind) (a b:Int):Option (Option Prop×C):=
 match op with
 | .add=>some (none, .val (.int k) (k.wrap (a+b)))
 | .sub=>some (none, .val (.int k) (k.wrap (a-b)))
 | .mul=>some (none, .val (.int k) (k.wrap (a*b)))
 | .quo=>some (some (b≠0), .val (.int k) (k.wrap (a.tdiv b)))
 | .rem=>some (some (b≠0), .val (.int k) (a.tmod b))
 | .and=>some (none, .val (.int k) (k.wrap (BitVec.ofInt k.bits a&&&BitVec.ofInt k.bits b).toNat))
 | .or=>some (none, .val (.int k) (k.wrap (BitVec.ofInt k.bits a|||BitVec.ofInt k.bits b).toNat))
 | .xor=>some (none, .val (.int k) (k.wrap (BitVec.ofInt k.bits a^^^BitVec.ofInt k.bits b).toNat))
 | .eql=>some (none, .val .bool (decide (a=b)))
 | .neq=>some (none, .val .bool (decide (a≠b)))
 | .lss=>some (none, .val .bool (decide (a<b)))
 | .leq=>some (none, .val .bool (decide (a<=b)))
 | .gtr=>some (none, .val .bool (decide (b<a)))
 | .geq=>some (none, .val .bool (decide (b<=a)))
 | _=>none
def C1t (op:BinOp) (a b:ByteArray):Option (Option Prop×C):=match op with
 | .eql=>some (none, .val .bool (decide (a=b)))
 | .neq=>some (none, .val .bool (decide (a≠b)))
 | .add=>some (some (a.data.toList.length+b.data.toList.length<=9223372036854775807), .val .str (a++b))
 | _=>none
def B9o (op:BinOp):C->C->Option (Option Prop×C)
 | .val (.int k) a, .val (.int c) b=>
  match op with
  | .shl=>some (some (0<=b), .val (.int k) (k.wrap (a*2^(min b.toNat k.bits))))
  | .shr=>some (some (0<=b), .val (.int k) (a.fdiv (2^(min b.toNat k.bits))))
  |op=>bif decide (k=c)then A0q op k a b else none
 | .val .bool a, .val .bool b=>
  match op with
  | .eql=>some (none, .val .bool (a==b))
  | .neq=>some (none, .val .bool (a !=b))
  | _=>none
 | .val .str a, .val .str b=>C1t op a b
 | _,_=>none
section
variable {za:Zn} {w0 w:World} {Z:Nat->Prop} {B:Nat->Value} {P:Program} {E:G9}
def C5q {ty:TypeId} {T T':TypeId} {x y:Operand} {a b:Bool} (g:Gw.ev E x= .bool a) (h:Gw.ev E y= .bool b) (d:P.underlying T=some .bool):Gw.D9 P E ty (.binOp .eql T x y T') w (.bool (a==b)) w:=λ_ _ _ _=>by
 have c:=run_equalIn_bool' (P:=P) w 9999 T a b d;have f:(eqGuard .eql T x y (.bool a) (.bool b)).run P w= .ok () w:=rfl;have d:(binOp .eql T (.bool a) (.bool b)).run P w= .ok (.bool (a==b)) w:=by
  show((Op.equal T (.bool a) (.bool b))>>=λr=>pure (Value.bool r)).run P w= _;unfold Op.equal Op.maxDepth;rw[Sem.run_bind,c];rfl
 simp only[execOp,g,h];simp[f,d]
def B0w {T:TypeId} (h:isB P T=true):P.underlying T=some .bool:=by
 unfold isB at h;split at h
 . assumption
 cases h
def A6d {op:BinOp} {k:IntKind} {a b:Int} {φ:Option Prop} {c:C} (h:A0q op k a b=some (φ,c)) (d:EQ φ) (f:FT k a):∃v,(∀(w':World) (T:TypeId),(binOp op T (.int k a) (.int k b)).run P w'= .ok v w')/\RC w Z B c v/\∀n,Cq n c:=by
 cases op<;>simp only[A0q,rC,g0i,reduceCtorEq]at h<;>(try exact h.elim)<;>obtain⟨rfl,rfl⟩:=h
 case rem=>exact⟨_,λw' T=>by simp[binOp,Op.intDiv,show b≠0 from d,go_sem],⟨rfl,B3s f⟩,λ_=>trivial⟩
 case quo=>exact⟨_,λw' T=>by simp[binOp,Op.intDiv,show b≠0 from d,go_sem],⟨rfl,Ng _ _⟩,λ_=>trivial⟩
 case add|sub|mul=>exact⟨_,λw' T=>by simp[binOp,Op.intArith,go_sem],⟨rfl,Ng _ _⟩,λ_=>trivial⟩
 case and|or|xor=>exact⟨_,λw' T=>by simp[binOp,Op.intBits,go_sem],⟨rfl,Ng _ _⟩,λ_=>trivial⟩
 all_goals exact⟨.bool _,λw' T=>by simp[binOp,Op.intCmp,go_sem];try rfl,rfl,λ_=>trivial⟩
def A2m {op:BinOp} {ty:TypeId} {T T':TypeId} {x y:Operand} {a b:ByteArray} {v:Value} (g:Gw.ev E x= .string a) (h:Gw.ev E y= .string b) (f:(Op.stringOp op a b).run P w= .ok v w):Gw.D9 P E ty (.binOp op T x y T') w v w:=λ_ _ _ _=>by
 have d:(eqGuard op T x y (.string a) (.string b)).run P w= .ok () w:=by cases op<;>rfl
 have c:(binOp op T (.string a) (.string b)).run P w= .ok v w:=by cases op<;>exact f
 simp only[execOp,g,h];simp[go_sem,d,c]
def A4x (a b:ByteArray):(a.toList==b.toList)=decide (a=b):=by
 rw[ByteArray.toList_eq,ByteArray.toList_eq];by_cases h:a=b
 . subst h;simp
 rw[rI h];exact vD.2 λe=>h (ByteArray.ext (yN.1 e))
def B7p {op:BinOp} {a b:ByteArray} {x y:Operand} {c:C} {φ:Option Prop} {T T' ty:TypeId} (h:C1t op a b=some (φ,c)) (i:EQ φ) (d:Gw.ev E x= .string a) (f:Gw.ev E y= .string b):∃v,(∀w',Gw.D9 P E ty (.binOp op T x y T') w' v w')/\RC w Z B c v/\∀n,Cq n c:=by
 unfold C1t at h;split at h
 . cases h;exact⟨_,λw'=>A2m d f (v:= .bool (a.toList==b.toList)) rfl,by rw[A4x];rfl,λ_=>trivial⟩
 . cases h;exact⟨_,λw'=>A2m d f (v:= .bool (!(a.toList==b.toList))) rfl,by rw[A4x,decide_not];rfl,λ_=>trivial⟩
 . cases h;have g:¬((a.size+b.size:Nat):Int)>i64.max:=by
    have j:a.data.toList.length+b.data.toList.length<=9223372036854775807:=i;have k:i64.max=9223372036854775807:=δ
    have l:a.size=a.data.toList.length:=by rw[sA];rfl
    have o:b.size=b.data.toList.length:=by rw[sA];rfl
    omega
   exact⟨.string (a++b),λw'=>A2m d f (by unfold Op.stringOp;simp only[g,wS];rfl),rfl,λ_=>trivial⟩
 cases h
def B4t {op:BinOp} {x y:Operand} {cx r c:C} {φ:Option Prop} {T T' ty:TypeId} (h:B9o op cx r=some (φ,c)) (i:EQ φ) (a:RC w Z B cx (Gw.ev E x)) (b:RC w Z B r (Gw.ev E y)) (g:isB P T=true\/∀e,cx≠ .val .bool e):
 ∃v,(∀w',Gw.D9 P E ty (.binOp op T x y T') w' v w')/\RC w Z B c v/\∀n,Cq n c:=by
 unfold B9o at h;split at h
 . rename_i k f A d;obtain⟨a,s⟩:=a;obtain⟨b,D⟩:=b;simp only[sI,vO]at a b;split at h
   . cases h;have j:¬d<0:=g5d.2 i;have o:∀w',Gw.D9 P E ty (.binOp .shl T x y T') w' (.int k (k.wrap (f*2^(min d.toNat k.bits)))) w':=λw'=>B4b a b (by simp[binOp,Op.shift,j,go_sem])
     exact⟨_,o,⟨rfl,Ng _ _⟩,λ_=>trivial⟩
   . cases h;have j:¬d<0:=g5d.2 i;have o:∀w',Gw.D9 P E ty (.binOp .shr T x y T') w' (.int k (f.fdiv (2^(min d.toNat k.bits)))) w':=λw'=>B4b a b (by simp[binOp,Op.shift,j,go_sem])
     exact⟨_,o,⟨rfl,A9z _ s⟩,λ_=>trivial⟩
   cases l:decide (k=A)with
   |false=>simp[l]at h
   |true=>
    simp only[l,qR]at h;have:=qA l;subst this;obtain⟨v,u,z⟩:=A6d (P:=P) (w:=w) (Z:=Z) (B:=B) h i s;exact⟨v,λw'=>B4b a b (u w' T),z⟩
 . rename_i f d;have a:Gw.ev E x= .bool f:=by simpa[RC,C6]using a
   have b:Gw.ev E y= .bool d:=by simpa[RC,C6]using b
   have t:P.underlying T=some .bool:=by
    rcases g with g|g
    . exact B0w g
    exact absurd rfl (g f)
   split at h
   . cases h;exact⟨_,λw'=>C5q a b t,rfl,λ_=>trivial⟩
   . cases h;exact⟨_,λw'=>C5t a b t,rfl,λ_=>trivial⟩
   cases h
 . exact B7p h i (by simpa[RC,C6]using a) (by simpa[RC,C6]using b)
 cases h
end
structure Cx where
 P:Program
 tys:List (Nat×TI)
def U9 {α:Type} (s:Nat):List (Nat×α)->Option α
 | []=>none
 | (t,x)::l=>bif Nat.beq t s then some x else U9 s l
def Cx.ti (cx:Cx) (T:TypeId):Option TI:=U9 T cx.tys
def G8 (P:Program):List (Nat×TI)->Bool
 | []=>true
 | (T,ti)::l=>Vm P T ti&&G8 P l
def B9 {P:Program} :∀ {l:List (Nat×TI)},G8 P l=true->∀ {T:TypeId} {ti:TI},U9 T l=some ti->Vm P T ti=true
 | (T',c)::l,h,T,ti,a=>by
  simp only[G8,qC]at h;simp only[U9]at a;cases b:Nat.beq T' T with
  |true=>simp[b]at a;have:=qD b;subst a this;exact h.1
  |false=>simp[b]at a;exact B9 h.2 a
def c1:SV->Option C
 | ⟨false,[c]⟩=>some c
 | _=>none
def faC (off:Nat):C->Option C
 | .box k o=>some (.box k (o+off))
 | .elp k sz i o=>some (.elp k sz i (o+off))
 | .pf t x o=>some (.pf t x (o+off))
 | _=>none
def cut (off n:Nat) (cs:List C):Option (List C):=(λs=>bif Nat.beq s.length n then some s else none) ((cs.drop off).take n)
def FV (q:Nat):List (Nat×Nat)->Option Nat
 | []=>none
 | (i,p)::r=>bif Nat.beq p q then some i else FV q r
def B7b (a:St) (k:Nat):Option ((t:Ty)×List t.den):=match a.L k with
 | .row t _ l=>some ⟨t,l⟩
 | .al j=>match a.L j with
  | .rows t _ _ a al none=>(FV k al).map λi=>⟨t,a.getD i []⟩
  | _=>none
 | _=>none
def hdC (a:St) (k:Nat):Option ((t:Ty)×List t.den):=match a.L k with
 | .rows t _ _ b _ _=>some ⟨.sl t,b⟩
 | .nest t _ _ b _ _=>bif Nat.beq t.size 1 then some ⟨t,b⟩else none
 | _=>B7b a k
def A3q (b:St) (n:Nat):C->Option (List C)
 | .box k a=>match b.L k with
  | .box _ c=>cut a n c
  | .sbox q t x=>bif Nat.beq q k then cut a n (explode t x)else none
  | _=>none
 | .pf t x a=>cut a n (explode t x)
 | .elp k sz i a=>match B7b b k with
  |some ⟨t,l⟩=>bif Nat.beq sz t.size then cut a n (explode t (l.getD i t.dflt))else none
  |none=>none
 | _=>none
def gx {α:Type} (d:α) (l:List α) (i:Int):α:=l.getD i.toNat d
def C0i (a:St) (i:Int):C->Option (Option Prop×C)
 | .val (.sl t) l=>some (some (0<=i/\i<(l.length:Int)), .pf t (gx t.dflt l i) 0)
 | .row k=>match hdC a k with
  |some ⟨t,l⟩=>some (some (0<=i/\i<(l.length:Int)), .elp k t.size i.toNat 0)
  |none=>none
 | .win k sz a b=>some (some (0<=i/\i<b-a), .elp k sz (a+i).toNat 0)
 | _=>none
def B6a (a:St):C->Option Int
 | .val (.sl _) l=>some (l.length:Int)
 | .row k=>match hdC a k with
  |some ⟨_,l⟩=>some (l.length:Int)
  |none=>none
 | .mp k=>match a.L k with
  | .map _ _ _ _ a=>some (a.length:Int)
  | _=>none
 | .raw (.slice none 0 0)=>some 0
 | .win _ _ b a=>some (a-b)
 | .val .str s=>some (s.data.toList.length:Int)
 | _=>none
def SE:SV->Option Int
 | ⟨false,[.val (.int _) n]⟩=>some n
 | _=>none
def A1v (b:St) (lo a:Option Int):C->Option (Option Prop×C)
 | .val (.sl t) l=>some (some (0<=lo.getD 0/\lo.getD 0<=a.getD (l.length:Int)/\a.getD (l.length:Int)<=(l.length:Int)), .val (.sl t) ((l.take (a.getD (l.length:Int)).toNat).drop (lo.getD 0).toNat))
 | .row k=>match b.L k with
  | .row t _ l=>some (some (0<=lo.getD 0/\lo.getD 0<=a.getD (l.length:Int)/\a.getD (l.length:Int)<=(l.length:Int)), .win k t.size (lo.getD 0) (a.getD (l.length:Int)))
  | _=>none
 | _=>none
def A0x:Op->Bool
 | .load _ _=>true
 | .lookup _ _ _ _=>true
 | _=>false
section
variable {za:Zn} {w0 w:World} {Z:Nat->Prop} {B:Nat->Value} {st:St} {E:G9} {P:Program}
def Wu (P:Program) (st:St) (E:G9) (w:World) (Z:Nat->Prop) (B:Nat->Value) (ty:TypeId) (op:Op) (d:DV):Prop:=
 ∃v,(∀a,(A0x op=true->R1 w a)->Gw.D9 P E ty op a v a)/\(∀E',RD w Z B E' d v)/\KW st.nx d
def Gt {ty:TypeId} {op:Op} {c:C} {v:Value} (f:∀w',(A0x op=true->R1 w w')->Gw.D9 P E ty op w' v w') (b:RC w Z B c v) (d:Cq st.nx c):Wu P st E w Z B ty op (.one ⟨false,[c]⟩):=
 ⟨v,f,λ_=>⟨v,[],rfl,b,rfl⟩,λg a=>by simp at a;subst a;exact d⟩
def kT {s:SV} {c:C} {v:Value} (h:RS w Z B s v) (d:Ma st.nx s) (a:c1 s=some c):RC w Z B c v/\Cq st.nx c:=by
 unfold c1 at a;split at a
 . cases a;obtain⟨_,_,e,b,_⟩:=h;cases e;exact⟨b,d _ (by simp)⟩
 cases a
def B5u {s:SV} {n:Int} {v:Value} (h:RS w Z B s v) (b:SE s=some n):∃k,v= .int k n/\FT k n:=by
 unfold SE at b;split at b
 . cases b;obtain⟨_,_,e,a,_⟩:=h;cases e;obtain⟨a,c⟩:=a;simp only[sI,vO]at a;exact⟨_,a,c⟩
 cases b
def C2v {T ty:TypeId} {x:Operand} {c j:C} {f off:Nat} (d:NT P T f off=true) (a:RC w Z B c (Gw.ev E x)) (g:Cq st.nx c) (h:faC off c=some j):Wu P st E w Z B ty (.fieldAddr T x f) (.one ⟨false,[j]⟩):=by
 unfold faC at h;split at h<;>cases h
 . obtain⟨b,e,i⟩:=a;exact Gt (λk _=>BV i d) ⟨b,e,rfl⟩ g
 . obtain⟨b,m,l,e,r,i⟩:=a;exact Gt (λk _=>BV i d) ⟨b,m,l,e,r,by rw[uQ]⟩ g
 obtain⟨b,t,n,e,s,o,a⟩:=a;exact Gt (λk _=>BV e d) ⟨b,t,n,by rw[uQ],s,o,a⟩ g
def Ph {cs cs':List C} {vs:List Value} {off n:Nat} (h:Ct w Z B cs vs) (a:cut off n cs=some cs'):Ct w Z B cs' ((vs.drop off).take n)/\((vs.drop off).take n).length=n/\∀c∈cs',c∈cs:=by
 unfold cut at a;have d:=(h.drop off).take n;cases b:Nat.beq ((cs.drop off).take n).length n with
 |false=>simp only[b,rG]at a;cases a
 |true=>
  simp only[b,qR,rC]at a;subst a;exact⟨d,by rw[<-d.len];exact qD b,λc a=>vM (rQ a)⟩
def A3r {T ty:TypeId} {x:Operand} {b o:Nat} {vs:List Value} {agg:Bool} (f:Gw.ev E x= .pointer (some ⟨b,o,none⟩)) (g:I0 w ⟨b,o,none⟩ vs)
 (a:(agg=true/\UG P T vs.length=true)\/(agg=false/\Dx P T=true/\vs.length=1)):∃v,(∀w',w'.heap[b]? =w.heap[b]?->Gw.D9 P E ty (.load T x) w' v w')/\((agg=true/\v= .agg vs.toArray)\/(agg=false/\vs= [v])):=by
 have d:∀w':World,w'.heap[b]? =w.heap[b]?->I0 w' ⟨b,o,none⟩ vs:=λw' c j v hj=>by
  have:=g j v hj;rw[J9]at this|-;rw[<-this];exact World.cell?_of_block c
 rcases a with⟨rfl,a⟩ | ⟨rfl,a,h⟩
 . exact⟨.agg vs.toArray,λw' c=>A2l f a rfl (d w' c), .inl ⟨rfl,rfl⟩⟩
 match vs,h with
 | [v],_=>
  refine⟨v,λw' c=>jK f a ?_, .inr ⟨rfl,rfl⟩⟩;have:=d w' c 0 v rfl;rwa[J9]at this
def KC {T ty:TypeId} {x:Operand} {b o:Nat} {cs:List C} {vs:List Value} {agg:Bool} (k:Gw.ev E x= .pointer (some ⟨b,o,none⟩)) (g:b<w.heap.size) (h:I0 w ⟨b,o,none⟩ vs) (a:Ct w Z B cs vs) (i:∀c∈cs,Cq st.nx c)
 (j:(agg=true/\UG P T vs.length=true)\/(agg=false/\Dx P T=true/\vs.length=1)):Wu P st E w Z B ty (.load T x) (.one ⟨agg,cs⟩):=by
 obtain⟨v,d,f⟩:=A3r (ty:=ty) k h j;refine⟨v,λn l=>d n ((l rfl).block b g),?_,i⟩;rcases f with⟨rfl,rfl⟩ | ⟨rfl,rfl⟩
 . exact λ_=>⟨vs,rfl,a⟩
 exact λ_=>a
def Kt {q i:Nat} :∀ {al:List (Nat×Nat)},FV q al=some i->(i,q)∈al
 | [],h=>by cases h
 | (j,p)::r,h=>by
  simp only[FV]at h;cases a:Nat.beq p q with
  |true=>simp only[a,qR,rC]at h;have:=qD a;subst this;subst h;simp
  |false=>simp only[a,rG]at h;exact qI _ (Kt h)
def iZ {U:Nat->Prop} {t:Ty} {k e e' i q:Nat} {ls:List (List t.den)} {al:List (Nat×Nat)} (h:RL U w Z B k (.rows t e e' ls al none)) (u:FV q al=some i):
 ∃xs b,w.ownsRow 0 e 1 (B k) ls.length xs/\AtV xs i (B q)/\w.ownsRow 0 e' t.size (B q) (ls.getD i []).length b/\G5 (C6 t w Z) b (ls.getD i []):=by
 obtain⟨xs,a,⟨n,o,v⟩,x,y⟩:=h;rcases n _ (Kt u)with d| ⟨f,c⟩
 case inr=>
  have l:=a.1;rw[qE,rT (by simp only at f;omega)];refine⟨xs,[],a, .inr ⟨f,c⟩,?_,rfl⟩;simp only at c;rw[c];exact World.ownsRow_nil _ _ _ _
 have r:i<ls.length:=by have:=(sR.1 d).1;have l:=a.1;omega
 have s:ls[i]? =some (ls.getD i []):=by rw[qE,qN r];rfl
 obtain⟨b,g,j⟩:=o i _ _ rfl s d;exact⟨xs,b,a, .inl d,g,j⟩
def iY (h:C2 za w0 st E w Z B) {k:Nat} {t:Ty} {l:List t.den} (a:B7b st k=some ⟨t,l⟩):∃e xs,w.ownsRow 0 e t.size (B k) l.length xs/\G5 (C6 t w Z) xs l:=by
 unfold B7b at a;split at a
 . rename_i s e x c;cases a;have b:=h.locs k;rw[c]at b;obtain⟨xs,o,i,_⟩:=b;exact⟨e,xs,o,i⟩
 . rename_i r c;split at a
   . rename_i s e d y al n;simp only[qJ]at a;obtain⟨v,j,a⟩:=a;cases a;have b:=h.locs r;rw[n]at b;obtain⟨_,u,_,_,f,g⟩:=iZ b j;exact⟨d,u,f,g⟩
   cases a
 cases a
def B0n (h:C2 za w0 st E w Z B) {k:Nat} {t:Ty} {l:List t.den} (a:hdC st k=some ⟨t,l⟩):∃e xs,w.ownsRow 0 e t.size (B k) l.length xs:=by
 unfold hdC at a;split at a
 . rename_i g e i n al s d;cases a;have b:=h.locs k;rw[d]at b;obtain⟨xs,f,_⟩:=b;exact⟨e,xs,f⟩
 . rename_i g e i n o r d;cases c:Nat.beq g.size 1 with
   |false=>simp only[c,rG]at a;cases a
   |true=>
    simp only[c,qR]at a;cases a;have b:=h.locs k;rw[d]at b;obtain⟨xs,j,_⟩:=b;exact⟨e,xs,by rw[qD c];exact j.own⟩
 obtain⟨e,xs,f,_⟩:=iY h a;exact⟨e,xs,f⟩
def B6e (h:C2 za w0 st E w Z B) {T ty:TypeId} {x:Operand} {c:C} {cs:List C} {n:Nat} {agg:Bool} (A:RC w Z B c (Gw.ev E x)) (a:A3q st n c=some cs)
 (z:(agg=true/\UG P T n=true)\/(agg=false/\Dx P T=true/\n=1)):Wu P st E w Z B ty (.load T x) (.one ⟨agg,cs⟩):=by
 unfold A3q at a;split at a
 . rename_i D l;split at a
   . rename_i ag ad s;have r:=h.locs D;have O:=h.refl D;rw[s]at r O;obtain⟨k,ah,e,_,_,Q,u⟩:=r;obtain⟨V,o,i⟩:=A;rw[e]at o;cases o;obtain⟨d,f,g⟩:=Ph u a;have:=L6 Q.cellsAt l n;rw[sC]at this;exact KC i Q.lt this d (λc b=>O c (g c b)) (by rw[f];exact z)
   . rename_i q t aa s;cases G:Nat.beq q D with
     |false=>simp only[G,rG]at a;cases a
     |true=>
      simp only[G,qR]at a;have:=qD G;subst this;have r:=h.locs q;rw[s]at r;obtain⟨_,⟨k,a8,W,y,J,b,H⟩,_⟩:=r;simp only[sI,vO]at y;obtain⟨V,o,i⟩:=A;rw[y]at o;cases o;obtain⟨d,f,g⟩:=Ph (O2 (B:=B) H) a;have u:=L6 b l n;rw[sC]at u;exact KC i (h.zlt _ J) u d (λc b=>E8 c (g c b)) (by rw[f];exact z)
   cases a
 . rename_i t aa l;obtain⟨k,a8,W,i,J,b,H⟩:=A;obtain⟨d,f,g⟩:=Ph (O2 (B:=B) H) a;exact KC i (h.zlt k J) (L6 b l n) d (λc b=>E8 c (g c b)) (by rw[f];exact z)
 . rename_i D sz M l;split at a
   . rename_i t N s;cases I:Nat.beq sz t.size with
     |false=>simp[I]at a
     |true=>
      simp only[I,qR]at a;have a6:=qD I;subst a6;obtain⟨e,a9,y,a1⟩:=iY h s;obtain⟨k,m,ab,X,R,i⟩:=A;rw[X]at y;have a5:m=N.length:=by
       rcases y.2 with⟨F,_⟩ | ⟨_,_,_,F,_⟩<;>cases F
       rfl
      subst a5;have a4:=G5.get (λ_ _ h=>C6.length h) a1 (qN R);have a3:N.getD M t.dflt=N[M]:=by rw[qE,qN R];rfl
      rw[a3]at a;obtain⟨d,f,g⟩:=Ph (O2 (B:=B) a4) a;have Y:=(World.ownsRow.lt y k rfl).2;have a0:I0 w ⟨k,0,none⟩ a9:=λj v hj=>by
       rcases y.2 with⟨F,_⟩ | ⟨af,ac,ae,F,_,a2,_,_,_,a7⟩
       . cases F
       cases F;rw[J9,sC];simp only[World.cell?,a2];rw[<-a7,wA]at hj;split at hj
       . simpa using hj
       cases hj
      have U:=L6 (L6 a0 (M*t.size) t.size) l n;rw[sC]at U;exact KC i Y U d (λc b=>E8 c (g c b)) (by rw[f];exact z)
   cases a
 cases a
def H3 {α:Type} {d:α} {l:List α} {i:Int} (a:0<=i) (b:i<(l.length:Int)):l[i.toNat]? =some (gx d l i):=by
 have a:i.toNat<l.length:=ω
 rw[gx,qE,qN a];rfl
def B0r (h:C2 za w0 st E w Z B) {T ty e:TypeId} {x ix:Operand} {c u:C} {i:Int} {φ:Option Prop} {a9:IntKind} (H:RC w Z B c (Gw.ev E x)) (G:Gw.ev E ix= .int a9 i) (b:C0i st i c=some (φ,u)) (J:EQ φ)
 (D:∀s,(∃t y,u= .pf t y 0/\s=t.size)\/(∃k j,u= .elp k s j 0)->Hc P T e s=true) (Q:Cq st.nx c):Wu P st E w Z B ty (.indexAddr T x ix) (.one ⟨false,[u]⟩):=by
 unfold C0i at b;split at b
 . rename_i t M;cases b;obtain⟨n,l⟩:=J;have o:=D t.size (.inl ⟨t,_,rfl,rfl⟩);obtain⟨A,f,O,aj,ak,am,F⟩:=H;simp only[sI,vO]at O;have a1:=H3 (d:=t.dflt) n l;rcases F with F| ⟨N,U,ad,X,a8,Y,a0⟩
   . subst F;simp at l;omega
   subst X;have a2:=G5.get (λ_ _ h=>C6.length h) a0 a1;refine Gt (v:= .pointer (some ⟨N,U+i.toNat*t.size+0,none⟩)) (λr _=>?_) ⟨N,U+i.toNat*t.size,_,rfl,a8,L6 Y _ t.size,a2⟩ trivial;have:=B4c (P:=P) (w:=r) (ty:=ty) (sz:=t.size) O G o n l;rwa[J9]at this
 . rename_i k;split at b
   . rename_i t M a4;cases b;obtain⟨n,l⟩:=J;have o:=D t.size (.inr ⟨_,_,rfl⟩);obtain⟨ac,an,a7⟩:=B0n h a4;rcases a7.2 with⟨_,a5⟩ | ⟨g,f,ab,z,_⟩
     . rw[a5]at l;omega
     have I:Gw.ev E x= .slice (some ⟨g,0,none⟩) M.length f:=(show Gw.ev E x=B k from H).trans z;refine Gt (v:= .pointer (some ⟨g,i.toNat*t.size+0,none⟩)) (λr _=>?_) ⟨g,M.length,f,z,ω,rfl⟩ Q;have:=B4c (P:=P) (w:=r) (ty:=ty) (sz:=t.size) I G o n l;rwa[J9,sC]at this
   cases b
 . rename_i k sz a a3;cases b;obtain⟨n,l⟩:=J;have o:=D sz (.inr ⟨_,_,rfl⟩);obtain⟨A,aa,f,z,V,W,ae,af,ag,ah,ai,R⟩:=H;have a6:¬f=a.toNat:=ω
   rw[qL a6]at R;obtain⟨g,rfl⟩:∃g,A=some ⟨g,0,none⟩:=by
    cases A with
    |none=>have:=W rfl;omega
    |some x=>obtain⟨g,rfl⟩:=V x rfl;exact⟨g,rfl⟩
   have I:Gw.ev E x= .slice (some ⟨g,a.toNat*sz,none⟩) (a3.toNat-a.toNat) (f-a.toNat):=by
    rw[R,wJ,J9,sC]
   refine Gt (v:= .pointer (some ⟨g,(a+i).toNat*sz+0,none⟩)) (λr _=>?_) ⟨g,aa,f,z,ω,rfl⟩ Q;have:=B4c (P:=P) (w:=r) (ty:=ty) (sz:=sz) I G o n ω;rw[J9]at this;rw[show(a+i).toNat*sz+0=a.toNat*sz+i.toNat*sz by rw[<-uX,(ω:(a+i).toNat=a.toNat+i.toNat),tJ]];exact this
 cases b
def C0q (h:C2 za w0 st E w Z B) {T ty e:TypeId} {s:Nat} {x:Operand} {c:C} {n:Int} (d:RC w Z B c (Gw.ev E x)) (a:B6a st c=some n) (F:Hc P T e s=true) (z:∀k,c≠ .mp k) (A:∀s,c≠ .val .str s):
 Wu P st E w Z B ty (.call ⟨.builtin .len, #[x], #[T]⟩) (.one ⟨false,[.val (.int .i64) n]⟩):=by
 have mk:∀(f:Option Addr) (m b:Nat),Gw.ev E x= .slice f m b->m<=maxLen->Wu P st E w Z B ty (.call ⟨.builtin .len, #[x], #[T]⟩) (.one ⟨false,[.val (.int .i64) (m:Int)]⟩):=λf m b g hm=>
  Gt (λa0 _=>C5r g F) ⟨rfl,by
   unfold FT;have V:i64.min= -9223372036854775808:=δ
   have W:i64.max=9223372036854775807:=δ
   simp only[maxLen]at hm;omega⟩ trivial
 unfold B6a at a;split at a
 . cases a;obtain⟨f,b,j,u,y,_⟩:=d;simp only[sI,vO]at j;exact mk f _ b j (qZ u y)
 . rename_i k;split at a
   . rename_i Y X v;cases a;obtain⟨H,a1,D⟩:=B0n h v;have d:Gw.ev E x=B k:=d;rcases D.2 with⟨g,a⟩ | ⟨I,b,G,i,_,_,r,t,_⟩
     . rw[a];exact mk none 0 0 (d.trans g) (rS _)
     exact mk _ _ b (d.trans i) (qZ r t)
   cases a
 . exact absurd rfl (z _)
 . cases a;exact mk none 0 0 (show _= _ from d.1) (rS _)
 . rename_i k sz o l;cases a;obtain⟨f,n,b,i,R,U,J,M,N,O,Q,g⟩:=d;have:=mk _ _ _ g ω;rwa[(ω:((l.toNat-o.toNat:Nat):Int)=l-o)]at this
 . exact absurd rfl (A _)
 cases a
end
section
variable {za:Zn} {w0 w:World} {Z:Nat->Prop} {B:Nat->Value} {st:St} {E:G9} {P:Program}
def A4z {T e ty:TypeId} {x:Operand} {lo d:Option Operand} {a:Option Addr} {len b size l h:Nat} (u:Gw.ev E x= .slice a len b) (s:Hc P T e size=true)
 (c:match lo with|none=>l=0|some o=>∃k,Gw.ev E o= .int k (l:Int)) (hhi:match d with|none=>h=len|some o=>∃k,Gw.ev E o= .int k (h:Int)) (hlh:l<=h) (hhc:h<=b) (w:World):
 Gw.D9 P E ty (.slice T x lo d none) w (.slice (if b=l then a else a.map (·.add (l*size))) (h-l) (b-l)) w:=λ_ _ _ _=>by
 obtain⟨t,v⟩:=Ji s;have j:=Gw.Fj (P:=P) (w:=w) v;have f:(l:Int)<=(h:Int):=ω
 have g:(h:Int)<=(b:Int):=ω
 have n:(Instr.sliceBounds true len b (lo.map (Gw.ev E)) (d.map (Gw.ev E)) none).run P w= .ok (l,h,b) w:=by
  unfold Instr.sliceBounds;cases d with
  |none=>
   simp only at hhi;subst hhi;cases lo with
   |none=>simp only at c;subst c;simp[go_sem]
   |some o=>obtain⟨k,i⟩:=c;simp[Instr.sliceBound,asIntOf,i,f,hlh,go_sem]
  |some z=>
   obtain⟨y,i⟩:=hhi;cases lo with
   |none=>simp only at c;subst c;simp[Instr.sliceBound,asIntOf,i,g,hhc,go_sem]
   |some o=>obtain⟨k,r⟩:=c;simp[Instr.sliceBound,asIntOf,r,i,f,g,hlh,hhc,go_sem]
 simp only[execOp,u];unfold Instr.sliceAt Instr.slice;simp only[Sem.run_bind,run_underlying t,Result.andThen_ok,Option.map_none,n,j,Sem.run_pure]
def A8i (E:G9):Option Operand->Option Int->Prop
 |none,i=>i=none
 |some o,i=>∃k j,i=some j/\Gw.ev E o= .int k j
def A4m {t:Ty} {a:Option Addr} {n c:Nat} {l:List t.den} {L H:Int} (h:C6 (.sl t) w Z [.slice a n c] l) (D:0<=L) (E:L<=H) (r:H<=(n:Int)):
 C6 (.sl t) w Z [.slice (if c=L.toNat then a else a.map (·.add (L.toNat*t.size))) (H.toNat-L.toNat) (c-L.toNat)] ((l.take H.toNat).drop L.toNat):=by
 obtain⟨A,B,i,F,I,x,d⟩:=h;simp only[sI,vO,Value.slice.injEq]at i;obtain⟨rfl,rfl,rfl⟩:=i;have f:((l.take H.toNat).drop L.toNat).length=H.toNat-L.toNat:=by simp;omega
 refine⟨_,_,by rw[f],by rw[f];omega,ω,λb=>?_,?_⟩
 . split at b
   . omega
   have:=x (by simpa using b);omega
 by_cases G:H.toNat=L.toNat
 . left;exact qM (by rw[f];omega)
 right;rcases d with d| ⟨k,z,g,s,b,u,v⟩
 . subst d;simp at r;omega
 subst s;have o:=G5.drop (λ_ _ h=>C6.length h) L.toNat (G5.take (λ_ _ h=>C6.length h) H.toNat v);refine⟨k,z+L.toNat*t.size,(g.take (H.toNat*t.size)).drop (L.toNat*t.size),?_,b,?_,o⟩
 . rw[qL ω,wJ,J9]
 have j:=L6 u 0 (H.toNat*t.size);rw[tO,tJ]at j;have y:=L6 j (L.toNat*t.size) ((g.take (H.toNat*t.size)).drop (L.toNat*t.size)).length;rwa[vF]at y
def oJ (h:C2 za w0 st E w Z B) {T ty e:TypeId} {x:Operand} {lo j:Option Operand} {o n:Option Int} {c u:C} {φ:Option Prop} (d:RC w Z B c (Gw.ev E x)) (g:A1v st o n c=some (φ,u)) (ai:Cq st.nx c) (a2:EQ φ)
 (G:A8i E lo o) (F:A8i E j n)
 (a0:∀s,(∃t y,u= .val (.sl t) y/\s=t.size)\/(∃k lo j,u= .win k s lo j)->Hc P T e s=true):Wu P st E w Z B ty (.slice T x lo j none) (.one ⟨false,[u]⟩):=by
 unfold A1v at g;split at g
 . rename_i t l;cases g;have O:=a0 t.size (.inl ⟨t,_,rfl,rfl⟩);obtain⟨V,W,J⟩:=a2;obtain⟨i,a,Y,an,ap,ag,M⟩:=d;simp only[sI,vO]at Y;generalize f:o.getD 0=L at*;generalize z:n.getD (l.length:Int)=H at*;have N:((l.take H.toNat).drop L.toNat).length=H.toNat-L.toNat:=by simp;omega
   refine Gt (λR _=>A4z (l:=L.toNat) (h:=H.toNat) Y O ?_ ?_ ω ω R) ?_ trivial
   . cases lo with
     |none=>rw[show o=none from G]at f;simp at f;simp only;omega
     |some r=>obtain⟨k,ab,b,Q⟩:=G;subst b;simp at f;subst f;exact⟨k,by rw[Q];congr 1;omega⟩
   . cases j with
     |none=>rw[show n=none from F]at z;simp at z;simp only;omega
     |some r=>obtain⟨k,ab,b,Q⟩:=F;subst b;simp at z;subst z;exact⟨k,by rw[Q];congr 1;omega⟩
   refine⟨_,_,by rw[N],by rw[N];omega,ω,λI=>?_,?_⟩
   . split at I
     . omega
     have:=ag (by simpa using I);omega
   by_cases ao:H.toNat=L.toNat
   . left;exact qM (by rw[N];omega)
   right;rcases M with M| ⟨a3,r,U,a9,I,aa,ac⟩
   . subst M;simp at J;omega
   subst a9;have b:=G5.drop (λ_ _ h=>C6.length h) L.toNat (G5.take (λ_ _ h=>C6.length h) H.toNat ac);refine⟨a3,r+L.toNat*t.size,(U.take (H.toNat*t.size)).drop (L.toNat*t.size),?_,I,?_,b⟩
   . rw[qL ω,wJ,J9]
   have a1:=L6 aa 0 (H.toNat*t.size);rw[tO,tJ]at a1;have aj:=L6 a1 (L.toNat*t.size) ((U.take (H.toNat*t.size)).drop (L.toNat*t.size)).length;rwa[vF]at aj
 . rename_i k;split at g
   . rename_i t am l ad;cases g;have O:=a0 t.size (.inr ⟨_,_,_,rfl⟩);obtain⟨V,W,J⟩:=a2;have f:=h.locs k;rw[ad]at f;obtain⟨aq,ah,_,_⟩:=f;have a8:Gw.ev E x=B k:=d;generalize D:o.getD 0=L at*;generalize A:n.getD (l.length:Int)=H at*;obtain⟨i,a,X,a4,a7,a5,a6⟩:∃i a,B k= .slice i l.length a/\(∀x,i=some x->∃v,x=⟨v,0,none⟩)/\(i=none->a=0)/\l.length<=a/\a<=maxLen:=by
      rcases ah.2 with⟨Q,ae⟩ | ⟨v,a,ak,Q,_,_,af,ab,_⟩
      . exact⟨none,0,by rw[Q,ae],λx d=>(by cases d),λ_=>rfl,ω,rS _⟩
      exact⟨some ⟨v,0,none⟩,a,Q,λx d=>⟨v,by cases d;rfl⟩,λd=>(by cases d),af,ab⟩
     refine Gt (λR _=>A4z (l:=L.toNat) (h:=H.toNat) (a8.trans X) O ?_ ?_ ω ω R) ⟨i,l.length,a,X,a4,a7,V,W,J,a5,a6,rfl⟩ ai
     . cases lo with
       |none=>rw[show o=none from G]at D;simp at D;simp only;omega
       |some r=>obtain⟨k,ab,b,Q⟩:=G;subst b;simp at D;subst D;exact⟨k,by rw[Q];congr 1;omega⟩
     cases j with
     |none=>rw[show n=none from F]at A;simp at A;simp only;omega
     |some r=>obtain⟨k,ab,b,Q⟩:=F;subst b;simp at A;subst A;exact⟨k,by rw[Q];congr 1;omega⟩
   cases g
 cases g
def B5v (P:Program) (T:TypeId) (k:IntKind):Bool:=match P.underlying T with|some (.int k')=>decide (k=k') | _=>false
def cV {T:TypeId} {k:IntKind} (h:B5v P T k=true):P.underlying T=some (.int k):=by
 unfold B5v at h;split at h
 . rename_i b a;have:=qA h;subst this;exact a
 cases h
def B4y {T T' ty:TypeId} {x:Operand} {k k':IntKind} {a:Int} (b:RC w Z B (.val (.int k) a) (Gw.ev E x)) (c:∃d,P.underlying T=some d) (f:B5v P T' k'=true):Wu P st E w Z B ty (.convert T T' x) (.one ⟨false,[.val (.int k') (k'.wrap a)]⟩):=by
 obtain⟨b,_⟩:=b;simp only[sI,vO]at b;obtain⟨d,g⟩:=c;have h:=cV f;refine Gt (v:= .int k' (k'.wrap a)) (λi _=>?_) ⟨rfl,Ng _ _⟩ trivial;intro _ _ _ _;simp[execOp,convert,b,run_underlying g,run_underlying h,Conv.intToInt,go_sem]
def unC (op:UnOp):C->Option C
 | .val .bool b=>match op with
  | .not=>some (.val .bool (!b))
  | _=>none
 | .val (.int k) a=>match op with
  | .neg=>some (.val (.int k) (k.wrap (-a)))
  | .xor=>some (.val (.int k) (k.wrap (BitVec.ofInt k.bits (if k.signed then -1 else k.max)^^^BitVec.ofInt k.bits a).toNat))
  | _=>none
 | _=>none
def C5m {op:UnOp} {T ty:TypeId} {x:Operand} {c b:C} (a:RC w Z B c (Gw.ev E x)) (h:unC op c=some b):Wu P st E w Z B ty (.unOp op T x) (.one ⟨false,[b]⟩):=by
 unfold unC at h;split at h
 . split at h
   . cases h;rename_i f _;have a:Gw.ev E x= .bool f:=by simpa[RC,C6]using a
     exact Gt (λd _=>C5v a) rfl trivial
   cases h
 . obtain⟨a,_⟩:=a;simp only[sI,vO]at a;split at h
   . cases h;exact Gt (λd _=>C5u a) ⟨rfl,Ng _ _⟩ trivial
   . cases h;refine Gt (v:= .int _ _) (λd _ _ _ _ _=>by simp[execOp,a,Op.unary,Op.intBits,go_sem]) ⟨rfl,Ng _ _⟩ trivial
   cases h
 cases h
def Ys (place:Nat->Option (Nat×Nat)):List C->List (Nat×List C)->Option (List C)
 |a,[]=>some a
 |a,(i,c)::r=>match place i with
  |none=>none
  |some (b,sz)=>bif Nat.beq c.length sz&&Nat.ble (b+sz) a.length then Ys place (a.take b++c++a.drop (b+sz)) r else none
def Ff:C->Bool
 | .dead=>false
 | _=>true
def C6.one1 {t:Ty} {v:Value} {x:t.den} (h:C6 t w Z [v] x):v.oneCell'=true:=C6.oneCell h v (by simp)
def RC.one (h:C2 za w0 st E w Z B) {c:C} {v:Value} (b:Ff c=true) (a:RC w Z B c v):v.oneCell'=true:=by
 cases c with
 |val t x=>exact C6.one1 a
 |row k=>rw[show v= _ from a];exact h.bone k
 |box k f=>obtain⟨d,_,e⟩:=a;rw[e];rfl
 |elp k sz i f=>obtain⟨d,_,_,_,_,e⟩:=a;rw[e];rfl
 |win k sz f d=>obtain⟨_,_,_,_,_,_,_,_,_,_,_,e⟩:=a;rw[e];rfl
 |pf t x f=>obtain⟨d,_,_,e,_⟩:=a;rw[e];rfl
 |mp k=>rw[show v= _ from a];exact h.bone k
 |fn f d=>rw[show v= _ from a];rfl
 |fv _ _ _ _ _ _=>obtain⟨_,_,e,_⟩:=a;rw[e];rfl
 |raw d=>rw[a.1];exact a.2
 |dead=>cases b
end
end Go.Vc
