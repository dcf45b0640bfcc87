/- Part. -/
import Derived.Orders
import Derived.OrdersHeld
import Derived.Below
import Derived.KernelRfl
import Derived.Deep.LoopGhost
import Derived.WalkKit
import Derived.OwnWalk
import Derived.Maps.RangeRun
import Derived.DeepKeys3
import Derived.Laws.Strings
set_option linter.all false
namespace Go
theorem ω {p:Prop} (h:p:=by omega):p:=h
theorem δ {p:Prop} (h:p:=by decide):p:=h
def qA:=@of_decide_eq_true
def qB:=@of_decide_eq_false
def qC:=@Bool.and_eq_true
def qD:=@Nat.eq_of_beq_eq_true
def qE:=@List.getD_eq_getElem?_getD
def qF:=@Int.natCast_nonneg
def qG:=@Int.le_refl
def qH:=@Option.bind_eq_bind
def qI:=@List.mem_cons_of_mem
def qJ:=@List.mem_singleton
def qK:=@Option.map_eq_some_iff
def qL:=@if_neg
def qM:=@List.getElem?_eq_getElem
def qN:=@List.eq_nil_of_length_eq_zero
def qO:=@Nat.le_of_ble_eq_true
def qP:=@List.take_of_length_le
def qQ:=@Int.toNat_natCast
def qR:=@if_pos
def qS:=@cond_true
def qT:=@List.length_set
def qU:=@List.mem_append
def qV:=@Nat.le_refl
def qW:=@List.mem_cons
def qX:=@Nat.le_trans
def qY:=@List.length_singleton
def qZ:=@List.length_take
def rA:=@decide_eq_true
def rB:=@Decidable.byContradiction
def rC:=@decide_eq_false
def rD:=@List.mem_cons_self
def rE:=@Bool.or_eq_false_iff
def rF:=@Option.some.injEq
def rG:=@List.length_replicate
def rH:=@Rat.add_zero
def rI:=@cond_false
def rJ:=@Nat.lt_of_lt_of_le
def rK:=@List.length_cons
def rL:=@Nat.mul_le_mul_right
def rM:=@decide_eq_false_iff_not
def rN:=@Bool.not_eq_true'
def rO:=@List.mem_of_mem_take
def rP:=@List.take_add_one
def rQ:=@List.length_append
def rR:=@Nat.lt_succ_self
def rS:=@Nat.zero_le
def rT:=@List.getElem?_eq_none
def rU:=@decide_eq_true_eq
def rV:=@Array.getElem?_eq_some_iff
def rW:=@List.map_cons
def rX:=@List.getElem?_take_of_lt
def rZ:=@Nat.pow_le_pow_right
def sA:=@congrArg
def sB:=@Array.length_toList
def sC:=@Nat.pow_succ
def sD:=@Nat.zero_add
def sE:=@List.mem_append_left
def sF:=@Decidable.not_not
def sG:=@List.drop_of_length_le
def sH:=@Nat.lt_or_ge
def sI:=@Nat.mul_le_mul_left
def sJ:=@List.cons.injEq
def sK:=@Int.fdiv_eq_ediv_of_nonneg
def sL:=@Int.mul_le_mul_of_nonneg_right
def sM:=@Nat.mul_assoc
def sN:=@Nat.mul_comm
def sO:=@Rat.zero_mul
def sP:=@List.nodup_cons
def sQ:=@List.mem_append_right
def sR:=@List.getElem?_eq_some_iff
def sS:=@List.length_drop
def sU:=@List.getElem?_set_self
def sV:=@Int.toNat_of_nonneg
def sW:=@List.mem_of_getElem?
def sX:=@List.pairwise_append
def sY:=@Int.ofNat_lt
def sZ:=@List.nodup_append
def tA:=@Rat.mul_zero
def tB:=@Rat.zero_add
def tC:=@List.getElem?_set_ne
def tD:=@Nat.mul_add
def tF:=@Nat.pos_of_ne_zero
def tG:=@List.length_map
def tH:=@List.all_eq_true
def tI:=@Nat.min_eq_left
def tJ:=@Array.getElem?_setIfInBounds
def tK:=@Nat.add_zero
def tL:=@Rat.sub_eq_add_neg
def tN:=@List.all_cons
def tO:=@Int.mul_nonneg
def tP:=@List.drop_zero
def tS:=@List.getElem?_append_right
def tT:=@List.mem_map
def tU:=@Nat.div_lt_iff_lt_mul
def tV:=@Nat.pow_pos
def tW:=@Nat.mod_eq_of_lt
def tX:=@Bool.or_eq_true
def tY:=@Nat.ne_of_lt
def tZ:=@Nat.succ_mul
def uA:=@Array.toArray_toList
def uB:=@Int.mul_le_mul_of_nonneg_left
def uC:=@List.append_assoc
def uD:=@List.getElem?_replicate
def uE:=@List.take_append_drop
def uF:=@Rat.mul_assoc
def uG:=@Nat.not_lt_zero
def uH:=@List.pairwise_iff_getElem
def uI:=@Nat.le_succ
def uJ:=@Nat.mul_le_mul
def uK:=@Nat.ne_of_beq_eq_false
def uL:=@Rat.mul_one
def uM:=@Nat.div_eq_of_lt
def uN:=@Int.tmod_eq_emod_of_nonneg
def uO:=@Int.eq_ofNat_of_zero_le
def uP:=@List.getElem?_cons_succ
def uQ:=@Rat.div_def
def uR:=@Rat.one_mul
def uS:=@Nat.add_assoc
def uT:=@Nat.lt_irrefl
def uU:=@Array.getElem?_eq_getElem
def uV:=@Int.natCast_mul
def uW:=@Int.sign_eq_one_of_pos
def uX:=@Nat.add_mul
def uY:=@Nat.lt_succ_of_lt
def uZ:=@Nat.pow_add
def vA:=@Int.dvd_mul_of_dvd_right
def vB:=@Int.natAbs_natCast
def vC:=@beq_eq_false_iff_ne
def vD:=@List.take_length
def vE:=@List.mem_iff_getElem
def vF:=@List.getElem?_append_left
def vG:=@Option.isNone_iff_eq_none
def vH:=@Bool.false_eq_true
def vJ:=@Int.natAbs_mul
def vK:=@List.length_pos_iff
def vL:=@Nat.le_div_iff_mul_le
def vM:=@List.mem_of_mem_drop
def vN:=@Nat.eq_zero_or_pos
def vO:=@and_true
def vP:=@List.not_mem_nil
def vQ:=@Nat.div_div_eq_div_mul
def vR:=@decide_eq_decide
def vS:=@List.mem_map_of_mem
def vT:=@List.getElem?_map
def vV:=@List.getElem?_set
def vW:=@List.drop_drop
def vX:=@List.append_nil
def vY:=@List.map_append
def vZ:=@Nat.add_comm
def wA:=@List.getElem?_take
def wB:=@List.getElem_inj
def wC:=@List.getElem_mem
def wD:=@List.pairwise_singleton
def wE:=@Option.bind_some
def wF:=@Option.getD_some
def wG:=@if_true
def wH:=@Bool.false_or
def wI:=@Nat.le_of_lt
def wJ:=@Nat.mod_lt
def wK:=@Rat.neg_zero
def wL:=@List.getElem?_range
def wM:=@Array.getElem?_toList
def wN:=@Bool.and_eq_false_iff
def wO:=@Rat.inv_mul_cancel
def wP:=@Rat.mul_inv_cancel
def wQ:=@Nat.mul_zero
def wR:=@List.Perm.refl
def wS:=@List.mapM_cons
def wT:=@List.nodup_nil
def wU:=@Nat.add_le_add_right
def wV:=@List.mem_singleton_self
def wW:=@List.pairwise_map
def wX:=@Nat.le_mul_of_pos_right
def wY:=@Int.natCast_add
def wZ:=@List.nil_append
def xA:=@Nat.div_add_mod
def xB:=@Nat.div_le_self
def xC:=@Option.map_some
def xD:=@Nat.gcd_comm
def xE:=@Nat.mul_lt_mul_of_pos_right
def xF:=@Nat.mul_one
def xG:=@Nat.one_mul
def xH:=@Rat.add_assoc
def xI:=@List.any_eq_true
def xJ:=@Int.sign_eq_neg_one_of_neg
def xK:=@List.getElem?_drop
def xL:=@Nat.lt_of_mul_lt_mul_right
def xM:=@if_false
def xN:=@Int.natAbs_ediv_le_natAbs
def xO:=@List.drop_eq_getElem_cons
def xP:=@Int.natCast_pow
def xQ:=@Option.some.inj
def xR:=@Int.le_of_lt
def xS:=@List.ext_getElem?
def xT:=@List.length_range
def xU:=@Nat.le_succ_of_le
def xV:=@Nat.zero_mul
def xW:=@Int.mul_ediv_cancel_left
def xX:=@Iff.rfl
def xY:=@Nat.mul_div_cancel_left
def xZ:=@BitVec.toNat_ofInt
def yA:=@Int.ofNat_dvd_left
def yB:=@Nat.beq_refl
def yC:=@Nat.lt_of_le_of_lt
def yD:=@Rat.add_comm
def yE:=@Rat.num_divInt_den
def yF:=@List.length_nil
def yG:=@List.mem_filter
def yH:=@List.any_cons
def yI:=@Int.mul_ediv_add_emod
def yJ:=@List.getElem?_toArray
def yK:=@Nat.add_mul_div_right
def yL:=@Array.getD_eq_getD_getElem?
def yM:=@List.flatMap_cons
def yN:=@List.idxOf_lt_length_of_mem
def yO:=@Nat.gcd_dvd_right
def yP:=@Int.natAbs_neg
def yQ:=@Int.tdiv_eq_ediv_of_nonneg
def yR:=@List.mem_range
def yS:=@Rat.mkRat_zero
def yT:=@Array.toList_inj
def yU:=@List.cons_append
def yV:=@Nat.sub_self
def yW:=@Rat.mkRat_eq_div
def yX:=@Rat.mul_comm
def yY:=@Array.mapM_eq_mapM_toList
def yZ:=@Int.mul_neg_of_pos_of_neg
def zA:=@Int.sign_eq_zero_iff_zero
def zB:=@Nat.add_mul_mod_self_left
def zC:=@List.drop_set_of_lt
def zD:=@List.take_set_of_le
def zE:=@List.toList_toArray
def zF:=@Nat.div_mul_le_self
def zG:=@Array.getElem?_replicate
def zH:=@Array.setIfInBounds_comm
def zI:=@Bool.not_true
def zJ:=@Int.ediv_nonpos_of_nonneg_of_nonpos
def zK:=@Option.isSome_iff_exists
def zL:=@Int.tmod_nonneg
def zM:=@List.drop_left'
def zN:=@Nat.mul_ne_zero
def zO:=@Bool.not_eq_false'
def zP:=@Int.emod_lt_of_pos
def zQ:=@Int.mul_nonneg_of_nonpos_of_nonpos
def zS:=@List.Pairwise.take
def zT:=@List.mem_replicate
def zU:=@Nat.mul_right_comm
def zV:=@List.findIdx?_eq_some_iff_getElem
def zW:=@Int.gcd_dvd_right
def zX:=@Int.lt_trichotomy
def zY:=@Int.natAbs_add_le
def zZ:=@List.any_eq_false
def g0a:=@List.size_toArray
def g0b:=@List.take_zero
def g0c:=@Nat.le_mul_of_pos_left
def g0d:=@Nat.mul_left_comm
def g0e:=@or_false
def g0f:=@Nat.mul_div_mul_right
def g0g:=@Int.gcd_dvd_left
def g0h:=@List.ext_getElem
def g0i:=@List.isEmpty_iff
def g0j:=@List.take_append
def g0k:=@Rat.divInt_ofNat
def g0l:=@Bool.true_and
def g0m:=@Int.ofNat.inj
def g0n:=@Prod.mk.injEq
def g0o:=@Nat.shiftLeft_add_eq_or_of_lt
def g0p:=@Int.ediv_nonneg
def g0q:=@List.take_left'
def g0r:=@Rat.intCast_mul
def g0s:=@Rat.mul_eq_zero
def g0t:=@Rat.num_eq_zero
def g0u:=@Array.toList_filter
def g0v:=@Array.toList_modify
def g0w:=@List.filter_eq_self
def g0x:=@List.getElem_of_mem
def g0y:=@List.mergeSort_perm
def g0z:=@Rat.mkRat_mul_mkRat
def g1a:=@getElem!_pos
def g1b:=@Bool.false_and
def g1c:=@Bool.not_false
def g1d:=@Int.natAbs_sign_of_ne_zero
def g1e:=@List.Pairwise.imp₂
def g1f:=@List.drop_take
def g1g:=@List.getElem_idxOf
def g1h:=@List.perm_ext_iff_of_nodup
def g1i:=@List.take_take
def g1j:=@Nat.gcd_zero_right
def g1k:=@Option.toList_some
def g1l:=@Rat.mkRat_self
def g1m:=@beq_iff_eq
def g1n:=@List.findIdx?_eq_none_iff
def g1o:=@Array.toList_push
def g1p:=@List.getElem_take
def g1q:=@List.length_erase_of_mem
def g1r:=@Nat.gcd_pos_of_pos_right
def g1s:=@Array.toList_map
def g1t:=@List.filter_cons
def g1u:=@List.getElem?_cons_zero
def g1v:=@List.getElem_set
def g1w:=@List.zipIdx_cons
def g1x:=@Nat.add_sub_cancel_left
def g1y:=@Nat.gcd_pos_of_pos_left
def g1z:=@Option.bind_eq_some_iff
def g2a:=@Option.bind_none
def g2b:=@Option.getD_none
def g2c:=@Array.getElem?_eq_none
def g2d:=@Bool.true_or
def g2e:=@Int.ediv_lt_iff_lt_mul
def g2f:=@Int.le_ediv_iff_mul_le
def g2g:=@Int.le_trans
def g2h:=@Int.mul_comm
def g2i:=@List.length_eq_one_iff
def g2j:=@List.length_pos_of_mem
def g2k:=@List.map_nil
def g2l:=@Nat.pow_zero
def g2m:=@Nat.sub_zero
def g2n:=@decide_false
def g2o:=@Int.emod_nonneg
def g2p:=@List.range_succ
def g2q:=@Nat.le_max_left
def g2r:=@Nat.min_le_left
def g2s:=@Nat.mul_add_div
def g2t:=@Nat.mul_add_mod
def g2u:=@Rat.den_intCast
def g2v:=@Rat.num_intCast
def g2w:=@Array.getElem?_modify
def g2x:=@List.Perm.append_left
def g2y:=@List.set_append_right
def g2z:=@List.singleton_append
def g3a:=@Array.toList_extract
def g3b:=@Decidable.of_not_not
def g3c:=@Int.dvd_add
def g3d:=@Int.ediv_emod_unique
def g3e:=@List.drop_left
def g3f:=@List.mem_erase_of_ne
def g3g:=@List.range_eq_range'
def g3h:=@List.take_left
def g3i:=@Nat.add_le_add
def g3j:=@Nat.add_mul_div_left
def g3k:=@Nat.div_one
def g3l:=@Nat.gcd_rec
def g3m:=@Nat.mul_pos
def g3n:=@Nat.pow_lt_pow_right
def g3o:=@Nat.pow_mul
def g3p:=@Rat.add_mul
def g3q:=@Rat.den_pos
def g3r:=@or_congr
def g3s:=@Int.natCast_eq_zero
def g3t:=@Int.neg_ediv_of_dvd
def g3u:=@List.map_congr_left
def g3v:=@Int.toNat_mul
def g3w:=@List.cons.inj
def g3x:=@Nat.le_of_dvd
def g3y:=@Array.foldl_toList
def g3z:=@List.filter_append
def g4a:=@List.pairwise_cons
def g4b:=@Nat.lt_of_le_of_ne
def g4c:=@Nat.lt_or_gt_of_ne
def g4d:=@Nat.mul_div_cancel
def g4e:=@Rat.add_neg_cancel
def g4f:=@Bool.or_true
def g4g:=@Decidable.em
def g4h:=@Int.le_total
def g4i:=@Int.lt_or_le
def g4j:=@Int.sign_mul
def g4k:=@List.map_map
def g4l:=@List.set_set
def g4m:=@List.take_sublist
def g4n:=@Nat.lt_trichotomy
def g4o:=@Nat.succ_pos
def g4p:=@Nat.zero_div
def g4q:=@ne_eq
def g4r:=@Int.natCast_ediv
def g4s:=@List.drop_append
def g4t:=@List.perm_middle
def g4u:=@List.range'_succ
def g4v:=@Nat.gcd_dvd_left
def g4w:=@Nat.le_add_right
def g4x:=@Nat.le_max_right
def g4y:=@Nat.shiftLeft_eq
def g4z:=@not_or
def g5a:=@Nat.mod_one
def g5b:=@Rat.mul_add
def g5c:=@Rat.neg_den
def g5d:=@Rat.neg_num
def g5e:=@decide_true
def g5f:=@and_congr
end Go
namespace Go.Gw
open Go Go.RowKit
open Go.IntKind (i64)
abbrev G8:=Nat->Value
def upd (E:G8) (d:Nat) (v:Value):G8:=λt=>bif Nat.beq t d then v else E t
def aR (E:G8):Option Tmp->Value->G8
 |some d,v=>upd E d v
 |none,_=>E
def ev (E:G8):Operand->Value
 | .tmp t=>E t
 | .const v=>v
 | .global g=> .pointer (some ⟨g,0,none⟩)
 | .func f=> .func (.func f) #[] #[]
def E9 {t d:Nat} (h:t≠d):Nat.beq t d=false:=by
 cases a:Nat.beq t d with
 |false=>rfl
 |true=>exact absurd (qD a) h
def C2 (E:G8) (d:Nat) (v:Value):upd E d v d=v:=by simp[upd]
def C5 (E:G8) (d t:Nat) (v:Value) (h:t≠d):upd E d v t=E t:=by
 have:Nat.beq t d=false:=E9 h;simp[upd,this]
structure C9 (n:Nat) (a:Act) (E:G8):Prop where
 size:a.tmps.size=n
 get:∀t,a.tmps.getD t undef=E t
 defers:a.defers= []
def C9.ev {n:Nat} {a:Act} {E:G8} (h:C9 n a E):a.eval=Gw.ev E:=by
 funext x;cases x with
 |tmp t=>exact h.get t
 | _=>rfl
def nP (n:Nat) (l:List Oper):Bool:=l.all λo=>match o.dst with|some d=>decide (d<n) |none=>true
def C9.put {n:Nat} {a:Act} {E:G8} (h:C9 n a E) (o:Option Tmp) (v:Value) (g:∀d,o=some d->d<n):C9 n (a.put o v) (aR E o v):=by
 cases o with
 |none=>exact h
 |some d=>
  have c:=g d rfl;refine⟨by simp[Act.put,h.size],λt=>?_,h.defers⟩;have i:=h.size;have f:=h.get t;by_cases b:t=d
  . subst b;simp[Act.put,aR,C2,tJ,i,c]
  simp only[aR,C5 _ _ _ _ b];rw[<-f];simp[Act.put,tJ,Ne.symm b]
def Bc (all:List Oper) (E:G8) (j:Nat):Option Bool:=
 match(all[j]?).bind (·.dst)with
 |some t=>match E t with| .bool b=>some b| _=>none
 |none=>none
def E1 (all:List Oper) (o:Oper) (E:G8):Bool:=
 match o.guard with
 |none=>true
 |some (j,a)=>Bc all E j==some a
def C9.yielded {n:Nat} {a:Act} {E:G8} (h:C9 n a E) (all:List Oper) (j:Nat):yielded all.toArray a.tmps j=Bc all E j:=by
 unfold Go.yielded Bc;rw[yJ];cases d:(all[j]?).bind (·.dst)with
 |none=>simp
 |some t=>
  simp only[wE];have b:=h.get t;cases c:a.tmps[t]? with
  |none=>
   have:a.tmps.getD t undef=undef:=by simp[c]
   rw[this]at b;simp[<-b,undef]
  |some v=>
   have:a.tmps.getD t undef=v:=by simp[c]
   rw[this]at b;rw[<-b];cases v<;>rfl
def C9.wanted {n:Nat} {a:Act} {E:G8} (h:C9 n a E) (all:List Oper) (o:Oper):Region.wanted o (Go.yielded all.toArray a.tmps)=E1 all o E:=by
 unfold Region.wanted E1;cases o.guard with
 |none=>rfl
 |some g=>simp only[h.yielded]
def K4 (P:Program) (all:List Oper) (o:Oper) (next:G8->World->Prop) (E:G8) (w:World):Prop:=
 if E1 all o E=true then
  match(execOp (ev E) o).run P w with
  | .ok (.value v) a=>next (aR E o.dst v) a
  | .ok .skip a=>next (aR E o.dst undef) a
  | .ok (.enter f a) b=>Calls P f a b λe c=>∃v,e= .returned v/\next (aR E o.dst v) c
  | _=>False
 else next (aR E o.dst undef) w
def B9c (P:Program) (all:List Oper) (next:G8->World->Prop):List Oper->G8->World->Prop
 | []=>next
 |o::r=>K4 P all o (B9c P all next r)
def FJ (n:Nat) (Q:Exit->G8->World->Prop):Exit->Act->World->Prop:=λe a w=>∃E,C9 n a E/\Q e E w
def J3 {P:Program} {all:List Oper} {o:Oper} {next b:G8->World->Prop} (h:∀E w,next E w->b E w) {E:G8} {w:World} (hs:K4 P all o next E w):K4 P all o b E w:=by
 unfold K4 at*;split
 . rename_i a;simp only[a,wG]at hs;generalize (execOp (ev E) o).run P w=r at*;cases r with
   |ok m c=>
    cases m<;>simp only at hs|-
    case value v=>exact h _ _ hs
    case skip=>exact h _ _ hs
    case enter f args=>exact hs.mono λe d ⟨v,he,hn⟩=>⟨v,he,h _ _ hn⟩
   |halt x c=>exact hs
 rename_i a;simp only[a]at hs;exact h _ _ hs
def JK {P:Program} {n:Nat} {all:List Oper} (g:nP n all=true) {i:Nat} {o:Oper} (k:all[i]? =some o) {Q:Exit->Act->World->Prop} {K:Act->World->Prop} {next:G8->World->Prop}
 (c:∀a E w,C9 n a E->next E w->K a w) {a:Act} {E:G8} {w:World} (hr:C9 n a E) (h:K4 P all o next E w):wpOp P all.toArray Q i K a w:=by
 have b:∀d,o.dst=some d->d<n:=λd b=>by
  have:=tH.1 g o (sW k);simpa[b]using this
 unfold wpOp;simp only[yJ,k];rw[hr.wanted];unfold K4 at h;split
 . rename_i j;simp only[j,wG]at h;refine .inl ?_;unfold Oper.wp;rw[hr.ev];generalize (execOp (ev E) o).run P w=r at*;cases r with
   |ok m l=>
    cases m<;>simp only at h
    case value v=>exact c _ _ _ (hr.put _ _ b) h
    case skip=>exact c _ _ _ (hr.put _ _ b) h
    case enter f args=>
     refine h.mono λe s ⟨v,he,g⟩=>?_
     subst he;exact c _ _ _ (hr.put _ _ b) g
   |halt x l=>exact h.elim
 rename_i j;simp only[j]at h;exact c _ _ _ (hr.put _ _ b) h
def ZK {P:Program} {n:Nat} {all:List Oper} (d:nP n all=true) {Q:Exit->G8->World->Prop} :
 ∀(b:List Oper) (k:Nat),(∀j,b[j]? =all[k+j]?)->∀(a:Act) (E:G8) (w:World),C9 n a E->B9c P all (Q .normal) b E w->
  wpOps P all.toArray (FJ n Q) (List.range' k b.length) a w
 | [],_,_,a,E,w,c,h=>⟨E,c,h⟩
 |o::b,k,c,a,E,w,l,h=>by
  have g:all[k]? =some o:=by simpa using(c 0).symm
  rw[rK,g4u,wpOps_cons];refine JK d g (λf E' s r i=>?_) l h;exact ZK d b (k+1) (λj=>by have:=c (j+1);simpa[uS,vZ 1 j]using this) f E' s r i
inductive iG where
 |done
 |q (i:Nat) (p:iG)
 |p (i:Nat) (p:iG)
 |e (i:Nat) (p:iG)
 |br (i:Nat) (p:iG) (j:Nat) (p':iG)
def H0 (tails:List Nat) (listed:Array Bool):Bool:=tails.any λi=>listed.getD i false
inductive Reach (ops:Array Oper) (j:Nat):Nat->Prop
 |one {oj:Oper} {e:Edge} :ops[j]? =some oj->e∈oj.after->Region.binds .any e=true->Reach ops j e.on
 |more {i:Nat} {oi:Oper} {e:Edge} :Reach ops j i->ops[i]? =some oi->e∈oi.after->Region.binds .any e=true->Reach ops j e.on
def A4y (all:List Oper) (i:Nat):List Nat:=match all[i]? with
 |some o=>(o.after.toList.filter λe=>Region.binds .any e).map (·.on)
 |none=> []
def A3x (all:List Oper):List Nat->List Nat->List Nat
 | [],s=>s
 |i::r,s=>A3x all r (bif s.contains i then s++(A4y all i).filter (λx=> !(s.contains x))else s)
def EL (all:List Oper) (a tails:List Nat):Bool:=
 tails.all λj=>(λs=>a.all λi=>s.contains i) (A3x all (List.range j).reverse (A4y all j))
def mF {all:List Oper} {i x:Nat} (h:x∈A4y all i):∃a e,all.toArray[i]? =some a/\e∈a.after/\Region.binds .any e=true/\e.on=x:=by
 unfold A4y at h;split at h
 . rename_i o f;obtain⟨e,d,rfl⟩:=tT.1 h;obtain⟨b,c⟩:=yG.1 d;exact⟨o,e,by rw[yJ];exact f,by simpa using b,c,rfl⟩
 cases h
def gH {all:List Oper} {j:Nat} :∀ {r s:List Nat},(∀x∈s,Reach all.toArray j x)->∀x∈A3x all r s,Reach all.toArray j x
 | [],_,h,x,a=>h x a
 |i::r,s,h,x,g=>by
  refine gH (r:=r) (λy a=>?_) x g;cases b:s.contains i with
  |false=>rw[b]at a;exact h y a
  |true=>
   rw[b]at a;simp only[qS,qU]at a;rcases a with a|a
   . exact h y a
   obtain⟨k,e,c,d,f,rfl⟩:=mF (yG.1 a).1;exact .more (h i (by simpa using b)) c d f
def AY {all:List Oper} {a tails:List Nat} (i:EL all a tails=true):∀(j:Nat) (b:Oper),all.toArray[j]? =some b->j∈tails->∀h∈a,Reach all.toArray j h:=by
 intro j b r g h f;have c:=tH.1 i j g;have d:=tH.1 c h f;refine gH (λx k=>?_) h (by simpa using d);obtain⟨s,e,l,n,o,rfl⟩:=mF k;exact .one l n o
def Qo (P:Program) (S:World->Prop) (all:List Oper) (o:Oper) (next:G8->World->Prop) (E:G8) (w:World):Prop:=
 (E1 all o E=true/\∃v,(∀a,S a->(execOp (ev E) o).run P a= .ok (.value v) a)/\next (aR E o.dst v) w)\/
 (E1 all o E=false/\next (aR E o.dst undef) w)
def eO (P:Program) (S:World->Prop) (all:List Oper) (tails:List Nat) (next:G8->World->Prop):iG->Bool->G8->World->Prop
 | .done,_=>next
 | .q i p,t=>λE w=>∃o,all[i]? =some o/\Qo P S all o (eO P S all tails next p t) E w
 | .p i p,t=>λE w=>∃o,all[i]? =some o/\Qo P (λ_=>True) all o (eO P S all tails next p t) E w
 | .e i p,t=>λE w=>∃o,all[i]? =some o/\K4 P all o (λE' a=>((t||tails.contains i)=true\/S a)/\eO P S all tails next p (t||tails.contains i) E' a) E w
 | .br i p j b,t=>λE w=>(∃o,all[i]? =some o/\K4 P all o (λE' a=>((t||tails.contains i)=true\/S a)/\eO P S all tails next p (t||tails.contains i) E' a) E w)/\
  (∃o,all[j]? =some o/\K4 P all o (λE' a=>((t||tails.contains j)=true\/S a)/\eO P S all tails next b (t||tails.contains j) E' a) E w)
section held
variable {P:Program} {ops:Array Oper} {Q:Exit->Act->World->Prop} {S:World->Prop} {heads tails:List Nat}
def Y9 (P:Program) (ops:Array Oper) (Q:Exit->Act->World->Prop) (S:World->Prop) (tails:List Nat):Nat->Array Bool->Act->World->Prop
 |0,listed,a,w=>Region.ready .any ops listed= []/\Q .normal a w
 |fuel+1,listed,a,w=>
  (Region.ready .any ops listed= []->Q .normal a w)/\∀i∈Region.ready .any ops listed,wpOp P ops Q i (λc b=>(H0 tails (listed.setIfInBounds i true)=true\/S b)/\Y9 P ops Q S tails fuel (listed.setIfInBounds i true) c b) a w
def bY:∀(fuel:Nat) (listed:Array Bool) (a:Act) (w:World),Y9 P ops Q S tails fuel listed a w->wpAny P .any ops Q fuel listed a w
 |0,_,_,_,h=>h
 |fuel+1,_,_,_,h=>⟨h.1,λi d=>wpOp_mono (λb f c=>bY fuel _ b f c.2) (h.2 i d)⟩
def A1e (ops:Array Oper) (listed:Array Bool):Prop:=∀(i:Nat) (a:Oper),ops[i]? =some a->listed.getD i false=true->∀e∈a.after,Region.binds .any e=true->listed.getD e.on false=true
def cC (ops:Array Oper) (heads tails:List Nat) (listed:Array Bool):Prop:=A1e ops listed/\(H0 tails listed=true->∀h∈heads,listed.getD h false=true)
def nC (ops:Array Oper) (n:Nat):A1e ops (Array.replicate n false):=λi b _ a=>by
 simp only[yL,zG]at a;split at a<;>cases a
def Reach.listed {ops:Array Oper} {listed:Array Bool} {j h:Nat} (d:A1e ops listed) (g:j∈Region.ready .any ops listed) (k:Reach ops j h):listed.getD h false=true:=by
 induction k with
 |one i f c=>
  obtain⟨_,l,a,b⟩:=mem_ready.1 g;rw[i]at a;cases a;exact b _ f c
 |more _ c b a f=>exact d _ _ c f _ b a
def GT {listed:Array Bool} {i:Nat} (h:listed.getD i true=false):listed.getD i false=false:=by
 rcases sH i listed.size with a|a
 . simp[a]at h|-;exact h
 simp[g2c a]
def J5 {listed:Array Bool} {i:Nat} (c:i∉tails):H0 tails (listed.setIfInBounds i true)=H0 tails listed:=by
 unfold H0;rw[Bool.eq_iff_iff,xI,xI];constructor
 . rintro⟨x,a,h⟩;have b:i≠x:=λe=>c (by rw[e];exact a)
   exact⟨x,a,by rw[getD_set_ne false b]at h;exact h⟩
 rintro⟨x,a,h⟩;have b:i≠x:=λe=>c (by rw[e];exact a)
 exact⟨x,a,by rw[getD_set_ne false b];exact h⟩
def Ea {listed:Array Bool} {i:Nat} (h:H0 tails listed=true):H0 tails (listed.setIfInBounds i true)=true:=by
 unfold H0 at*;rw[xI]at*;obtain⟨x,a,h⟩:=h;exact⟨x,a,getD_set_true h⟩
def cC.set (u:∀(j:Nat) (c:Oper),ops[j]? =some c->j∈tails->∀h∈heads,Reach ops j h) {listed:Array Bool} {j:Nat} (a:cC ops heads tails listed) (k:j∈Region.ready .any ops listed):cC ops heads tails (listed.setIfInBounds j true):=by
 obtain⟨_,c,o,t⟩:=mem_ready.1 k;refine⟨λs v b n e f d=>?_,λr h g=>?_⟩
 . by_cases i:s=j
   . subst i;rw[o]at b;cases b;exact getD_set_true (t e f d)
   rw[getD_set_ne false (Ne.symm i)]at n;exact getD_set_true (a.1 s v b n e f d)
 by_cases l:j∈tails
 . exact getD_set_true ((u j c o l h g).listed a.1 k)
 rw[J5 l]at r;exact getD_set_true (a.2 r h g)
def OE {i:Nat} {f:Oper} {v:Value} (z:ops[i]? =some f) (F:i∈heads) (Z:i∉tails) (J:∀(j:Nat) (o:Oper) cs b,ops[j]? =some o->o.op≠ .select cs b)
 (O:∀(j:Nat) (d:Oper),ops[j]? =some d->j∈tails->∀h∈heads,Reach ops j h)
 (W:∀c a w,Q (.panic c) (a.put f.dst v) w->Q (.panic c) a w):
 ∀(g:Nat) (listed:Array Bool) (a:Act) (w:World),cC ops heads tails listed->
  (∀j d,ops[j]? =some d->j≠i->listed.getD j true=false->(∀e∈d.after,Region.binds .any e=true->e.on≠i)->f.apart ops d=true)->
  i∈Region.ready .any ops listed->YieldsIf P ops S f v a->S w->
  Y9 P ops Q S tails g (listed.setIfInBounds i true) (a.put f.dst v) w->Y9 P ops Q S tails (g+1) listed a w:=by
 intro g
 induction g with
 |zero=>
  intro listed a w _ _ n r k H;refine⟨λh=>(by rw[h]at n;cases n),λj hj=>?_⟩;by_cases l:j=i
  . subst l;exact r.wpOp z k ⟨.inr k,H⟩
  have:=ready_mono hj l;rw[H.1]at this;cases this
 |succ g a5=>
  intro listed a w y E u R D H;have B:listed.getD i false=false:=GT (mem_ready.1 u).1;refine⟨λh=>(by rw[h]at u;cases u),λj hj=>?_⟩;by_cases n:j=i
  . subst n;exact R.wpOp z D ⟨.inr D,H⟩
  obtain⟨I,d,t,X⟩:=mem_ready.1 hj;have a3:∀e∈d.after,Region.binds .any e=true->e.on≠i:=λe he hb heq=>by
   have l:=X e he hb;rw[heq]at l;rw[B]at l;cases l
  have A:j∉tails:=λA=>by
   have:=(O j d t A i F).listed y.1 hj;rw[B]at this;cases this
  have a4:H0 tails listed=false:=by
   cases M:H0 tails listed with
   |false=>rfl
   |true=>have:=y.2 M i F;rw[B]at this;cases this
  have l:=H.2 j (ready_mono hj n);have V:=wpOp_putIf t (E j d t n I a3) (λcs b=>J i f cs b z) (λcs b=>J j d cs b t) W R l;have Y:∀k r,ops[k]? =some r->k≠i->(listed.setIfInBounds j true).getD k true=false->
   (∀e∈r.after,Region.binds .any e=true->e.on≠i)->f.apart ops r=true:=λk r a0 a1 N a2=>by
   refine E k r a0 a1 ?_ a2;by_cases G:j=k
   . subst G;exact I
   rw[getD_set_ne true G]at N;exact N
  refine wpOp_mono (λU T x=>?_) V;have s:S T:=by
   rcases x.2.1 with M|s
   . rw[J5 A,J5 Z,a4]at M;cases M
   exact s
  refine⟨.inr s,a5 (listed.setIfInBounds j true) U T (y.set O hj) Y (ready_mono u (Ne.symm n)) x.1 s ?_⟩;rw[zH _ _ n];exact x.2.2
def CQ {i:Nat} {d:Oper} {v:Value} (t:ops[i]? =some d) (U:i∉tails) (B:∀(j:Nat) (o:Oper) cs b,ops[j]? =some o->o.op≠ .select cs b)
 (N:∀c a w,Q (.panic c) (a.put d.dst v) w->Q (.panic c) a w):
 ∀(h:Nat) (listed:Array Bool) (a:Act) (w:World),
  (∀j f,ops[j]? =some f->j≠i->listed.getD j true=false->(∀e∈f.after,Region.binds .any e=true->e.on≠i)->d.apart ops f=true)->
  i∈Region.ready .any ops listed->YieldsIf P ops (λ_=>True) d v a->(H0 tails listed=true\/S w)->
  Y9 P ops Q S tails h (listed.setIfInBounds i true) (a.put d.dst v) w->Y9 P ops Q S tails (h+1) listed a w:=by
 intro h
 induction h with
 |zero=>
  intro listed a w _ k r n H;refine⟨λl=>(by rw[l]at k;cases k),λj hj=>?_⟩;by_cases g:j=i
  . subst g;exact r.wpOp t trivial ⟨n.imp Ea id,H⟩
  have:=ready_mono hj g;rw[H.1]at this;cases this
 |succ h a0=>
  intro listed a w y r F O H;have X:listed.getD i false=false:=GT (mem_ready.1 r).1;refine⟨λJ=>(by rw[J]at r;cases r),λj hj=>?_⟩;by_cases g:j=i
  . subst g;exact F.wpOp t trivial ⟨O.imp Ea id,H⟩
  obtain⟨A,f,u,R⟩:=mem_ready.1 hj;have Z:∀e∈f.after,Region.binds .any e=true->e.on≠i:=λe he hb heq=>by
   have l:=R e he hb;rw[heq]at l;rw[X]at l;cases l
  have l:=H.2 j (ready_mono hj g);have M:=wpOp_putIf u (y j f u g A Z) (λcs b=>B i d cs b t) (λcs b=>B j f cs b u) N F l;have T:∀k n,ops[k]? =some n->k≠i->(listed.setIfInBounds j true).getD k true=false->
   (∀e∈n.after,Region.binds .any e=true->e.on≠i)->d.apart ops n=true:=λk n V W E Y=>by
   refine y k n V W ?_ Y;by_cases z:j=k
   . subst z;exact A
   rw[getD_set_ne true z]at E;exact E
  refine wpOp_mono (λI G s=>?_) M;have x:H0 tails (listed.setIfInBounds j true)=true\/S G:=by
   refine s.2.1.imp (λD=>?_) id;rw[zH _ _ (Ne.symm g),J5 U]at D;exact D
  refine⟨x,a0 (listed.setIfInBounds j true) I G T (ready_mono r (Ne.symm g)) s.1 x ?_⟩;rw[zH _ _ g];exact s.2.2
end held
def R7 {l:List Nat} {i:Nat} (h:l.contains i=false):i∉l:=by
 intro a;have:l.contains i=true:=by simpa using a
 rw[h]at this;cases this
def mV {tails:List Nat} {listed:Array Bool} {i:Nat} (b:i<listed.size):H0 tails (listed.setIfInBounds i true)=(H0 tails listed||tails.contains i):=by
 cases a:tails.contains i with
 |false=>rw[J5 (R7 a)];simp
 |true=>
  rw[g4f];unfold H0;rw[xI];exact⟨i,by simpa using a,by simp[tJ,b]⟩
def B5r {ops:Array Oper} {listed:Array Bool} {i:Nat} (h:i∈Region.ready .any ops listed):i<listed.size:=by
 have:=(mem_ready.1 h).1;rcases sH i listed.size with a|a
 . exact a
 simp[g2c a]at this
def Co (n:Nat):Code->Bool
 | .region _ ops _=>nP n ops.toList
 | .seq a b=>Co n a&&Co n b
 | .cond _ a b=>Co n a&&Co n b
 | .block _ b=>Co n b
 | .loop b=>Co n b
 | .scope b=>Co n b
 | .rangeFunc .. =>false
 | _=>true
def Wp (P:Program) (n:Nat) (c:Code) (Q:Exit->G8->World->Prop) (E:G8) (w:World):Prop:=
 Co n c=true->∀a,C9 n a E->c.wp P (FJ n Q) a w
inductive Fr where
 |code (c:Code)
 |blk (id:Nat)
 |ops (all rest:List Oper)
 |dops (S:World->Prop) (all:List Oper) (tails:List Nat) (p:iG) (t:Bool)
 |chk (S:World->Prop)
 |upto (I:G8->World->Prop)
def Den (P:Program) (n:Nat) (R:G8->World->Prop):List Fr->Exit->G8->World->Prop
 | [], .normal=>R
 | [], .ret=>R
 | [],_=>λ_ _=>False
 | .code c::k, .normal=>Wp P n c (Den P n R k)
 | .blk _::k, .normal=>Den P n R k .normal
 | .ops a b::k, .normal=>B9c P a (Den P n R k .normal) b
 | .dops S a b p t::k, .normal=>eO P S a b (Den P n R k .normal) p t
 | .chk S::k, .normal=>λE w=>S w/\Den P n R k .normal E w
 | .upto I:: _, .normal=>I
 | .blk id::k, .exit j=>if j=id then Den P n R k .normal else Den P n R k (.exit j)
 | _::k,e=>Den P n R k e
structure Go (P:Program) (n:Nat) (R:G8->World->Prop) (k:List Fr) (E:G8) (w:World):Prop where
 out:Den P n R k .normal E w
section rules
variable {P:Program} {n:Nat} {R:G8->World->Prop} {k:List Fr} {E:G8} {w:World}
def Uq:∀k:List Fr,R E w->Den P n R k .ret E w
 | [],h=>h
 | .code _::k,h=>Uq k h
 | .blk _::k,h=>Uq k h
 | .ops _ _::k,h=>Uq k h
 | .dops _ _ _ _ _::k,h=>Uq k h
 | .chk _::k,h=>Uq k h
 | .upto _::k,h=>Uq k h
def go_ret (h:R E w):Go P n R (.code .ret::k) E w:=⟨λ_ b a=>wp_ret ⟨E,a,Uq k h⟩⟩
def mA (a:List Nat) (E E0:G8):Prop:=∀t,a.contains t=false->E t=E0 t
def mA.refl (a:List Nat) (E:G8):mA a E E:=λ_ _=>rfl
def mA.upd {b:List Nat} {E E0:G8} {d:Nat} {v:Value} (c:b.contains d=true) (h:mA b E E0):mA b (upd E d v) E0:=λt a=>by
 rw[C5]
 . exact h t a
 intro e;subst e;rw[c]at a;cases a
end rules
def SD (args:List Value):G8:=λt=>(args[t]?).getD undef
def RX {P:Program} {f:FuncId} {fn:Func} {c:Code} {args:List Value} {w:World} {Φ:Value->World->Prop} (j:P.funcs[f]? =some fn) (i:fn.body=some c)
 (r:args.length<=fn.ntmps) (k:Co fn.ntmps c=true) (R:G8->World->Prop)
 (g:∀E w (tmps:Array Value),(∀t,tmps.getD t undef=E t)->R E w->∃v,(results fn tmps).run P w= .ok v w/\Φ v w)
 (h:Go P fn.ntmps R [.code c] (SD args) w):
 Calls P f args.toArray w λe w'=>∃v,e= .returned v/\Φ v w':=by
 refine calls_of_wp j i ?_;have l:C9 fn.ntmps {tmps:=args.toArray++Array.replicate (fn.ntmps-args.toArray.size) undef,defers:= []} (SD args):=by
  refine⟨by simp;omega,λt=>?_,rfl⟩;unfold SD;simp only[yL,Array.getElem?_append,g0a,yJ,zG];split
  . rfl
  rename_i n;rw[rT ω];split<;>rfl
 refine wp_mono (h.out k _ l) ?_;rintro e d w' ⟨E',b,a⟩;cases e with
 |normal=>obtain⟨v,n,o⟩:=g E' w' d.tmps b.get a;exact⟨b.defers,v,n,v,rfl,o⟩
 |ret=>obtain⟨v,n,o⟩:=g E' w' d.tmps b.get a;exact⟨b.defers,v,n,v,rfl,o⟩
 |exit n=>exact a.elim
 |goto n=>exact a.elim
 |panic c=>exact a.elim
 |outgrown=>exact a.elim
def E2 (P:Program) (E:G8) (ty:TypeId) (op:Op) (w:World) (v:Value) (w':World):Prop:=
 ∀(d:Option Tmp) (b:String) (a:Array Edge) (g:Option (Nat×Bool)),(execOp (ev E) ⟨d,op,ty,b,a,g⟩).run P w= .ok (.value v) w'
def KM (P:Program) (E:G8) (ty:TypeId) (op:Op) (w w':World):Prop:=
 ∀(d:Option Tmp) (b:String) (a:Array Edge) (g:Option (Nat×Bool)),(execOp (ev E) ⟨d,op,ty,b,a,g⟩).run P w= .ok .skip w'
def A1g (P:Program) (E:G8) (ty:TypeId) (op:Op) (w:World) (f:FuncId) (args:List Value):Prop:=
 ∀(d:Option Tmp) (b:String) (a:Array Edge) (g:Option (Nat×Bool)),(execOp (ev E) ⟨d,op,ty,b,a,g⟩).run P w= .ok (.enter f args.toArray) w
def cD (P:Program) (f:FuncId) (args:List Value) (w:World) (Φ:Value->World->Prop):Prop:=
 Calls P f args.toArray w λe a=>∃v,e= .returned v/\Φ v a
def cD.mono {P:Program} {f:FuncId} {args:List Value} {w:World} {Φ Φ':Value->World->Prop} (h:cD P f args w Φ) (a:∀v w',Φ v w'->Φ' v w'):cD P f args w Φ':=
 Calls.mono h λ_ _ ⟨v,he,hv⟩=>⟨v,he,a _ _ hv⟩
def MH {all:List Oper} {d:Option Tmp} {op:Op} {ty:TypeId} {pos:String} {aft:Array Edge} {j t:Nat} {b:Bool} {E:G8} (a:(all[j]?).bind (·.dst)=some t) (c:E t= .bool b):E1 all ⟨d,op,ty,pos,aft,some (j,b)⟩ E=true:=by
 simp[E1,Bc,a,c]
section frames
variable {P:Program} {n:Nat} {R:G8->World->Prop} {k:List Fr} {E:G8} {w:World} {all rest:List Oper} {d:Nat} {op:Op} {ty:TypeId} {pos:String} {aft:Array Edge} {g:Option (Nat×Bool)}
variable {S:World->Prop} {i:Nat} {p:iG} {tails:List Nat} {t:Bool}
end frames
def Ei (P:Program) (t:TypeId):Bool:=match P.underlying t with|some (.struct _)=>false|some (.array _ _)=>false|some _=>true|none=>false
def WC (P:Program) (t:TypeId) (s:Nat):Bool:=
 (match P.underlying t with|some (.struct _)=>true|some (.array _ _)=>true| _=>false)&&(match P.info? t with|some i=>i.size==s|none=>false)
def Tf (P:Program) (t:TypeId) (s:Nat):Bool:=match P.info? t with|some i=>i.size==s|none=>false
def PO (P:Program) (t:TypeId) (f off:Nat):Bool:=
 match P.underlying t with
 |some (.struct a)=>(match a[f]? with|some x=>x.offset==off&&(match P.info? x.type with|some i=> !(i.size==0) |none=>false) |none=>false)
 | _=>false
def Ho (P:Program) (t e:TypeId) (s:Nat):Bool:=(match P.underlying t with|some (.slice e')=>e'==e| _=>false)&&Tf P e s
def Gq (P:Program) (f:FuncId):Bool:=match P.funcs[f]? with|some fn=> !(fn.name== "runtime.NumGoroutine")&&fn.body.isSome|none=>false
def Fq (P:Program) (t:TypeId):Option Value:=(P.info? t).bind (·.zero)
section ops
variable {P:Program} {E:G8} {w:World} {ty:TypeId}
def B6t {x:Operand} :E2 P E ty (.move x) w (ev E x) w:=λ_ _ _ _=>rfl
def A0x {x:Operand} :E2 P E ty (.assign x) w (ev E x) w:=λ_ _ _ _=>rfl
def C5b {c a b:Operand} {t:Bool} (d:ev E c= .bool t):E2 P E ty (.pick c a b) w (bif t then ev E a else ev E b) w:=λ_ _ _ _=>by
 cases t<;>simp[execOp,d,asBool,go_sem]
def B0o {x:Operand} {vs:Array Value} {v:Value} {i:Nat} (b:ev E x= .tuple vs) (a:vs[i]? =some v):E2 P E ty (.extract x i) w v w:=λ_ _ _ _=>by
 simp[execOp,b,Instr.extract,a,go_sem]
def C8r {T:TypeId} {x:Operand} {b:Bool} (a:ev E x= .bool b):E2 P E ty (.unOp .not T x) w (.bool !b) w:=λ_ _ _ _=>by
 simp[execOp,a,Op.unary,go_sem]
def C8q {T:TypeId} {x:Operand} {k:IntKind} {a:Int} (b:ev E x= .int k a):E2 P E ty (.unOp .neg T x) w (.int k (k.wrap (-a))) w:=λ_ _ _ _=>by
 simp[execOp,b,Op.unary,Op.intArith,go_sem]
def nU {op:BinOp} {T:TypeId} {x y:Operand} {k k':IntKind} {a b:Int} :(eqGuard op T x y (.int k a) (.int k' b)).run P w= .ok () w:=by
 unfold eqGuard;cases op<;>rfl
def B6r {op:BinOp} {T T':TypeId} {x y:Operand} {k k':IntKind} {a b:Int} {v:Value} (d:ev E x= .int k a) (f:ev E y= .int k' b) (h:(binOp op T (.int k a) (.int k' b)).run P w= .ok v w):E2 P E ty (.binOp op T x y T') w v w:=λ_ _ _ _=>by
 simp only[execOp,d,f];have c:=nU (P:=P) (w:=w) (op:=op) (T:=T) (x:=x) (y:=y) (k:=k) (k':=k') (a:=a) (b:=b);simp[go_sem,c,h]
def C4y {x y:Operand} {ts:Array TypeId} {k k':IntKind} {a b:Int} (d:ev E x= .int k a) (f:ev E y= .int k' b):E2 P E ty (.call ⟨.builtin .max, #[x,y],ts⟩) w (.int k (max a b)) w:=λ_ _ _ _=>by
 have c:(if b>a then b else a)=max a b:=by by_cases h:a<b<;>simp only[gt_iff_lt,h,wG,xM]<;>omega
 simp[execOp,resolve,invoke,builtin,Builtin.max_,Builtin.max2,d,f,go_sem];exact c
def C4z {x y z:Operand} {ts:Array TypeId} {k k' d:IntKind} {a b c:Int} (f:ev E x= .int k a) (g:ev E y= .int k' b) (i:ev E z= .int d c):E2 P E ty (.call ⟨.builtin .max, #[x,y,z],ts⟩) w (.int k (max (max a b) c)) w:=λ_ _ _ _=>by
 have d:∀a b:Int,(if b>a then b else a)=max a b:=λa b=>by by_cases h:a<b<;>simp only[gt_iff_lt,h,wG,xM]<;>omega
 simp only[execOp,resolve,invoke,builtin,Builtin.max_,go_sem];simp[f,g,i,Builtin.max2,d,go_sem]
def C5a {x y:Operand} {ts:Array TypeId} {k k':IntKind} {a b:Int} (d:ev E x= .int k a) (f:ev E y= .int k' b):E2 P E ty (.call ⟨.builtin .min, #[x,y],ts⟩) w (.int k (min a b)) w:=λ_ _ _ _=>by
 have c:(if b<a then b else a)=min a b:=by by_cases h:b<a<;>simp only[h,wG,xM]<;>omega
 simp[execOp,resolve,invoke,builtin,Builtin.min_,Builtin.min2,d,f,go_sem];exact c
def C8n {x:Operand} {t e:TypeId} {s len c:Nat} {a:Option Addr} (g:ev E x= .slice a len c) (b:Ho P t e s=true):E2 P E ty (.call ⟨.builtin .len, #[x], #[t]⟩) w (.int .i64 len) w:=λ_ _ _ _=>by
 have f:P.underlying t=some (.slice e):=by
  unfold Ho at b;simp only[qC]at b;obtain⟨b,_⟩:=b;split at b
  . rename_i h d;simp at b;subst b;exact d
  cases b
 simp[execOp,resolve,invoke,builtin,Builtin.len_,g,run_underlying f,goInt,go_sem]
end ops
def Ed {P:Program} {E:G8} {w:World} {ty:TypeId} {c:Operand} {f:FuncId} {b args:List Value} {as:List Operand} {ts:Array TypeId} (i:ev E c= .func (.func f) #[] b.toArray) (a:Gq P f=true) (h:as.map (ev E)++b=args):
 A1g P E ty (.call ⟨.value c,as.toArray,ts⟩) w f args:=λ_ _ _ _=>by
 unfold Gq at a;split at a
 . rename_i fn j;simp only[qC,rN]at a;have g:¬fn.body=none:=by intro hb;rw[hb]at a;simp at a
   have d:¬fn.name= "runtime.NumGoroutine" :=by simpa using a.1
   subst h;simp[execOp,resolve,i,Deferred.ofValue,invoke,callFunc,j,d,g,go_sem]
 cases a
def C8o {P:Program} {E:G8} {w:World} {ty:TypeId} {fn:Fn} {a:List Operand} {vs:List Value} (b:a.map (ev E)=vs):E2 P E ty (.makeFunc fn #[] a.toArray) w (.func fn #[] vs.toArray) w:=λ_ _ _ _=>by
 subst b;simp[execOp,Instr.makeFunc]
def C8p {P:Program} {E:G8} {w:World} {ty:TypeId} {T T':TypeId} {x y:Operand} {a b:Bool} (g:ev E x= .bool a) (h:ev E y= .bool b) (d:P.underlying T=some .bool):E2 P E ty (.binOp .neq T x y T') w (.bool (a !=b)) w:=λ_ _ _ _=>by
 have c:=run_equalIn_bool' (P:=P) w 9999 T a b d;have f:(eqGuard .neq T x y (.bool a) (.bool b)).run P w= .ok () w:=rfl;have d:(binOp .neq T (.bool a) (.bool b)).run P w= .ok (.bool (a !=b)) w:=by
  show((Op.equal T (.bool a) (.bool b))>>=λr=>pure (Value.bool (!r))).run P w= _;unfold Op.equal Op.maxDepth;rw[Sem.run_bind,c];rfl
 simp only[execOp,g,h];simp[f,d]
def KJ (w:World) (b:Nat) (cs:Array Value) (t:TypeId):Prop:=w.heap[b]? =some (.cells cs t (0,0))
structure R5 (w w':World):Prop extends Below w.heap.size w w' where
 drw:True
def KJ.lt {w:World} {b:Nat} {cs:Array Value} {t:TypeId} (h:KJ w b cs t):b<w.heap.size:=(rV.1 h).1
def KJ.ext {w w':World} {b:Nat} {cs:Array Value} {t:TypeId} (h:KJ w b cs t) (a:R5 w w'):KJ w' b cs t:=(a.block b h.lt).trans h
def KJ.cell {w:World} {b o:Nat} {cs:Array Value} {t:TypeId} {v:Value} (h:KJ w b cs t) (a:cs[o]? =some v):w.cell? ⟨b,o,none⟩=some v:=by
 unfold KJ at h;simp[World.cell?,h,a]
def R5.refl (w:World):R5 w w:=⟨Below.refl _ _,trivial⟩
def R5.trans {a b c:World} (h:R5 a b) (k:R5 b c):R5 a c:=⟨Below.trans h.toBelow (Below.mono k.toBelow h.size),trivial⟩
def R5.drew {a b:World} (h:R5 a b):R5 a b.drew:=⟨Below.drew h.toBelow,trivial⟩
def R5.alloc (w:World) (o:Obj):R5 w (w.alloc o):=⟨(Below.refl _ _).alloc (qV _) o,trivial⟩
section mem
variable {P:Program} {E:G8} {w:World} {ty:TypeId}
def Iw {t:TypeId} (h:Ei P t=true):(isAgg t).run P w= .ok false w:=by
 unfold Ei at h;cases a:P.underlying t with
 |none=>simp[a]at h
 |some d=>cases d<;>simp[a]at h<;>simp[isAgg,run_underlying a,go_sem]
def Je {t:TypeId} {s:Nat} (h:WC P t s=true):(isAgg t).run P w= .ok true w/\(sizeOf t).run P w= .ok s w:=by
 unfold WC at h;simp only[qC]at h;obtain⟨d,a⟩:=h;constructor
 . cases c:P.underlying t with
   |none=>simp[c]at d
   |some f=>cases f<;>simp[c]at d<;>simp[isAgg,run_underlying c,go_sem]
 cases b:P.info? t with
 |none=>simp[b]at a
 |some i=>simp[b]at a;simp[sizeOf,typeInfo,b,a,go_sem]
def Fx {t:TypeId} {s:Nat} (h:Tf P t s=true):(sizeOf t).run P w= .ok s w:=by
 unfold Tf at h;cases a:P.info? t with
 |none=>simp[a]at h
 |some i=>simp[a]at h;simp[sizeOf,typeInfo,a,h,go_sem]
def lR {T:TypeId} {x:Operand} {a:Addr} {v:Value} (f:ev E x= .pointer (some a)) (d:Ei P T=true) (c:w.cell? a=some v):E2 P E ty (.load T x) w v w:=λ_ _ _ _=>by
 have b:=Iw (P:=P) (w:=w) d;simp[execOp,f,Instr.loadAt,Instr.sureAddr,loadVar,b,c,go_sem]
def I6 (w:World) (a:Addr) (cs:List Value):Prop:=∀j v,cs[j]? =some v->w.cell? (a.add j)=some v
def A4s {T:TypeId} {x:Operand} {a:Addr} {cs:List Value} {s:Nat} (h:ev E x= .pointer (some a)) (b:WC P T s=true) (g:cs.length=s) (f:I6 w a cs):E2 P E ty (.load T x) w (.agg cs.toArray) w:=λ_ _ _ _=>by
 obtain⟨c,d⟩:=Je (P:=P) (w:=w) b;have b:=run_loadCells_list (P:=P) (w:=w) a cs f;rw[g]at b;unfold loadCells at b;simp[execOp,h,Instr.loadAt,Instr.sureAddr,loadVar,c,d,b,go_sem]
def KJ.cellsAt {w:World} {b:Nat} {cs:Array Value} {t:TypeId} (h:KJ w b cs t):I6 w ⟨b,0,none⟩ cs.toList:=λj v a=>by
 have:(⟨b,0,none⟩:Addr).add j=⟨b,j,none⟩:=by unfold Addr.add;split<;>simp_all
 rw[this];exact h.cell (by simpa using a)
def K5 (b o n:Nat):(⟨b,o,none⟩:Addr).add n=⟨b,o+n,none⟩:=by unfold Addr.add;split<;>simp_all
def CR {T:TypeId} {x:Operand} {b o f off:Nat} (k:ev E x= .pointer (some ⟨b,o,none⟩)) (a:PO P T f off=true):E2 P E ty (.fieldAddr T x f) w (.pointer (some ⟨b,o+off,none⟩)) w:=λ_ _ _ _=>by
 unfold PO at a;split at a
 . rename_i r j;split at a
   . rename_i g i;simp only[qC,g1m]at a;obtain⟨h,c⟩:=a;cases d:P.info? g.type with
     |none=>simp[d]at c
     |some n=>
      simp[d]at c;have l:(sizeOf g.type).run P w= .ok n.size w:=by simp[sizeOf,typeInfo,d,go_sem]
      subst h;simp[execOp,k,Instr.fieldAt,Instr.sureAddr,run_underlying j,i,fieldPlace,l,c,K5,go_sem]
   cases a
 cases a
def C8k {T:TypeId} {x:Operand} {v:Value} (a:ev E x=v):E2 P E ty (.box T x) w (.pointer (some ⟨w.heap.size,0,none⟩)) (w.alloc (.cells v.cells T)):=λ_ _ _ _=>by
 subst a;simp[execOp,Instr.box,newVar,newRow,go_sem]
def A7n {T:TypeId} {z:Value} (a:Fq P T=some z):E2 P E ty (.alloc T) w (.pointer (some ⟨w.heap.size,0,none⟩)) (w.alloc (.cells z.cells T)):=λ_ _ _ _=>by
 unfold Fq at a;cases b:P.info? T with
 |none=>simp[b]at a
 |some i=>
  simp[b]at a;simp[execOp,Instr.alloc,zeroValue,typeInfo,b,a,newVar,newRow,go_sem]
def Fz (w:World) (cs:Array Value) (t:TypeId):KJ (w.alloc (.cells cs t)) w.heap.size cs t:=heap_alloc_new w _
def KJ.alloc {w:World} {b:Nat} {cs:Array Value} {t:TypeId} (h:KJ w b cs t) (o:Obj):KJ (w.alloc o) b cs t:=h.ext (R5.alloc w o)
end mem
def Lg:∀u∈([]:List Value),u.oneCell'=true:=λ_ h=>by cases h
def Mk {v:Value} {l:List Value} (h:v.oneCell'=true) (t:∀u∈l,u.oneCell'=true):∀u∈v::l,u.oneCell'=true:=λu a=>by
 rcases qW.1 a with a|a
 . rw[a];exact h
 exact t u a
section frames
variable {P:Program} {n:Nat} {R:G8->World->Prop} {k:List Fr} {E:G8} {w:World} {all rest:List Oper} {d:Nat} {ty:TypeId} {pos:String} {aft:Array Edge} {g:Option (Nat×Bool)}
end frames
section tests
variable {P:Program} {n:Nat} {R:G8->World->Prop} {k:List Fr} {E:G8} {w:World} {all rest:List Oper} {d:Nat} {ty:TypeId} {pos:String} {aft:Array Edge} {g:Option (Nat×Bool)} {op:Op} {c:Prop} [Decidable c]
variable {S:World->Prop} {i:Nat} {p:iG} {tails:List Nat} {t:Bool}
end tests
def EF (P:Program) (t:TypeId):Option (List (Nat×Nat)):=
 match P.underlying t with
 |some (.struct a)=>a.toList.mapM λf=>(P.info? f.type).map λi=>(f.offset,i.size)
 | _=>none
def ZX {P:Program} {w:World} :∀(a:List Field) (pl:List (Nat×Nat)),a.mapM (λf=>(P.info? f.type).map λi=>(f.offset,i.size))=some pl->
 (a.mapM λf=>do pure (f.offset, <-sizeOf f.type):Sem (List (Nat×Nat))).run P w= .ok pl w
 | [],pl,h=>by simp at h;subst h;rfl
 |f::a,pl,h=>by
  simp only[wS]at h;cases b:P.info? f.type with
  |none=>simp[b]at h
  |some i=>
   simp only[b,xC,qH,wE]at h;cases c:a.mapM (λf=>(P.info? f.type).map λi=>(f.offset,i.size))with
   |none=>rw[c]at h;simp at h
   |some g=>
    rw[c]at h;simp at h;subst h;have d:=ZX (w:=w) a g c;rw[wS];simp[sizeOf,typeInfo,b,go_sem];simp[sizeOf,typeInfo,go_sem]at d;rw[d];rfl
def C0y {P:Program} {E:G8} {w:World} {ty:TypeId} {T:TypeId} {parts:List (Nat×Operand)} {z:Value} {pl:List (Nat×Nat)} (cs:Array Value) (b:Fq P T=some z) (a:EF P T=some pl)
 (k:Instr.fill (λi=>pl[i]?) z.cells (parts.map λx=>(x.1,ev E x.2))=some cs):E2 P E ty (.build T parts.toArray) w (.agg cs) w:=λ_ _ _ _=>by
 unfold Fq at b;unfold EF at a;cases c:P.info? T with
 |none=>simp[c]at b
 |some i=>
  simp[c]at b;cases d:P.underlying T with
  |none=>simp[d]at a
  |some j=>
   cases j<;>simp[d]at a
   case struct fs=>
    have h:=ZX (w:=w) fs.toList pl a;have g:(fs.mapM λf=>do pure (f.offset, <-sizeOf f.type):Sem (Array (Nat×Nat))).run P w= .ok pl.toArray w:=by
     rw[yY];simp at h|-;simp[h]
    simp only[execOp];unfold Instr.build;simp at g;simp[zeroValue,typeInfo,c,b,run_underlying d,g,k]
def A0y {P:Program} {E:G8} {w:World} {ty:TypeId} {T e:TypeId} {len sz:Nat} {parts:List (Nat×Operand)} {z:Value} (cs:Array Value) (a:Fq P T=some z) (d:P.underlying T=some (.array len e)) (g:Tf P e sz=true)
 (f:Instr.fill (λi=>some (i*sz,sz)) z.cells (parts.map λx=>(x.1,ev E x.2))=some cs):E2 P E ty (.build T parts.toArray) w (.agg cs) w:=λ_ _ _ _=>by
 unfold Fq at a;have c:=Fx (P:=P) (w:=w) g;cases b:P.info? T with
 |none=>simp[b]at a
 |some i=>
  simp[b]at a;simp only[execOp];unfold Instr.build;simp[zeroValue,typeInfo,b,a,run_underlying d,c,f]
def B1s {w w':World} (c:R5 w w') {a:Addr} {v:Value} (h:w.cell? a=some v):w'.cell? a=some v:=by
 have b:a.block<w.heap.size:=block_lt_of_cell h;rw[c.cell b];exact h
def I6.ext {w w':World} {a:Addr} {cs:List Value} (h:I6 w a cs) (c:R5 w w'):I6 w' a cs:=λj v b=>B1s c (h j v b)
def SlR {α:Type} (w:World) (sz:Nat) (f:α->List Value) (v:Value) (l:List α):Prop:=
 (∃a b,v= .slice a 0 b/\l= [])\/∃c o b,v= .slice (some ⟨c,o,none⟩) l.length b/\l.length<=b/\∀i a,l[i]? =some a->I6 w ⟨c,o+i*sz,none⟩ (f a)
def SlR.ext {α:Type} {w w':World} {sz:Nat} {f:α->List Value} {v:Value} {l:List α} (h:SlR w sz f v l) (k:R5 w w'):SlR w' sz f v l:=by
 rcases h with h| ⟨b,o,c,j,d,g⟩
 . exact .inl h
 exact .inr ⟨b,o,c,j,d,λn a i=>(g n a i).ext k⟩
def SlR.nil {α:Type} (w:World) (sz:Nat) (f:α->List Value):SlR w sz f (.slice none 0 0) []:= .inl ⟨_,_,rfl,rfl⟩
section sl
variable {P:Program} {E:G8} {w:World} {ty:TypeId} {α:Type} {sz:Nat} {f:α->List Value} {v:Value} {l:List α}
def Jz {t e:TypeId} {s:Nat} (a:Ho P t e s=true):P.underlying t=some (.slice e)/\Tf P e s=true:=by
 unfold Ho at a;simp only[qC]at a;obtain⟨a,b⟩:=a;refine⟨?_,b⟩;split at a
 . rename_i d c;simp at a;subst a;exact c
 cases a
def B6s {x ix:Operand} {t e:TypeId} {n:IntKind} {i:Int} {a:Addr} {len b:Nat} (k:ev E x= .slice (some a) len b) (g:ev E ix= .int n i) (h:Ho P t e sz=true) (c:0<=i) (d:i<len):E2 P E ty (.indexAddr t x ix) w (.pointer (some (a.add (i.toNat*sz)))) w:=λ_ _ _ _=>by
 obtain⟨j,l⟩:=Jz h;have f:=Fx (P:=P) (w:=w) l;simp[execOp,k,g,Instr.indexAt,asIntOf,run_underlying j,c,d,f,go_sem]
end sl
section owned
variable {w w':World} {base:Nat} {e:TypeId} {sz:Nat} {v:Value} {n:Nat} {xs:List Value}
def B9h (h:w.ownsRow base e sz v n xs) (a:R5 w w'):w'.ownsRow base e sz v n xs:=
 h.kept (row:=none) ⟨a.os,a.tape,a.output,a.size,λk b _=>a.block k b⟩ (by cases v.ownBlock<;>simp)
def KJ.grown {b:Nat} {cs:Array Value} {t:TypeId} {row:Option Nat} (h:KJ w b cs t) (a:w.grownBy w' row) (c:some b≠row):KJ w' b cs t:=(a.block b h.lt c).trans h
def mX {a:World} (b:R5 a w) (c:w.grownBy w' v.ownBlock) (h:w.ownsRow base e sz v n xs) (d:a.heap.size<=base) (f:w.drawn<=w'.drawn):R5 a w':=
 ⟨b.toBelow.grown c b.size (λk a=>by have:=(h.lt k a).1;omega),trivial⟩
end owned
section frames2
variable {P:Program} {n:Nat} {R:G8->World->Prop} {k:List Fr} {E:G8} {w:World} {all rest:List Oper} {d:Nat} {ty:TypeId} {pos:String} {aft:Array Edge} {g:Option (Nat×Bool)}
def lN {T e:TypeId} {sz len:Nat} {parts:List (Nat×Operand)} {z:Value} (cs:Array Value) (j:Ho P T e sz=true) (a:Fq P e=some z) (l:len*sz<=16777216)
 (f:Instr.fill (λi=>some (i*sz,sz)) ((Array.range (len*sz)).map (z.cells[· %z.cells.size]!)) (parts.map λx=>(x.1,ev E x.2))=some cs) (c:len*sz≠0):
 E2 P E ty (.buildSlice T len parts.toArray) w (.slice (some ⟨w.heap.size,0,none⟩) len len) (w.alloc (.cells cs e)):=λ_ _ _ _=>by
 obtain⟨k,h⟩:=Jz j;unfold Fq at a;have d:=Fx (P:=P) (w:=w) h;cases b:P.info? e with
 |none=>simp[b]at a
 |some i=>
  simp[b]at a;have g:¬(16777216<len*sz):=ω
  simp only[execOp];unfold Instr.buildSlice;simp[run_underlying k,d,g,c,zeroValue,typeInfo,b,a,f,newRow]
def VX (b:Nat) (w w':World):Prop:=w'.os=w.os/\w'.tape=w.tape/\(w'.output=w.output/\w.drawn<=w'.drawn)/\w'.heap.size=w.heap.size/\∀k,k≠b->w'.heap[k]? =w.heap[k]?
def KJ.chg {w w':World} {b a:Nat} {cs:Array Value} {t:TypeId} (h:KJ w b cs t) (c:VX a w w') (d:b≠a):KJ w' b cs t:=(c.2.2.2.2 b d).trans h
def R5.chg {c w w':World} {b:Nat} (h:R5 c w) (a:VX b w w') (d:c.heap.size<=b):R5 c w':=
 ⟨⟨a.1.trans h.os,a.2.1.trans h.tape,a.2.2.1.1.trans h.output,by rw[a.2.2.2.1];exact h.size,λk c=>(a.2.2.2.2 k ω).trans (h.block k c)⟩,trivial⟩
def B1r {w w':World} {b:Nat} (c:VX b w w') {a:Addr} (d:a.block≠b):w'.cell? a=w.cell? a:=World.cell?_of_block (w:=w) (c.2.2.2.2 _ d)
def B9g {w w':World} {b c e sz n:Nat} {v:Value} {xs:List Value} (h:w.ownsRow c e sz v n xs) (a:VX b w w') (d:some b≠v.ownBlock):w'.ownsRow c e sz v n xs:=
 h.kept (row:=some b) ⟨a.1,a.2.1,a.2.2.1.1,by rw[a.2.2.2.1];exact qV _,λk _ c=>a.2.2.2.2 k (λe=>c (by rw[e]))⟩ (.inr (Ne.symm d))
def VP {T d:TypeId} {x y:Operand} {b o s:Nat} {cs:Array Value} {v:Value} (vs:List Value) (n:ev E x= .pointer (some ⟨b,o,none⟩)) (r:ev E y=v) (c:v.cells.toList=vs) (l:Tf P T s=true) (k:vs.length=s) (i:KJ w b cs d) (j:o+vs.length<=cs.size) (f:∀u∈vs,u.oneCell'=true):
 KM P E ty (.store T x y) w (w.setRow b (cs.toList.take o++vs++cs.toList.drop (o+vs.length)).toArray):=λ_ _ _ _=>by
 have g:=Fx (P:=P) (w:=w) l;have a:=run_storeCells_at P b o d vs 0 cs w i (by simpa using j) f;have h:v.cells.size=s:=by rw[<-k, <-c];simp
 simp only[tK]at a;subst r;simp[execOp,n,Instr.storeAt,Instr.sureAddr,storeVar,g,h,c,a]
end frames2
section el
variable {P:Program} {E:G8} {w:World} {ty:TypeId}
def I6.get {w:World} {b o j:Nat} {cs:List Value} {v:Value} (h:I6 w ⟨b,o,none⟩ cs) (a:cs[j]? =some v):w.cell? ⟨b,o+j,none⟩=some v:=by
 have:=h j v a;rwa[K5]at this
def B7u {α:Type} {l:List α} {i:Nat} (h:i<l.length):∃a,l[i]? =some a:=⟨_,qM h⟩
def SA {α:Type} {l:List α} {i:Nat} {a:α} (h:l[i]? =some a):i<l.length:=(sR.1 h).1
end el
section frames
variable {P:Program} {n:Nat} {R:G8->World->Prop} {k:List Fr} {E:G8} {w:World} {all rest:List Oper} {d:Nat} {ty:TypeId} {pos:String} {aft:Array Edge} {g:Option (Nat×Bool)}
end frames
def two (a b:Int):Array Value:= #[.int .i64 a, .int .i64 b]
def Yy {a:Type} (kv:a->Value) (w:World) (b:Nat) (d:List a):Prop:=
 ∃a c,w.heap[b]? =some (.map a c)/\a.toList.map (·.key)=d.map kv/\∀x∈a.toList,x.val= .bool true
def Yy.lt {a:Type} {kv:a->Value} {w:World} {b:Nat} {c:List a} (h:Yy kv w b c):b<w.heap.size:=by
 obtain⟨d,c,a,_⟩:=h;exact(rV.1 a).1
def Yy.ext {c:Type} {kv:c->Value} {w w':World} {b:Nat} {a:List c} (h:Yy kv w b a) (g:R5 w w'):Yy kv w' b a:=by
 have f:=h.lt;obtain⟨c,a,d,r⟩:=h;exact⟨c,a,(g.block b f).trans d,r⟩
def Yy.chg {d:Type} {kv:d->Value} {w w':World} {b a:Nat} {c:List d} (h:Yy kv w b c) (f:VX a w w') (g:b≠a):Yy kv w' b c:=by
 obtain⟨c,a,d,r⟩:=h;exact⟨c,a,(f.2.2.2.2 b g).trans d,r⟩
def Yy.grown {c:Type} {kv:c->Value} {w w':World} {b:Nat} {row:Option Nat} {a:List c} (h:Yy kv w b a) (f:w.grownBy w' row) (i:some b≠row):Yy kv w' b a:=by
 have g:=h.lt;obtain⟨c,a,d,r⟩:=h;exact⟨c,a,(f.block b g i).trans d,r⟩
def iv (i:Int):Value:= .int .i64 i
def sv (s:Int×Int):Value:= .agg (two s.1 s.2)
section maps
variable {P:Program} {E:G8} {w:World} {ty:TypeId} {κ:Type} {kv:κ->Value}
def B0q {t:TypeId} :E2 P E ty (.makeMap t none) w (.map (some w.heap.size)) (w.alloc (.map #[] 0)):=λ_ _ _ _=>by
 simp[execOp,Instr.makeMap]
end maps
section mframes
variable {P:Program} {n:Nat} {R:G8->World->Prop} {k:List Fr} {E:G8} {w:World} {all rest:List Oper} {d:Nat} {ty:TypeId} {pos:String} {aft:Array Edge} {g:Option (Nat×Bool)} {κ:Type}
end mframes
def lT {α:Type} (w:World) (a:Nat) (e:TypeId) (sz:Nat) (f:α->List Value) (v:Value) (l:List α):Prop:=w.ownsRow a e sz v l.length (l.flatMap f)
section own
variable {α:Type} {w w':World} {base:Nat} {e:TypeId} {sz:Nat} {f:α->List Value} {v:Value} {l:List α}
def lT.ext (h:lT w base e sz f v l) (a:R5 w w'):lT w' base e sz f v l:=B9h h a
def lT.chg {b:Nat} (h:lT w base e sz f v l) (a:VX b w w') (c:some b≠v.ownBlock):lT w' base e sz f v l:=B9g h a c
def lT.nil (w:World) (base:Nat) (e:TypeId) (sz:Nat) (f:α->List Value):lT w base e sz f (.slice none 0 0) []:=World.ownsRow_nil w base e sz
def lT.below {a:World} (h:lT w base e sz f v l) (g:R5 a w) (d:w.grownBy w' v.ownBlock) (b:a.heap.size<=base) (c:w.drawn<=w'.drawn):R5 a w':=mX g d h b c
def lT.lit {b:Nat} {cs:Array Value} {a:α} (g:KJ w b cs e) (d:cs.toList=f a) (c:(f a).length=sz) (h:base<=b):lT w base e sz f (.slice (some ⟨b,0,none⟩) 1 1) [a]:=by
 refine⟨by simp[c], .inr ⟨b,1,cs,rfl,h,g,by simp,δ,?_,?_⟩⟩
 . rw[<-sB,d,c];simp
 rw[d];simp[c,qP]
def lT.grown {g:Type} {a b f:Nat} {c:g->List Value} {v2:Value} {d:List g} (h:lT w a b f c v2 d) (i:w.grownBy w' v.ownBlock) (j:v2.ownBlock=none\/v2.ownBlock≠v.ownBlock):lT w' a b f c v2 d:=h.kept i j
end own
section frames
variable {P:Program} {n:Nat} {R:G8->World->Prop} {k:List Fr} {E:G8} {w:World} {all rest:List Oper} {d:Nat} {ty:TypeId} {pos:String} {aft:Array Edge} {g:Option (Nat×Bool)} {α:Type} {f:α->List Value}
def Vz (off:Nat):∀(l:List Value) (j:Nat) (cs:Array Value),off+j+l.length<=cs.size->
 ((l.zipIdx j).foldl (λcs (x:Value×Nat)=>cs.setIfInBounds (off+x.2) x.1) cs).toList=cs.toList.take (off+j)++l++cs.toList.drop (off+j+l.length)
 | [],j,cs,_=>by simp
 |x::l,j,cs,h=>by
  simp only[g1w,List.foldl_cons];simp only[rK]at h;rw[Vz off l (j+1) _ (by simp;omega)];have a:off+j<cs.size:=ω
  have b:off+j<cs.toList.length:=by simpa using a
  simp only[Array.toList_setIfInBounds];rw[List.take_set,zC ω,(ω:off+(j+1)=(off+j)+1),List.take_succ_eq_append_getElem b];rw[g2y _ _ (by simp;omega)];simp[tI (wI a),(ω:off+j+1+l.length=off+j+(l.length+1))]
def nX (sz:Nat):∀(vs:List Value) (k:Nat) (cs:Array Value),(∀v∈vs,v.cells.size=sz)->(k+vs.length)*sz<=cs.size->
 ∃r,Instr.fill (λi=>some (i*sz,sz)) cs ((vs.zipIdx k).map λx=>(x.2,x.1))=some r/\r.toList=cs.toList.take (k*sz)++vs.flatMap (·.cells.toList)++cs.toList.drop ((k+vs.length)*sz)/\r.size=cs.size
 | [],k,cs,_,_=>⟨cs,by simp[Instr.fill],by simp,rfl⟩
 |v::vs,k,cs,l,h=>by
  have g:v.cells.size=sz:=l v (by simp);have f:(k+(vs.length+1))*sz=k*sz+vs.length*sz+sz:=by rw[uX,tZ];omega
  simp only[rK,f]at h;have A:k*sz+v.cells.size<=cs.size:=ω
  have b:=Vz (k*sz) v.cells.toList 0 cs (by simp;omega);simp only[tK]at b;generalize t:(v.cells.toList.zipIdx 0).foldl (λcs (x:Value×Nat)=>cs.setIfInBounds (k*sz+x.2) x.1) cs=d at b;have j:d.size=cs.size:=by
   have:=sA List.length b;simp only[sB,rQ,qZ,sS]at this;omega
  have a:(k+1+vs.length)*sz=k*sz+vs.length*sz+sz:=by rw[uX,uX];omega
  obtain⟨r,u,w,y⟩:=nX sz vs (k+1) d (λx hx=>l x (by simp[hx])) (by rw[a,j];exact h);refine⟨r,?_,?_,by rw[y,j]⟩
  . simp only[g1w,rW];unfold Instr.fill;simp only[g];rw[qL (by simp;omega)];rw[<-u, <-t, <-g3y];simp
  rw[w,b];have o:(k+1)*sz=k*sz+sz:=tZ k sz;have s:(k+(vs.length+1))*sz=(k+1+vs.length)*sz:=by rw[a,f]
  have z:(cs.toList.take (k*sz)).length=k*sz:=by simp;omega
  have n:v.cells.toList.length=sz:=by simpa using g
  rw[o,yM,rK,s];have c:(cs.toList.take (k*sz)++v.cells.toList).length=k*sz+sz:=by rw[rQ,z,n]
  congr 1
  . rw[<-uC,g0q c]
  rw[g4s,sG (by rw[c,a];omega),wZ,vW,c,n,a];congr 1;omega
end frames
def Frs (n:Nat) (v:Value):Prop:=∀g,v.ownBlock=some g->n<=g
def SlR.chg {α:Type} {w w':World} {sz b:Nat} {f:α->List Value} {v:Value} {l:List α} (h:SlR w sz f v l) (k:VX b w w') (s:∀g,v.ownBlock=some g->g≠b):SlR w' sz f v l:=by
 rcases h with h| ⟨a,y,i,c,n,o⟩
 . exact .inl h
 refine .inr ⟨a,y,i,c,n,λu d r x z t=>?_⟩;have j:a≠b:=s a (by rw[c];rfl);have:=o u d r x z t;rw[K5]at this|-;rw[B1r k j];exact this
def lT.frs {α:Type} {w:World} {a e sz n:Nat} {f:α->List Value} {v:Value} {l:List α} (h:lT w a e sz f v l) (b:n<=a):Frs n v:=λg a=>by have:=(World.ownsRow.lt h g a).1;omega
def dZ (v v2:Value):Prop:=∀g,v.ownBlock=some g->v2.ownBlock≠some g
def dZ.symm {v v2:Value} (h:dZ v v2):dZ v2 v:=λg a b=>h g b a
section
variable {α β:Type} {w w':World} {base e sz base2 e2 sz2:Nat} {f:α->List Value} {f2:β->List Value} {v v' v2:Value} {l:List α} {l2:List β}
def dZ.append (d:dZ v v2) (c:lT w base2 e2 sz2 f2 v2 l2) (h:v'.ownBlock=v.ownBlock\/v'.ownBlock=some w.heap.size):dZ v' v2:=by
 intro g a b;rcases h with h|h
 . exact d g (h▸a) b
 rw[a]at h;have:=(World.ownsRow.lt c g b).2;cases h;omega
end
inductive Pl where
 |done
 |q (i:Nat) (p:Pl)
 |p (i:Nat) (p:Pl)
 |e (i:Nat) (p:Pl)
 |or (i:Nat) (p:Pl) (q:Pl)
 |al (is js:List Nat) (p:Pl)
def Gk (all:List Oper) (i:Nat):Nat:=((all[i]?).bind (·.dst)).getD 0
def Bm (all:List Oper) (l:List Nat):List Nat:=l.map (Gk all)
def fZ (all:List Oper) (i:Nat):List Nat:=match all[i]? with
 |some o=>o.op.operands.toList.filterMap λx=>match x with| .tmp t=>some t| _=>none
 |none=> []
def kS (all:List Oper) (i:Nat):Bool:=match all[i]? with
 |some o=>o.dst.isSome&&o.guard.isNone&&(match o.op with| .select _ _=>false| _=>true)
 |none=>false
def rm (i:Nat) (l:List Nat):List Nat:=l.filter λk=> !Nat.beq k i
def C0g (l a:List Nat):Bool:=l.all λx=> !a.contains x
def YW:List Nat->Bool
 | []=>true
 |x::r=> !r.contains x&&YW r
def A7u (all:List Oper) (a b:List Nat):Bool:=(a++b).all (kS all)&&YW (a++b)&&YW (Bm all (a++b))&&a.all λi=>C0g (fZ all i) (Bm all (a++b))
def A7t (all:List Oper) (tails:List Nat) (b:Nat->Array Bool->Bool):Nat->List Nat->List Nat->Array Bool->Bool
 |0,ri,a,listed=>ri.isEmpty&&a.isEmpty&&b 0 listed
 |f+1,ri,a,listed=>match a.find? λj=>(Region.ready .any all.toArray listed).contains j&&Region.free .any all.toArray listed j with
  |some j=> !tails.contains j&&C0g (fZ all j) (Bm all (ri++a))&&A7t all tails b f ri (rm j a) (listed.setIfInBounds j true)
  |none=>match ri with
   | []=>a.isEmpty&&b (f+1) listed
   |i0::c=>(Region.ready .any all.toArray listed==i0::c)&&(i0::c).all λi=> !tails.contains i&&A7t all tails b f (rm i (i0::c)) a (listed.setIfInBounds i true)
def Gl (all:List Oper) (f:Nat->Nat->Value) (X:Nat->Obj):List Nat->G8->World->G8×World
 | [],E,w=>(E,w)
 |i::r,E,w=>Gl all f X r (upd E (Gk all i) (f i w.heap.size)) (w.alloc (X i))
def AlV (P:Program) (all:List Oper) (a:List Nat) (F:G8):Prop:=∀j∈a,∃o,all[j]? =some o/\∀w,(execOp (ev F) o).run P w= .ok (.value (F (Gk all j))) w
structure B0v (P:Program) (R:World->World->Prop) (all:List Oper) (is js:List Nat) (f:Nat->Nat->Value) (X:Nat->Obj) (nx:G8->World->Prop) (E:G8) (w:World):Prop where
 one:∀i∈is,∃o,all[i]? =some o/\∀w',(execOp (ev E) o).run P w'= .ok (.value (f i w'.heap.size)) (w'.alloc (X i))
 rel:∀i∈is,∀w',R w w'->R w' (w'.alloc (X i))
 fin:∀l,l.Perm is->∃F,(∀x,x∉Bm all js->F x=(Gl all f X l E w).1 x)/\AlV P all js F/\nx F (Gl all f X l E w).2
def Sk (all:List Oper) (a tails:List Nat):Pl->Nat->Array Bool->Option (List Nat)->Bool
 | .done,_,listed,al=>al.isNone&&(Region.ready .any all.toArray listed).isEmpty
 | .q i p,fuel,listed,al=>match fuel with
  |0=>false
  |fuel+1=>al.isNone&&a.contains i&& !tails.contains i&&Region.free .any all.toArray listed i&&(Region.ready .any all.toArray listed).contains i&&Sk all a tails p fuel (listed.setIfInBounds i true) none
 | .p i p,fuel,listed,al=>match fuel with
  |0=>false
  |fuel+1=>al.isNone&& !tails.contains i&&Region.free .any all.toArray listed i&&(Region.ready .any all.toArray listed).contains i&&Sk all a tails p fuel (listed.setIfInBounds i true) none
 | .e i p,fuel,listed,al=>match fuel with
  |0=>false
  |fuel+1=>(al.getD (Region.ready .any all.toArray listed)== [i])&&Sk all a tails p fuel (listed.setIfInBounds i true) none
 | .or i p q,fuel,listed,al=>match fuel with
  |0=>false
  |fuel+1=>match al.getD (Region.ready .any all.toArray listed)with
   | []=>false
   |j::b=>Nat.beq i j&&Sk all a tails p fuel (listed.setIfInBounds i true) none&&Sk all a tails q (fuel+1) listed (some b)
 | .al b c p,fuel,listed,al=>al.isNone&&A7u all b c&&A7t all tails (λf l=>Sk all a tails p f l none) fuel b c listed
def C1i (all:List Oper) (a tails:List Nat) (p:Pl):Bool:=Region.noSelect all.toArray&&EL all a tails&&Sk all a tails p all.length (Array.replicate all.length false) none
def XF (P:Program) (R:World->World->Prop) (all:List Oper) (tails:List Nat) (next:G8->World->Prop):Pl->Bool->G8->World->Prop
 | .done,_=>next
 | .q i p,t=>λE w=>∃o,all[i]? =some o/\Qo P (R w) all o (XF P R all tails next p t) E w
 | .p i p,t=>λE w=>∃o,all[i]? =some o/\Qo P (λ_=>True) all o (XF P R all tails next p t) E w
 | .e i p,t=>λE w=>∃o,all[i]? =some o/\K4 P all o (λE' a=>((t||tails.contains i)=true\/R w a)/\XF P R all tails next p (t||tails.contains i) E' a) E w
 | .or i p q,t=>λE w=>(∃o,all[i]? =some o/\K4 P all o (λE' a=>((t||tails.contains i)=true\/R w a)/\XF P R all tails next p (t||tails.contains i) E' a) E w)/\XF P R all tails next q t E w
 | .al a b p,t=>λE w=>∃f X,B0v P R all a b f X (XF P R all tails next p t) E w
section
variable {P:Program} {ops:Array Oper} {Q:Exit->Act->World->Prop} {S S':World->Prop} {tails:List Nat}
def Ke (c:∀w,S w->S' w):∀(fuel:Nat) (listed:Array Bool) (a:Act) (w:World),Y9 P ops Q S tails fuel listed a w->Y9 P ops Q S' tails fuel listed a w
 |0,_,_,_,h=>h
 |fuel+1,_,_,_,h=>⟨h.1,λi g=>wpOp_mono (λf d b=>⟨b.1.imp id (c d),Ke c fuel _ f d b.2⟩) (h.2 i g)⟩
def TE:∀(fuel:Nat) (listed:Array Bool) (a:Act) (w:World),H0 tails listed=true->Y9 P ops Q S tails fuel listed a w->Y9 P ops Q S' tails fuel listed a w
 |0,_,_,_,_,h=>h
 |fuel+1,_,_,_,b,h=>⟨h.1,λi f=>wpOp_mono (λc g d=>⟨.inl (Ea b),TE fuel _ c g (Ea b) d.2⟩) (h.2 i f)⟩
end
def Me:∀ {l:List Nat},YW l=true->l.Nodup
 | [],_=>wT
 |x::r,h=>by
  simp only[YW,qC,rN]at h;exact sP.2 ⟨R7 h.1,Me h.2⟩
def kD {i k:Nat} {l:List Nat} :k∈rm i l↔k∈l/\k≠i:=by
 unfold rm;rw[yG];refine and_congr_right λ_=>⟨λh e=>by subst e;simp at h,λh=>by rw[E9 h];rfl⟩
def A7e {i:Nat} :∀ {l:List Nat},l.Nodup->i∈l->(i::rm i l).Perm l
 | [],_,h=>by cases h
 |x::r,f,h=>by
  obtain⟨b,c⟩:=sP.1 f;by_cases a:x=i
  . subst a;have:rm x (x::r)=r:=by
     unfold rm;rw[g1t,qL (by simp)];exact g0w.2 λk d=>by rw[E9 (show k≠x from λe=>b (by rw[<-e];exact d))];rfl
    rw[this]
  have:rm i (x::r)=x::rm i r:=by
   unfold rm;rw[g1t,qR (by rw[E9 a];rfl)]
  rw[this];rcases qW.1 h with h|h
  . exact absurd h.symm a
  exact(List.Perm.swap x i _).trans ((A7e c h).cons x)
def QY {l a:List Nat} (h:C0g l a=true):∀x∈l,x∉a:=λx a=>by
 have:=tH.1 h x a;simp only[rN]at this;exact R7 this
def AJ {all:List Oper} {i:Nat} {o:Oper} (h:kS all i=true) (c:all[i]? =some o):o.dst=some (Gk all i)/\o.guard=none/\∀cs b,o.op≠ .select cs b:=by
 unfold kS at h;rw[c]at h;simp only[qC,vG]at h;refine⟨?_,h.1.2,λcs b e=>by rw[e]at h;simp at h⟩;cases a:o.dst with
 |none=>rw[a]at h;simp at h
 |some d=>simp[Gk,c,a]
def A9c {all:List Oper} {i:Nat} {o:Oper} {t:Nat} (a:all[i]? =some o) (h:Operand.tmp t∈o.op.operands):t∈fZ all i:=by
 unfold fZ;rw[a];exact List.mem_filterMap.2 ⟨.tmp t,by simpa using h,rfl⟩
def PM {all:List Oper} {i:Nat} {o:Oper} {E E':G8} (a:all[i]? =some o) (c:∀cs b,o.op≠ .select cs b) (h:∀t∈fZ all i,E t=E' t):execOp (ev E) o=execOp (ev E') o:=
 execOp_congr o c λx d=>by
  cases x with
  |tmp t=>exact h t (A9c a d)
  | _=>rfl
def AT {all:List Oper} {f:Nat->Nat->Value} {X:Nat->Obj} :∀(a b:List Nat) (E:G8) (w:World),Gl all f X (a++b) E w=Gl all f X b (Gl all f X a E w).1 (Gl all f X a E w).2
 | [],_,_,_=>rfl
 |i::a,b,E,w=>AT a b _ _
def Iv {all:List Oper} {f:Nat->Nat->Value} {X:Nat->Obj} {x:Nat} :∀(l:List Nat) (E:G8) (w:World),x∉Bm all l->(Gl all f X l E w).1 x=E x
 | [],_,_,_=>rfl
 |i::l,E,w,h=>by
  simp only[Bm,rW,qW,g4z]at h;simp only[Gl];rw[Iv l _ _ h.2,C5 _ _ _ _ h.1]
def L6 {all:List Oper} {l:List Nat} {x:Nat} :x∈Bm all l↔∃i∈l,Gk all i=x:=by simp[Bm]
def jG {all:List Oper} :∀ {l:List Nat},(Bm all l).Nodup->∀ {i k:Nat},i∈l->k∈l->i≠k->Gk all i≠Gk all k
 | [],_,_,_,h,_,_=>by cases h
 |x::r,c,i,k,hi,a,d=>by
  simp only[Bm,rW]at c;obtain⟨b,f⟩:=sP.1 c;rcases qW.1 hi with hi|hi<;>rcases qW.1 a with a|a
  . exact absurd (hi.trans a.symm) d
  . rw[hi];exact λe=>b (L6.2 ⟨k,a,e.symm⟩)
  . rw[a];exact λe=>b (L6.2 ⟨i,hi,e⟩)
  exact jG f hi a d
def C1x {P:Program} {R:World->World->Prop} (bq:∀w,R w w) (b2:∀ {a b c},R a b->R b c->R a c) {n:Nat} {all:List Oper} {a4 tails O s:List Nat} (av:nP n all=true) (bs:Region.noSelect all.toArray=true) (bw:EL all a4 tails=true) {Q:Exit->Act->World->Prop} (bg:∀(c:List PanicEntry) (a a1:Act) (w:World),Q (.panic c) a1 w->Q (.panic c) a w)
 {ap:Nat->Array Bool->Bool} {b8:G8->World->Prop} {t:Bool} {f:Nat->Nat->Value} {X:Nat->Obj} {E:G8} {w:World} (b1:A7u all O s=true) (a0:B0v P R all O s f X b8 E w)
 (bk:∀(l:Nat) (listed:Array Bool) (a:Act) (E':G8) (w':World),ap l listed=true->cC all.toArray a4 tails listed->t=H0 tails listed->C9 n a E'->b8 E' w'->Y9 P all.toArray Q (R w') tails l listed a w'):
 ∀(l:Nat) (ri I:List Nat) (listed:Array Bool),A7t all tails ap l ri I listed=true->cC all.toArray a4 tails listed->t=H0 tails listed->∀(a:Act) (Ec:G8) (g:List Nat),C9 n a Ec->(g++ri).Perm O->(∀j∈I,j∈s)->
  (∀r,r.Perm ri->∀F,(∀x,x∉Bm all s->F x=(Gl all f X (g++r) E w).1 x)->AlV P all s F->∀x,x∉Bm all (ri++I)->F x=Ec x)->R w (Gl all f X g E w).2->
  Y9 P all.toArray Q (R (Gl all f X g E w).2) tails l listed a (Gl all f X g E w).2:=by
 simp only[A7u,qC,tH]at b1;obtain⟨⟨⟨ba,a7⟩,a8⟩,bz⟩:=b1;have a7:=Me a7;have a8:=Me a8;have b3:=AY bw;have fin:∀(l:Nat) (listed:Array Bool),ap l listed=true->cC all.toArray a4 tails listed->t=H0 tails listed->∀(a:Act) (Ec:G8) (g:List Nat),C9 n a Ec->(g++ []).Perm O->(∀r,r.Perm []->∀F,(∀x,x∉Bm all s->F x=(Gl all f X (g++r) E w).1 x)->AlV P all s F->∀x,x∉Bm all ([]++ [])->F x=Ec x)->Y9 P all.toArray Q (R (Gl all f X g E w).2) tails l listed a (Gl all f X g E w).2:=by
  intro l listed z o D a Ec g B A y;obtain⟨F,h,i,k⟩:=a0.fin g (by simpa using A);have:F=Ec:=funext λx=>y [] (wR _) F (by simpa using h) i x (by simp[Bm])
  subst this;exact bk l listed a F _ z o D B k
 intro l
 induction l with
 |zero=>
  intro ri I listed h i z a Ec g y o _ k _;simp only[A7t,qC,g0i]at h;obtain⟨⟨rfl,rfl⟩,h⟩:=h;exact fin 0 listed h i z a Ec g y o k
 |succ l b7=>
  intro ri I listed z W ah a Ec g Z A T Y a9;simp only[A7t]at z;split at z
  . rename_i j ar;simp only[qC,rN]at z;obtain⟨⟨an,ao⟩,bx⟩:=z;have ad:j∈I:=List.mem_of_find?_eq_some ar;have ae:=List.find?_some ar;simp only[qC]at ae;have ay:j∈Region.ready .any all.toArray listed:=by simpa using ae.1
    have a5:=R7 an;have bu:=QY ao;obtain⟨F0,a2,a3,_⟩:=a0.fin (g++ri) A;obtain⟨G,D,a6⟩:=a3 j (T j ad);obtain⟨aa,ac,af⟩:=AJ (ba j (sQ _ (T j ad))) D;have aw:all.toArray[j]? =some G:=by simpa using D
    have bb:∀r,r.Perm ri->∀F,(∀x,x∉Bm all s->F x=(Gl all f X (g++r) E w).1 x)->AlV P all s F->execOp (ev F) G=execOp (ev Ec) G:=λr N F H J=>PM D af λu hu=>Y r N F H J u (bu u hu)
    have aq:=bb ri (wR _) F0 a2 a3;have ai:t=H0 tails (listed.setIfInBounds j true):=by rw[J5 a5];exact ah
    have aj:E1 all G Ec=true:=by simp[E1,ac]
    refine CQ (v:=F0 (Gk all j)) aw a5 (Region.noSelect_spec bs) (λc a w B=>bg c a _ w B) l listed a _ (Region.free_spec aw ae.2) ay (.inl ⟨by rw[Z.wanted];exact aj,λw' _=>by rw[Z.ev, <-aq];exact a6 w'⟩) (.inr (bq _)) ?_;refine b7 ri (rm j I) _ bx (W.set b3 ay) ai _ (upd Ec (Gk all j) (F0 (Gk all j))) g ?_ A (λk h=>T k (kD.1 h).1) (λr N F H J x U=>?_) a9
    . have:=Z.put G.dst (F0 (Gk all j)) λd W=>by
       have:=tH.1 av G (sW D);simpa[W]using this
      rw[aa]at this|-;exact this
    by_cases am:x=Gk all j
    . subst am;rw[C2];obtain⟨c0,ax,bv⟩:=J j (T j ad);rw[D]at ax;cases ax;have V:=bv w;rw[bb r N F H J, <-aq,a6 w]at V;simp only[Result.ok.injEq,Next.value.injEq,vO]at V;exact V.symm
    rw[C5 _ _ _ _ am];refine Y r N F H J x λo=>U ?_
    obtain⟨i,y,e⟩:=L6.1 o;refine L6.2 ⟨i,?_,e⟩;rcases qU.1 y with y|y
    . exact sE _ y
    exact sQ _ (kD.2 ⟨y,λB=>am (by rw[<-e,B])⟩)
  split at z
  . simp only[qC,g0i]at z;obtain⟨rfl,z⟩:=z;exact fin _ listed z W ah a Ec g Z A Y
  rename_i b6 b9;have bn:b6::b9≠ []:=by simp
  generalize b6::b9=ri at*;simp only[qC,tH,g1m,rN]at z;obtain⟨az,bh⟩:=z;unfold Y9;refine⟨λbc=>absurd (az.symm.trans bc) bn,λi y=>?_⟩;have bl:=y;rw[az]at y;obtain⟨an,ao⟩:=bh i y;have a5:=R7 an;have M:i∈O:=A.subset (sQ _ y);have bm:(g++ri).Nodup:=A.nodup_iff.2 (sZ.1 a7).1;obtain⟨G,D,a6⟩:=a0.one i M;obtain⟨aa,ac,af⟩:=AJ (ba i (sE _ M)) D;obtain⟨F0,a2,a3,_⟩:=a0.fin (g++ri) A;have bf:∀x,x∉Bm all (O++s)->Ec x=E x:=λx U=>by
   have b4:x∉Bm all O:=λo=>U (by obtain⟨k,h,e⟩:=L6.1 o;exact L6.2 ⟨k,sE _ h,e⟩)
   have b5:x∉Bm all s:=λo=>U (by obtain⟨k,h,e⟩:=L6.1 o;exact L6.2 ⟨k,sQ _ h,e⟩)
   have V:=Y ri (wR _) F0 a2 a3 x λo=>by
    obtain⟨k,h,e⟩:=L6.1 o;rcases qU.1 h with h|h
    . exact b4 (L6.2 ⟨k,A.subset (sQ _ h),e⟩)
    exact b5 (L6.2 ⟨k,T k h,e⟩)
   rw[<-V,a2 x b5];exact Iv _ _ _ λo=>by
    obtain⟨k,h,e⟩:=L6.1 o;exact b4 (L6.2 ⟨k,A.subset h,e⟩)
  have bj:=PM (E:=Ec) (E':=E) D af λu hu=>bf u (QY (bz i M) u hu)
  have ai:t=H0 tails (listed.setIfInBounds i true):=by rw[J5 a5];exact ah
  have aj:E1 all G Ec=true:=by simp[E1,ac]
  have bt:K4 P all G (λE' w'=>E'=upd Ec (Gk all i) (f i (Gl all f X g E w).2.heap.size)/\w'=(Gl all f X g E w).2.alloc (X i)) Ec (Gl all f X g E w).2:=by
   unfold K4;rw[qR aj,bj,a6,aa];exact⟨rfl,rfl⟩
  have ag:=a0.rel i M _ a9;refine JK av D (λa1 E' w' bp B=>?_) Z bt;obtain⟨rfl,rfl⟩:=B;refine⟨.inr ag,?_⟩;have ab:Gl all f X (g++ [i]) E w=(upd (Gl all f X g E w).1 (Gk all i) (f i (Gl all f X g E w).2.heap.size),(Gl all f X g E w).2.alloc (X i)):=by rw[AT];rfl
  have b0:=A7e (sZ.1 bm).2.1 y;have:=b7 (rm i ri) I _ ao (W.set b3 bl) ai a1 _ (g++ [i]) bp (by
   rw[uC];exact(g2x g b0).trans A) T (λr N F H J x U=>?_) (by rw[ab];exact b2 a9 ag)
  . rw[ab]at this;exact Ke (λc2 be=>b2 ag be) l _ a1 _ this
  have bi:(i::r).Perm ri:=(N.cons i).trans b0;rw[uC]at H;by_cases ak:x=Gk all i
  . subst ak;have bo:Gk all i∉Bm all s:=λo=>by
     obtain⟨k,h,e⟩:=L6.1 o;exact jG a8 (sQ _ h) (sE _ M) (λB=>by
      subst B;exact(sZ.1 a7).2.2 k M k h rfl) e
    rw[H _ bo,C2,show g++([i]++r)=(g++ [i])++r from(uC _ _ _).symm,AT,ab];refine(Iv _ _ _ λo=>?_).trans (C2 _ _ _);obtain⟨k,h,e⟩:=L6.1 o;have au:=kD.1 (N.subset h);exact jG a8 (sE _ (A.subset (sQ _ au.1))) (sE _ M) au.2 e
  rw[C5 _ _ _ _ ak];refine Y (i::r) bi F H J x λo=>U ?_
  obtain⟨k,h,e⟩:=L6.1 o;refine L6.2 ⟨k,?_,e⟩;rcases qU.1 h with h|h
  . exact sE _ (kD.2 ⟨h,λB=>ak (by rw[<-e,B])⟩)
  exact sQ _ h
def B2i {P:Program} {R:World->World->Prop} (N:∀w,R w w) (a8:∀ {a b c},R a b->R b c->R a c) {n:Nat} {all:List Oper} {J tails:List Nat} (a1:nP n all=true) (U:Region.noSelect all.toArray=true) (I:EL all J tails=true) {Q:Exit->G8->World->Prop} (aa:∀c E w,¬Q (.panic c) E w):
 ∀(p:Pl) (f:Nat) (listed:Array Bool) (al:Option (List Nat)),Sk all J tails p f listed al=true->cC all.toArray J tails listed->∀(t:Bool),t=H0 tails listed->∀(a:Act) (E:G8) (w:World),C9 n a E->(∀l,al=some l->∀i∈l,i∈Region.ready .any all.toArray listed)->XF P R all tails (Q .normal) p t E w->
  match al with
  |none=>Y9 P all.toArray (FJ n Q) (R w) tails f listed a w
  |some l=>∃D,f=D+1/\∀i∈l,wpOp P all.toArray (FJ n Q) i (λu o=>(H0 tails (listed.setIfInBounds i true)=true\/R w o)/\Y9 P all.toArray (FJ n Q) (R w) tails D (listed.setIfInBounds i true) u o) a w:=by
 have T:∀(c:List PanicEntry) (a u:Act) (w:World),FJ n Q (.panic c) u w->FJ n Q (.panic c) a w:=λc a u w ⟨E,_,h⟩=>(aa c E w h).elim
 have V:∀(i:Nat) (y:Oper),all[i]? =some y->∀d,y.dst=some d->d<n:=λi y B d s=>by
  have:=tH.1 a1 y (sW B);simpa[s]using this
 have M:=AY I;have one:∀(i:Nat) (p:Pl) (f:Nat) (listed:Array Bool) (t:Bool) (a:Act) (E:G8) (w:World),(∀(f:Nat) (listed:Array Bool) (al:Option (List Nat)),Sk all J tails p f listed al=true->cC all.toArray J tails listed->∀(t:Bool),t=H0 tails listed->∀(a:Act) (E:G8) (w:World),C9 n a E->(∀l,al=some l->∀i∈l,i∈Region.ready .any all.toArray listed)->XF P R all tails (Q .normal) p t E w->
  match al with
  |none=>Y9 P all.toArray (FJ n Q) (R w) tails f listed a w
  |some l=>∃D,f=D+1/\∀i∈l,wpOp P all.toArray (FJ n Q) i (λu o=>(H0 tails (listed.setIfInBounds i true)=true\/R w o)/\Y9 P all.toArray (FJ n Q) (R w) tails D (listed.setIfInBounds i true) u o) a w)->
  Sk all J tails p f (listed.setIfInBounds i true) none=true->cC all.toArray J tails listed->t=H0 tails listed->C9 n a E->i∈Region.ready .any all.toArray listed->(∃y,all[i]? =some y/\K4 P all y (λE' o=>((t||tails.contains i)=true\/R w o)/\XF P R all tails (Q .normal) p (t||tails.contains i) E' o) E w)->
  wpOp P all.toArray (FJ n Q) i (λu o=>(H0 tails (listed.setIfInBounds i true)=true\/R w o)/\Y9 P all.toArray (FJ n Q) (R w) tails f (listed.setIfInBounds i true) u o) a w:=by
  intro i p f listed t a E w A g s z k Z ⟨y,B,h⟩;have H:(t||tails.contains i)=H0 tails (listed.setIfInBounds i true):=by rw[mV (B5r Z),z]
  refine JK a1 B (λu E' o a2 j=>⟨H▸j.1,?_⟩) k h;have:=A f _ none g (s.set M Z) _ H u E' o a2 (λ_ j=>by cases j) j.2;simp only at this;rcases j.1 with a0|a0
  . exact TE f _ u o (H▸a0) this
  exact Ke (λah O=>a8 a0 O) f _ u o this
 intro p
 induction p with
 |done=>
  intro f listed al g _ t _ a E w k _ h;simp only[Sk,qC,vG]at g;obtain⟨rfl,g⟩:=g;have D:Region.ready .any all.toArray listed= []:=by simpa using g
  cases f with
  |zero=>exact⟨D,E,k,h⟩
  |succ f=>exact⟨λ_=>⟨E,k,h⟩,by rw[D];simp⟩
 |q i p A=>
  intro f listed al g s t z a E w k _ h;cases f with
  |zero=>simp[Sk]at g
  |succ f=>
   simp only[Sk,qC,rN,vG]at g;obtain⟨⟨⟨⟨⟨rfl,Y⟩,G⟩,a3⟩,D⟩,g⟩:=g;have Y:i∈J:=by simpa using Y
   have G:=R7 G;have D:i∈Region.ready .any all.toArray listed:=by simpa using D
   obtain⟨y,B,h⟩:=h;have W:all.toArray[i]? =some y:=by simpa using B
   have H:t=H0 tails (listed.setIfInBounds i true):=by rw[J5 G];exact z
   rcases h with⟨I,v,a5,h⟩ | ⟨I,h⟩
   . refine OE (v:=v) W Y G (Region.noSelect_spec U) M (λc a w j=>T c a _ w j) f listed a w s (Region.free_spec W a3) D (.inl ⟨by rw[k.wanted];exact I,λo a4=>by rw[k.ev];exact a5 o a4⟩) (N w) ?_;exact A f _ none g (s.set M D) t H _ _ w (k.put _ _ (V i y B)) (λ_ j=>by cases j) h
   refine OE (v:=undef) W Y G (Region.noSelect_spec U) M (λc a w j=>T c a _ w j) f listed a w s (Region.free_spec W a3) D (.inr ⟨by rw[k.wanted];exact I,rfl⟩) (N w) ?_;exact A f _ none g (s.set M D) t H _ _ w (k.put _ _ (V i y B)) (λ_ j=>by cases j) h
 |p i p A=>
  intro f listed al g s t z a E w k _ h;cases f with
  |zero=>simp[Sk]at g
  |succ f=>
   simp only[Sk,qC,rN,vG]at g;obtain⟨⟨⟨⟨rfl,G⟩,Y⟩,D⟩,g⟩:=g;have G:=R7 G;have D:i∈Region.ready .any all.toArray listed:=by simpa using D
   obtain⟨y,B,h⟩:=h;have W:all.toArray[i]? =some y:=by simpa using B
   have H:t=H0 tails (listed.setIfInBounds i true):=by rw[J5 G];exact z
   rcases h with⟨I,v,a4,h⟩ | ⟨I,h⟩
   . refine CQ (v:=v) W G (Region.noSelect_spec U) (λc a w j=>T c a _ w j) f listed a w (Region.free_spec W Y) D (.inl ⟨by rw[k.wanted];exact I,λo a3=>by rw[k.ev];exact a4 o a3⟩) (.inr (N w)) ?_;exact A f _ none g (s.set M D) t H _ _ w (k.put _ _ (V i y B)) (λ_ j=>by cases j) h
   refine CQ (v:=undef) W G (Region.noSelect_spec U) (λc a w j=>T c a _ w j) f listed a w (Region.free_spec W Y) D (.inr ⟨by rw[k.wanted];exact I,rfl⟩) (.inr (N w)) ?_;exact A f _ none g (s.set M D) t H _ _ w (k.put _ _ (V i y B)) (λ_ j=>by cases j) h
 |e i p A=>
  intro f listed al g s t z a E w k a3 h;cases f with
  |zero=>simp[Sk]at g
  |succ f=>
   simp only[Sk,qC,g1m]at g;obtain⟨D,g⟩:=g;cases al with
   |none=>
    simp only[g2b]at D;have Z:i∈Region.ready .any all.toArray listed:=by rw[D];simp
    refine⟨λG=>by rw[D]at G;simp at G,?_⟩;intro Y W;obtain rfl:Y=i:=by rw[D]at W;simpa using W
    exact one Y p f listed t a E w A g s z k Z h
   |some l=>
    simp only[wF]at D;subst D;refine⟨f,rfl,λG W=>?_⟩;obtain rfl:G=i:=by simpa using W
    exact one G p f listed t a E w A g s z k (a3 _ rfl G (by simp)) h
 |or i p q ae af=>
  intro f listed al g s t z a E w k ab h;cases f with
  |zero=>simp[Sk]at g
  |succ f=>
   simp only[Sk]at g;cases D:al.getD (Region.ready .any all.toArray listed)with
   |nil=>rw[D]at g;simp at g
   |cons ag a3=>
    rw[D]at g;simp only[qC]at g;obtain⟨⟨Y,ac⟩,ad⟩:=g;have Y:=qD Y;subst Y;have a7:∀m∈i::a3,m∈Region.ready .any all.toArray listed:=λm G=>by
     cases al with
     |none=>rw[g2b]at D;rw[D];exact G
     |some l=>rw[wF]at D;exact ab l rfl m (by rw[D];exact G)
    have a9:=one i p f listed t a E w ae ac s z k (a7 i (by simp)) h.1;have O:=af (f+1) listed (some a3) ad s t z a E w k (λl j m G=>by cases j;exact a7 m (by simp[G])) h.2;obtain⟨W,a6,O⟩:=O;have a6:W=f:=ω
    subst a6;have a5:∀m∈i::a3,wpOp P all.toArray (FJ n Q) m (λu o=>(H0 tails (listed.setIfInBounds m true)=true\/R w o)/\Y9 P all.toArray (FJ n Q) (R w) tails W (listed.setIfInBounds m true) u o) a w:=λm G=>by
     rcases qW.1 G with rfl|G
     . exact a9
     exact O m G
    cases al with
    |none=>
     rw[g2b]at D;exact⟨λa4=>by rw[D]at a4;simp at a4,λm G=>a5 m (by rw[D]at G;exact G)⟩
    |some l=>
     rw[wF]at D;subst D;exact⟨W,rfl,a5⟩
 |al ac a3 p A=>
  intro f listed al g s t z a E w k _ h;simp only[Sk,qC,vG]at g;obtain⟨⟨rfl,a9⟩,g⟩:=g;obtain⟨ae,X,a7⟩:=h;refine C1x N a8 a1 U I T (t:=t) a9 a7 (λa4 ad u E' o a6 a5 H a2 D=>A a4 ad none a6 a5 t H u E' o a2 (λ_ j=>by cases j) D) f ac a3 listed g s z a E [] k (wR _) (λ_ j=>j) (λr hrp F g1 g2 x D=>?_) (N w);have ab:x∉Bm all a3:=λW=>D (by obtain⟨Y,G,e⟩:=L6.1 W;exact L6.2 ⟨Y,sQ _ G,e⟩)
  rw[g1 x ab,wZ];exact Iv _ _ _ λW=>D (by obtain⟨Y,G,e⟩:=L6.1 W;exact L6.2 ⟨Y,sE _ (hrp.subset G),e⟩)
end Go.Gw
namespace Go.Vc
open Go Go.RowKit Go.Gw
open Go.IntKind (i64)
inductive Ty where
 |int (k:IntKind)
 |bool
 |str
 |unit
 |pair (a b:Ty)
 |sl (t:Ty)
 |ptr (t:Ty)
 |mp (ka:Bool) (kt:Ty) (va:Bool) (vt:Ty)
 deriving DecidableEq
@[reducible] def Ty.den:Ty->Type
 | .int _=>Int
 | .bool=>Bool
 | .str=>ByteArray
 | .unit=>Unit
 | .pair a b=>a.den×b.den
 | .sl t=>List t.den
 | .ptr t=>t.den
 | .mp _ a _ b=>List (a.den×b.den)
def Ty.size:Ty->Nat
 | .unit=>0
 | .pair a b=>a.size+b.size
 | _=>1
def Ty.dflt:(t:Ty)->t.den
 | .int _=>(0:Int)
 | .bool=>false
 | .str=>⟨#[]⟩
 | .unit=>()
 | .pair a b=>(a.dflt,b.dflt)
 | .sl _=> []
 | .ptr t=>t.dflt
 | .mp _ _ _ _=> []
def GU (k:IntKind) (n:Int):Prop:=k.min<=n/\n<=k.max
def Ty.wf:(t:Ty)->t.den->Prop
 | .int k,n=>GU k n
 | .bool,_=>True
 | .str,_=>True
 | .unit,_=>True
 | .pair a b,x=>a.wf x.1/\b.wf x.2
 | .sl t,l=>l.length<=9223372036854775807/\∀x∈l,t.wf x
 | .ptr t,x=>t.wf x
 | .mp _ a _ b,l=>∀x∈l,a.wf x.1/\b.wf x.2
def G5 {α:Type} (R:List Value->α->Prop):List Value->List α->Prop
 |a,[]=>a= []
 |b,x::l=>∃c1 a,b=c1++a/\R c1 x/\G5 R a l
def U9 {α:Type} (R:List Value->α->Prop):Bool->Value->α->Prop
 |true,v,x=>∃a:List Value,v= .agg a.toArray/\R a x
 |false,v,x=>R [v] x
def MOk (a:Array MapEntry) (b:Nat):Prop:=(∀x∈a.toList,x.born<b)/\(a.toList.map (·.born)).Nodup
def T3 {a b:Type} (Rk:Value->a->Prop) (Rv:Value->b->Prop):List MapEntry->List (a×b)->Prop
 |a,[]=>a= []
 |b,x::l=>∃e a,b=e::a/\Rk e.key x.1/\Rv e.val x.2/\T3 Rk Rv a l
def C9:(t:Ty)->World->(Nat->Prop)->List Value->t.den->Prop
 | .int k,_,_,a,n=>a= [.int k n]/\GU k n
 | .bool,_,_,a,b=>a= [.bool b]
 | .str,_,_,a,s=>a= [.string s]
 | .unit,_,_,a,_=>a= []
 | .pair b c,w,Z,d,x=>∃c1 a,d=c1++a/\C9 b w Z c1 x.1/\C9 c w Z a x.2
 | .sl t,w,Z,f,l=>∃b a,f= [.slice b l.length a]/\l.length<=a/\a<=maxLen/\(b=none->a=0)/\(l= []\/∃c o d,b=some ⟨c,o,none⟩/\Z c/\I6 w ⟨c,o,none⟩ d/\G5 (C9 t w Z) d l)
 | .ptr t,w,Z,c,x=>∃b o a,c= [.pointer (some ⟨b,o,none⟩)]/\Z b/\I6 w ⟨b,o,none⟩ a/\C9 t w Z a x
 | .mp f g h i,w,Z,d,l=>(d= [.map none]/\l= [])\/∃b a c,d= [.map (some b)]/\Z b/\w.heap[b]? =some (.map a c)/\MOk a c/\T3 (U9 (C9 g w Z) f) (U9 (C9 i w Z) h) a.toList l
def U9.mono {α:Type} {R R':List Value->α->Prop} (h:∀c x,R c x->R' c x):∀ {a:Bool} {v:Value} {x:α},U9 R a v x->U9 R' a v x
 |true,_,_,⟨b,e,d⟩=>⟨b,e,h _ _ d⟩
 |false,_,_,b=>h _ _ b
def T3.mono {b d:Type} {Rk Rk':Value->b->Prop} {Rv Rv':Value->d->Prop} (h:∀c x,Rk c x->Rk' c x) (a:∀c x,Rv c x->Rv' c x):∀ {l:List (b×d)} {es:List MapEntry},T3 Rk Rv es l->T3 Rk' Rv' es l
 | [],_,b=>b
 | _:: _,_,⟨e,b,i,d,f,g⟩=>⟨e,b,i,h _ _ d,a _ _ f,T3.mono h a g⟩
def T3.mem {b c:Type} {Rk:Value->b->Prop} {Rv:Value->c->Prop} :∀ {l:List (b×c)} {es:List MapEntry} {x:b×c},T3 Rk Rv es l->x∈l->∃e∈es,Rk e.key x.1/\Rv e.val x.2
 |y::l,_,x,⟨e,n,j,f,g,i⟩,a=>by
  rw[j];rcases qW.1 a with rfl|a
  . exact⟨e,by simp,f,g⟩
  obtain⟨d,k,h⟩:=T3.mem i a;exact⟨d,by simp[k],h⟩
section each
variable {α:Type} {R R':List Value->α->Prop}
def G5.mono (h:∀c x,R c x->R' c x):∀ {l:List α} {cs:List Value},G5 R cs l->G5 R' cs l
 | [],_,a=>a
 | _:: _,_,⟨c1,a,e,b,d⟩=>⟨c1,a,e,h _ _ b,G5.mono h d⟩
def G5.append:∀ {l a:List α} {cs cs':List Value},G5 R cs l->G5 R cs' a->G5 R (cs++cs') (l++a)
 | [],_,cs,cs',h,b=>by cases h;simpa using b
 | _:: _,_,_,cs',⟨c1,b,e,d,f⟩,c=>⟨c1,b++cs',by simp[e],d,G5.append f c⟩
def G5.length {s:Nat} (a:∀c x,R c x->c.length=s):∀ {l:List α} {cs:List Value},G5 R cs l->cs.length=l.length*s
 | [],_,h=>by cases h;simp
 | _::l,_,⟨c1,f,e,b,d⟩=>by
  have:=G5.length a d;rw[e,rQ,a _ _ b,this,rK,tZ];omega
def G5.get {s:Nat} (f:∀c x,R c x->c.length=s):∀ {l:List α} {cs:List Value} {i:Nat} {x:α},G5 R cs l->l[i]? =some x->R ((cs.drop (i*s)).take s) x
 | [],_,_,_,_,a=>by simp at a
 |y::l,_,i,x,⟨c1,h,e,b,g⟩,a=>by
  have d:=f _ _ b;cases i with
  |zero=>
   simp at a;subst a;rw[e,xV,tP,g0q d];exact b
  |succ i=>
   simp at a;have:=G5.get f g a;rw[e,tZ,vZ, <-vW,zM d];exact this
def G5.set {s:Nat} (g:∀c x,R c x->c.length=s):∀ {l:List α} {cs:List Value} {i:Nat} {x:α} {c:List Value},G5 R cs l->R c x->i<l.length->G5 R (cs.take (i*s)++c++cs.drop (i*s+s)) (l.set i x)
 | [],_,_,_,_,_,_,a=>by simp at a
 |y::l,_,i,x,c,⟨c1,h,e,b,d⟩,f,k=>by
  have a:=g _ _ b;cases i with
  |zero=>
   refine⟨c,h,?_,f,d⟩;rw[e,xV,sD,g0b,wZ,zM a]
  |succ i=>
   have n:i<l.length:=by simpa using k
   refine⟨c1,_,?_,b,G5.set g d f n⟩;have j:(i+1)*s=s+i*s:=by rw[tZ,vZ]
   rw[e,j,g0j,qP ω,a,g1x,g4s,sG ω,a];simp[(ω:s+i*s+s-s=i*s+s)]
def G5.take {s:Nat} (b:∀c x,R c x->c.length=s):∀ {l:List α} {cs:List Value} (n:Nat),G5 R cs l->G5 R (cs.take (n*s)) (l.take n)
 | [],_,n,h=>by cases h;simp;rfl
 | _::l,_,n,⟨c1,g,e,a,d⟩=>by
  have f:=b _ _ a;cases n with
  |zero=>simp;rfl
  |succ n=>
   refine⟨c1,_,?_,a,G5.take b n d⟩;rw[e,show(n+1)*s=s+n*s from by rw[tZ,vZ],g0j,qP ω,f,g1x]
def G5.drop {s:Nat} (d:∀c x,R c x->c.length=s):∀ {l:List α} {cs:List Value} (n:Nat),G5 R cs l->G5 R (cs.drop (n*s)) (l.drop n)
 | [],_,n,h=>by cases h;simp;rfl
 | _::l,_,n,⟨c1,f,e,a,b⟩=>by
  have g:=d _ _ a;cases n with
  |zero=>simp;exact⟨c1,f,e,a,b⟩
  |succ n=>
   have:=G5.drop d n b;rw[e,show(n+1)*s=s+n*s from by rw[tZ,vZ], <-vW,zM g];exact this
end each
def C9.length:∀ {t:Ty} {w:World} {Z:Nat->Prop} {cs:List Value} {x:t.den},C9 t w Z cs x->cs.length=t.size
 | .int _,_,_,_,_,h=>by rw[h.1];rfl
 | .bool,_,_,_,_,h=>by rw[show _= _ from h];rfl
 | .str,_,_,_,_,h=>by rw[show _= _ from h];rfl
 | .unit,_,_,_,_,h=>by rw[show _= _ from h];rfl
 | .pair c d,_,_,_,_,⟨c1,f,e,a,b⟩=>by rw[e,rQ,C9.length a,C9.length b];rfl
 | .sl _,_,_,_,_,⟨_,_,e,_⟩=>by rw[e];rfl
 | .ptr _,_,_,_,_,⟨_,_,_,e,_⟩=>by rw[e];rfl
 | .mp _ _ _ _,_,_,_,_,h=>by
  rcases h with⟨e,_⟩ | ⟨_,_,_,e,_⟩<;>rw[e]<;>rfl
def O6 (Z:Nat->Prop) (w w':World):Prop:=∀b,Z b->w'.heap[b]? =w.heap[b]?
def Zj {Z:Nat->Prop} {w w':World} {b o:Nat} {a:List Value} (h:I6 w ⟨b,o,none⟩ a) (c:Z b) (d:O6 Z w w'):I6 w' ⟨b,o,none⟩ a:=λj v a=>by
 have:=h j v a;rw[K5]at this|-;rw[<-this];exact World.cell?_of_block (d b c)
def C9.mono:∀ {t:Ty} {w w':World} {Z Z':Nat->Prop} {cs:List Value} {x:t.den},(∀b,Z b->Z' b)->O6 Z w w'->C9 t w Z cs x->C9 t w' Z' cs x
 | .int _,_,_,_,_,_,_,_,_,h=>h
 | .bool,_,_,_,_,_,_,_,_,h=>h
 | .str,_,_,_,_,_,_,_,_,h=>h
 | .unit,_,_,_,_,_,_,_,_,h=>h
 | .pair h b,_,_,_,_,_,_,c,a,⟨c1,d,e,f,g⟩=>⟨c1,d,e,C9.mono c a f,C9.mono c a g⟩
 | .sl t,_,_,_,_,_,_,d,c,⟨f,g,e,j,n,o,i⟩=>⟨f,g,e,j,n,o,i.imp id fun⟨b,r,h,ha,a,k,l⟩=>⟨b,r,h,ha,d b a,Zj k a c,l.mono λ_ _=>C9.mono d c⟩⟩
 | .ptr t,_,_,_,_,_,_,d,c,⟨b,o,f,e,a,g,h⟩=>⟨b,o,f,e,d b a,Zj g a c,C9.mono d c h⟩
 | .mp d f g i,_,_,_,_,_,_,c,a,h=>h.imp id fun⟨b,es,cl,e,d,hh,g,f⟩=>⟨b,es,cl,e,c b d,by rw[a b d];exact hh,g,f.mono (λ_ _ h=>h.mono λ_ _=>C9.mono c a) (λ_ _ h=>h.mono λ_ _=>C9.mono c a)⟩
def U9.wf' {t:Ty} {R:List Value->t.den->Prop} (b:∀cs x,R cs x->t.wf x):∀ {a:Bool} {v:Value} {x:t.den},U9 R a v x->t.wf x
 |true,_,_,⟨_,_,h⟩=>b _ _ h
 |false,_,_,h=>b _ _ h
def C9.wf:∀ {t:Ty} {w:World} {Z:Nat->Prop} {cs:List Value} {x:t.den},C9 t w Z cs x->t.wf x
 | .int _,_,_,_,_,h=>h.2
 | .bool,_,_,_,_,_=>trivial
 | .str,_,_,_,_,_=>trivial
 | .unit,_,_,_,_,_=>trivial
 | .pair c d,_,_,_,_,⟨c1,f,e,a,b⟩=>⟨C9.wf a,C9.wf b⟩
 | .sl t,_,_,_,o,⟨g,k,e,n,d,_,h⟩=>⟨by simp only[maxLen]at d;omega,by
  rcases h with h| ⟨j,r,l,_,_,_,b⟩
  . intro x a;rw[h]at a;cases a
  intro x a;obtain⟨i,c,f⟩:=g0x a;exact C9.wf (t:=t) (G5.get (R:=C9 t _ _) (s:=t.size) (λ_ _ h=>C9.length h) b (i:=i) (by rw[qM c,f]))⟩
 | .ptr t,_,_,_,_,⟨b,o,c,e,d,f,a⟩=>C9.wf (t:=t) a
 | .mp o r v y,_,_,_,u,h=>by
  rcases h with⟨_,e⟩ | ⟨f,j,g,e,k,l,n,d⟩
  . intro x a;rw[e]at a;cases a
  intro x a;obtain⟨m,_,b,c⟩:=d.mem a;exact⟨U9.wf' (λ_ _=>C9.wf) b,U9.wf' (λ_ _=>C9.wf) c⟩
def C9.oneCell:∀ {t:Ty} {w:World} {Z:Nat->Prop} {cs:List Value} {x:t.den},C9 t w Z cs x->∀u∈cs,u.oneCell'=true
 | .int _,_,_,_,_,h=>by rw[h.1];exact Mk rfl Lg
 | .bool,_,_,_,_,h=>by rw[show _= _ from h];exact Mk rfl Lg
 | .str,_,_,_,_,h=>by rw[show _= _ from h];exact Mk rfl Lg
 | .unit,_,_,_,_,h=>by rw[show _= _ from h];exact Lg
 | .pair a d,_,_,_,_,⟨c1,f,e,b,c⟩=>by
  rw[e];intro u a;rcases qU.1 a with a|a
  . exact C9.oneCell b u a
  exact C9.oneCell c u a
 | .sl _,_,_,_,_,⟨_,_,e,_⟩=>by rw[e];exact Mk rfl Lg
 | .ptr _,_,_,_,_,⟨_,_,_,e,_⟩=>by rw[e];exact Mk rfl Lg
 | .mp _ _ _ _,_,_,_,_,h=>by
  rcases h with⟨e,_⟩ | ⟨_,_,_,e,_⟩<;>rw[e]<;>exact Mk rfl Lg
def G5.oneCell {t:Ty} {w:World} {Z:Nat->Prop} :∀ {l:List t.den} {cs:List Value},G5 (C9 t w Z) cs l->∀u∈cs,u.oneCell'=true
 | [],_,h=>by rw[show _= _ from h];exact Lg
 | _:: _,_,⟨c1,a,e,b,c⟩=>by
  rw[e];intro u a;rcases qU.1 a with a|a
  . exact C9.oneCell b u a
  exact G5.oneCell c u a
def M6 {w:World} {b o:Nat} {c:List Value} (h:I6 w ⟨b,o,none⟩ c) (i n:Nat):I6 w ⟨b,o+i,none⟩ ((c.drop i).take n):=λj v a=>by
 rw[K5];rw[wA]at a;split at a
 . rw[xK]at a;have:=h (i+j) v a;rw[K5]at this;rw[uS];exact this
 cases a
@[reducible] def Z4:List (Bool×Ty)->Type
 | []=>Unit
 | (_,t)::r=>t.den×Z4 r
inductive C where
 |val (t:Ty) (x:t.den)
 |row (k:Nat)
 |box (k off:Nat)
 |elp (k sz i off:Nat)
 |win (k sz:Nat) (lo hi:Int)
 |pf (t:Ty) (x:t.den) (off:Nat)
 |mp (k:Nat)
 |fn (f:FuncId) (caps:List Nat)
 |fv (P:Program) (as:List (Bool×Ty)) (ra:Bool) (r:Ty) (ok:Z4 as->Prop) (φ:Z4 as->r.den)
 |raw (v:Value)
 |dead
structure SV where
 agg:Bool
 cs:List C
inductive DV where
 |one (v:SV)
 |tup (vs:List SV)
 |cnd (t:Tmp) (b:Bool) (v:SV)
 |dead
inductive LC where
 |none
 |box (ty:TypeId) (cs:List C)
 |row (t:Ty) (e:TypeId) (l:List t.den)
 |map (ka:Bool) (kt:Ty) (va:Bool) (vt:Ty) (es:List (kt.den×vt.den))
 |rows (t:Ty) (e e':TypeId) (ls:List (List t.den)) (al:List (Nat×Nat)) (ho:Option Nat)
 |al (k:Nat)
 |sbox (q:Nat) (t:Ty) (x:t.den)
 |mapE (ka:Bool) (kt:Ty) (va:Bool) (vt:Ty) (es:List (kt.den×vt.den)) (j q:Nat)
 |iter (ka:Bool) (kt:Ty) (va:Bool) (vt:Ty) (left:List (kt.den×vt.den)) (cur:Option (kt.den×vt.den))
 |nest (t:Ty) (e e':TypeId) (ls:List t.den) (bo:List (Nat×Nat)) (dd:List Nat)
 |itM (ka:Bool) (kt:Ty) (va:Bool) (vt:Ty) (es left:List (kt.den×vt.den)) (cur:Option (kt.den×vt.den)) (q:Nat)
structure St where
 sl:List (Nat×Nat×DV)
 lc:List (Nat×Nat×LC)
 nx:Nat
 ct:Nat
 nm:Nat:=0
 fr:List (List (Nat×Nat×DV)):= []
def FL:Option Prop->Prop
 |none=>True
 |some a=>a
def cN (φ:Option Prop) (p:Prop):Prop:=match φ with
 |none=>p
 |some φ=>φ/\p
def F1 {φ:Option Prop} {p:Prop} :cN φ p↔FL φ/\p:=by cases φ<;>simp[cN,FL]
def B8e (c:Prop) (φ:Option Prop):Option Prop:=match φ with
 |none=>none
 |some φ=>some (c->φ)
def oN {c:Prop} {φ:Option Prop} :FL (B8e c φ)↔(c->FL φ):=by cases φ<;>simp[B8e,FL]
def L5 {α:Type} (e:Bool) (x y:α):α:=bif e then x else y
def find {α:Type} (d:α) (s:Nat):List (Nat×α)->α
 | []=>d
 | (t,x)::l=>bif Nat.beq t s then x else find d s l
def St.eS (a:St) (s:Nat):Nat×DV:=find (0, .dead) s a.sl
def St.eL (a:St) (k:Nat):Nat×LC:=find (0, .none) k a.lc
def St.S (a:St) (s:Nat):DV:=(a.eS s).2
def St.L (a:St) (k:Nat):LC:=(a.eL k).2
def put {α:Type} (s:Nat) (x:α):List (Nat×α)->List (Nat×α)
 | []=> [(s,x)]
 | (t,y)::l=>bif Nat.beq t s then(t,x)::l else(t,y)::put s x l
def Zq {α:Type} (d:α) (s:Nat) (x:α) (q:Nat):∀l:List (Nat×α),find d q (put s x l)=if q=s then x else find d q l
 | []=>by
  simp only[put,find];by_cases h:q=s
  . simp[h]
  simp[h,E9 (Ne.symm h)]
 | (t,y)::l=>by
  have f:=Zq d s x q l;simp only[put];cases a:Nat.beq t s with
  |true=>
   have b:=qD a;subst b;simp only[qS,find];by_cases h:q=t
   . simp[h]
   simp[h,E9 (Ne.symm h)]
  |false=>
   have g:t≠s:=uK a;simp only[rI,find,f];cases c:Nat.beq t q with
   |true=>
    have b:=qD c;subst b;simp[g]
   |false=>simp
def GV (t:Nat):DV->Bool
 | .cnd a _ _=>Nat.beq a t
 | _=>false
def unc (t g:Nat):Nat×DV->Nat×DV
 | (n, .cnd a b v)=>bif Nat.beq a t then(g, .dead)else(n, .cnd a b v)
 | (n, .one v)=>(n, .one v)
 | (n, .tup v)=>(n, .tup v)
 | (n, .dead)=>(n, .dead)
def C4x (t g:Nat) (d:Nat×DV):unc t g d=bif GV t d.2 then(g, .dead)else d:=by
 obtain⟨n,d⟩:=d;cases d<;>rfl
def A0u (t g:Nat):List (Nat×Nat×DV)->List (Nat×Nat×DV)
 | []=> []
 | (s,d)::l=>(s,unc t g d)::A0u t g l
def XT (t g q:Nat):∀l:List (Nat×Nat×DV),find (0, .dead) q (A0u t g l)=bif GV t (find (0, .dead) q l).2 then(g, .dead)else find (0, .dead) q l
 | []=>by simp[A0u,find,GV]
 | (s,d)::l=>by
  have a:=XT t g q l;simp only[A0u,find,C4x];cases Nat.beq s q<;>simp[a]
def St.setS (a:St) (d:Nat) (x:DV):St:=⟨put d (a.ct+1,x) (A0u d (a.ct+1) a.sl),a.lc,a.nx,a.ct+1,a.nm,a.fr⟩
def St.setL (a:St) (k:Nat) (x:LC):St:=⟨a.sl,put k (a.ct+1,x) a.lc,a.nx,a.ct+1,a.nm,a.fr⟩
def St.newL (a:St) (x:LC):St:=⟨a.sl,put a.nx (a.ct+1,x) a.lc,a.nx+1,a.ct+1,a.nm,a.fr⟩
def St.eS_setS (a:St) (d s:Nat) (x:DV):(a.setS d x).eS s=if s=d then(a.ct+1,x)else bif GV d (a.S s)then(a.ct+1, .dead)else a.eS s:=by
 unfold St.eS St.setS;simp only;rw[Zq,XT];rfl
def St.S_setS (a:St) (d s:Nat) (x:DV):(a.setS d x).S s=if s=d then x else bif GV d (a.S s)then .dead else a.S s:=by
 show((a.setS d x).eS s).2= _;rw[St.eS_setS];split
 . rfl
 cases GV d (a.S s)<;>rfl
def St.eL_setL (a:St) (k q:Nat) (x:LC):(a.setL k x).eL q=if q=k then(a.ct+1,x)else a.eL q:=Zq ..
def St.L_setL (a:St) (k q:Nat) (x:LC):(a.setL k x).L q=if q=k then x else a.L q:=by
 show((a.setL k x).eL q).2= _;rw[St.eL_setL];split<;>rfl
def St.eL_newL (a:St) (q:Nat) (x:LC):(a.newL x).eL q=if q=a.nx then(a.ct+1,x)else a.eL q:=Zq ..
def St.L_newL (a:St) (q:Nat) (x:LC):(a.newL x).L q=if q=a.nx then x else a.L q:=by
 show((a.newL x).eL q).2= _;rw[St.eL_newL];split<;>rfl
def Q6 (n:Nat):List (Nat×Nat×DV)->List (Nat×Nat×DV)->Prop
 | [],[]=>True
 | (s,e)::l,(c,a)::b=>c=s/\(a.1<=n->a=e)/\Q6 n l b
 | _,_=>False
def Bd (n:Nat):List (List (Nat×Nat×DV))->List (List (Nat×Nat×DV))->Prop
 | [],[]=>True
 |f::l,a::b=>Q6 n f a/\Bd n l b
 | _,_=>False
def Q6.refl (n:Nat):∀l,Q6 n l l
 | []=>trivial
 | (_,_)::l=>⟨rfl,λ_=>rfl,Q6.refl n l⟩
def Bd.refl (n:Nat):∀l,Bd n l l
 | []=>trivial
 |f::l=>⟨Q6.refl n f,Bd.refl n l⟩
def Q6.trans {n m:Nat} (f:n<=m):∀ {a b c},Q6 n a b->Q6 m b c->Q6 n a c
 | [],[],[],_,_=>trivial
 | (_,_):: _,(_,_):: _,(_,_):: _,⟨g,i,k⟩,⟨h,j,l⟩=>⟨h.trans g,λd=>by
  have:=j (qX d f);rw[this]at d|-;exact i d,Q6.trans f k l⟩
 | [],[],_:: _,_,h=>h.elim
 | [],_:: _,_,h,_=>h.elim
 | _:: _,[],_,h,_=>h.elim
 | (_,_):: _,(_,_):: _,[],_,h=>h.elim
def Bd.trans {n m:Nat} (d:n<=m):∀ {a b c},Bd n a b->Bd m b c->Bd n a c
 | [],[],[],_,_=>trivial
 | _:: _,_:: _,_:: _,h,k=>⟨h.1.trans d k.1,Bd.trans d h.2 k.2⟩
 | [],[],_:: _,_,h=>h.elim
 | [],_:: _,_,h,_=>h.elim
 | _:: _,[],_,h,_=>h.elim
 | _:: _,_:: _,[],_,h=>h.elim
def Q6.le {n m:Nat} (c:n<=m) {a b} (h:Q6 m a b):Q6 n a b:=(Q6.refl n a).trans c h
def Bd.le {n m:Nat} (c:n<=m) {a b} (h:Bd m a b):Bd n a b:=(Bd.refl n a).trans c h
def Q6.find {n:Nat} {d:Nat×DV} (s:Nat):∀ {a b},Q6 n a b->(Vc.find d s b).1<=n->Vc.find d s b=Vc.find d s a
 | [],[],_,_=>rfl
 | (t,e)::a,(j,k)::b,⟨f,g,i⟩,h=>by
  subst f;simp only[Vc.find]at h|-;cases c:Nat.beq j s with
  |true=>rw[c]at h;exact g h
  |false=>rw[c]at h;exact Q6.find s i h
 | [],_:: _,h,_=>h.elim
 | _:: _,[],h,_=>h.elim
def C3s (n:Nat) (a:List (List (Nat×Nat×DV))):Bool:=a.all λf=>f.all λe=>Nat.ble e.2.1 n
def Q6.old {n:Nat} :∀ {a b},Q6 n a b->(b.all λe=>Nat.ble e.2.1 n)=true->b=a
 | [],[],_,_=>rfl
 | (t,e)::a,(i,g)::b,⟨c,d,f⟩,h=>by
  simp only[tN,qC]at h;rw[c,d (qO h.1),Q6.old f h.2]
 | [],_:: _,h,_=>h.elim
 | _:: _,[],h,_=>h.elim
def Bd.old {n:Nat} :∀ {a b},Bd n a b->C3s n b=true->b=a
 | [],[],_,_=>rfl
 |f::a,g::b,⟨c,d⟩,h=>by
  simp only[C3s,tN,qC]at h;rw[c.old h.1,Bd.old d h.2]
 | [],_:: _,h,_=>h.elim
 | _:: _,[],h,_=>h.elim
structure C4 (st st':St):Prop where
 ct:st.ct<=st'.ct
 s:∀s,(st'.eS s).1≠0->(st'.eS s).1<=st.ct->st'.eS s=st.eS s
 l:∀k,(st'.eL k).1≠0->(st'.eL k).1<=st.ct->st'.eL k=st.eL k
 f:Bd st.ct st.fr st'.fr
def C4.refl (a:St):C4 a a:=⟨qV _,λ_ _ _=>rfl,λ_ _ _=>rfl,Bd.refl _ _⟩
def Bl (a:Bool) (t:Ty) (w:World) (Z:Nat->Prop) (v:Value) (x:t.den):Prop:=U9 (C9 t w Z) a v x
def VY (w:World) (Z:Nat->Prop):(as:List (Bool×Ty))->List Value->Z4 as->Prop
 | [],a,_=>a= []
 | (b,t)::r,c,x=>∃v a,c=v::a/\Bl b t w Z v x.1/\VY w Z r a x.2
def A1h (P:Program) (w:World) (Z:Nat->Prop) (v:Value) (as:List (Bool×Ty)) (h:Bool) (r:Ty) (c:Z4 as->Prop) (φ:Z4 as->r.den):Prop:=
 ∃g,∃d:List Value,v= .func (.func g) #[] d.toArray/\Gq P g=true/\∀(a:World) (Z':Nat->Prop) (f:List Value) (x:Z4 as),O6 Z w a->(∀b,Z b->b<a.heap.size)->(∀b,Z' b->b<a.heap.size)->VY a Z' as f x->c x->
  Gw.cD P g (f++d) a λu c=>R5 a c/\∃Zn:Nat->Prop,(∀b,Zn b->(a.heap.size<=b/\b<c.heap.size)\/Z b\/Z' b)/\Bl h r c Zn u (φ x)
def RC (w:World) (Z:Nat->Prop) (B:Nat->Value):C->Value->Prop
 | .val t x,v=>C9 t w Z [v] x
 | .row k,v=>v=B k
 | .box k a,v=>∃b,B k= .pointer (some ⟨b,0,none⟩)/\v= .pointer (some ⟨b,a,none⟩)
 | .elp k sz i c,v=>∃b n a,B k= .slice (some ⟨b,0,none⟩) n a/\i<n/\v= .pointer (some ⟨b,i*sz+c,none⟩)
 | .win k sz b d,v=>∃c n a,B k= .slice c n a/\(∀x,c=some x->∃g,x=⟨g,0,none⟩)/\(c=none->a=0)/\0<=b/\b<=d/\d<=(n:Int)/\n<=a/\a<=maxLen/\v= .slice (if a=b.toNat then c else c.map (·.add (b.toNat*sz))) (d.toNat-b.toNat) (a-b.toNat)
 | .pf t x c,v=>∃b o a,v= .pointer (some ⟨b,o+c,none⟩)/\Z b/\I6 w ⟨b,o,none⟩ a/\C9 t w Z a x
 | .mp k,v=>v=B k
 | .fn f a,v=>v= .func (.func f) #[] (a.map B).toArray
 | .fv P as b r a c,v=>A1h P w Z v as b r a c
 | .raw a,v=>v=a/\a.oneCell'=true
 | .dead,_=>True
def Db (w:World) (Z:Nat->Prop) (B:Nat->Value):List C->List Value->Prop
 | [],a=>a= []
 |c::b,d=>∃v a,d=v::a/\RC w Z B c v/\Db w Z B b a
def RS (w:World) (Z:Nat->Prop) (B:Nat->Value):SV->Value->Prop
 | ⟨true,b⟩,v=>∃a:List Value,v= .agg a.toArray/\Db w Z B b a
 | ⟨false,a⟩,v=>Db w Z B a [v]
def Nz (w:World) (Z:Nat->Prop) (B:Nat->Value):List SV->List Value->Prop
 | [],a=>a= []
 |c::b,d=>∃v a,d=v::a/\RS w Z B c v/\Nz w Z B b a
def RD (w:World) (Z:Nat->Prop) (B:Nat->Value) (E:G8):DV->Value->Prop
 | .one s,v=>RS w Z B s v
 | .tup b,v=>∃a:List Value,v= .tuple a.toArray/\Nz w Z B b a
 | .cnd t b s,v=>(E t= .bool b/\RS w Z B s v)\/(E t≠ .bool b/\v=undef)
 | .dead,_=>True
def La (w:World) (Z:Nat->Prop) (c:Bool) (a:Ty) (d:Bool) (b:Ty) (es:List MapEntry) (l:List (a.den×b.den)):Prop:=T3 (U9 (C9 a w Z) c) (U9 (C9 b w Z) d) es l
def root:Value->Option Nat
 | .pointer (some a)=>some a.block
 | .slice (some a) _ _=>some a.block
 | .map r=>r
 | _=>none
def Eo:Option Nat->Nat->Bool
 |none,_=>false
 |some j,i=>Nat.beq j i
def H7 (a:List (Nat×Nat)) (dd:List Nat) (i:Nat):Bool:=(a.any λp=>Nat.beq p.1 i) ||dd.any λj=>Nat.beq j i
def T5 (w:World) (v:Value) (H:Nat->Bool) (b:Nat):Prop:=root v=some b\/∃g n c a e i x,v= .slice (some ⟨g,0,none⟩) n c/\w.heap[g]? =some (.cells a e (0,0))/\i<n/\H i=false/\a[i]? =some x/\root x=some b
def B4 (w:World) (v:Value):LC->Nat->Prop
 | .none,_=>False
 | .box _ _,b=>root v=some b
 | .row _ _ _,b=>root v=some b
 | .map _ _ _ _ _,b=>root v=some b
 | .iter _ _ _ _ _ _,b=>root v=some b
 | .mapE _ _ _ _ _ _ _,b=>root v=some b
 | .al _,_=>False
 | .sbox _ _ _,_=>False
 | .nest _ _ _ _ a c,b=>T5 w v (H7 a c) b
 | .itM _ _ _ _ _ _ _ _,b=>root v=some b\/∃r c s a,v= .pointer (some ⟨r,0,none⟩)/\w.heap[r]? =some (.mapIter (some b) c s a)
 | .rows _ _ _ _ _ d,b=>root v=some b\/∃g n c a e i x,v= .slice (some ⟨g,0,none⟩) n c/\w.heap[g]? =some (.cells a e (0,0))/\i<n/\Eo d i=false/\a[i]? =some x/\root x=some b
def AtV (xs:List Value) (i:Nat) (v:Value):Prop:=xs[i]? =some v\/(xs.length<=i/\v= .slice none 0 0)
def Inn (w:World) (Z:Nat->Prop) (B:Nat->Value) (t:Ty) (e':TypeId) (ls:List (List t.den)) (al:List (Nat×Nat)) (a:Option Nat) (xs:List Value):Prop:=
 (∀p∈al,AtV xs p.1 (B p.2))/\(∀i l x,Eo a i=false->ls[i]? =some l->xs[i]? =some x->∃b,w.ownsRow 0 e' t.size x l.length b/\G5 (C9 t w Z) b l)/\
  ∀i j x y b,i≠j->Eo a i=false->Eo a j=false->xs[i]? =some x->xs[j]? =some y->root x=some b->root y≠some b
def ItR (w:World) (Z:Nat->Prop) (f:Bool) (c:Ty) (g:Bool) (d:Ty) (r:Nat) (left:List (c.den×d.den)) (cur:Option (c.den×d.den)):Prop:=
 (w.heap[r]? =some (.mapIter none 0 #[] 0)/\left= []/\cur=none)\/
 ∃(m:Nat) (seen:Array Nat) (b:Array MapEntry) (a:Nat),w.heap[r]? =some (.mapIter (some m) a seen a)/\Z m/\w.heap[m]? =some (.map b a)/\MOk b a/\La w Z f c g d (leftOf b seen).toList left/\
  ∀x,cur=some x->∃e∈b.toList,(∃a:Array Nat,seen=a.push e.born)/\U9 (C9 c w Z) f e.key x.1/\U9 (C9 d w Z) g e.val x.2
def TF:(t:Ty)->TypeId->World->(Nat->Prop)->Value->t.den->Prop
 | .sl t,b,w,Z,v,l=>∃a:List Value,w.ownsRow 0 b t.size v (List.length l) a/\G5 (C9 t w Z) a l
 | .mp f g h i,_,w,Z,v,d=>∃b a c,v= .map (some b)/\w.heap[b]? =some (.map a c)/\MOk a c/\La w Z f g h i a.toList d
 | _,_,_,_,_,_=>False
structure mC (w:World) (Z:Nat->Prop) (B:Nat->Value) (t:Ty) (e e':TypeId) (ls:List t.den) (bo:List (Nat×Nat)) (dd:List Nat) (v:Value) (xs:List Value):Prop where
 own:w.ownsRow 0 e 1 v ls.length xs
 out:∀p∈bo,xs[p.1]? =some (B p.2)
 elt:∀i l x,H7 bo dd i=false->ls[i]? =some l->xs[i]? =some x->TF t e' w Z x l
 dis:∀i j x y b,i≠j->H7 bo dd i=false->H7 bo dd j=false->xs[i]? =some x->xs[j]? =some y->root x=some b->root y≠some b
 top:∀i x b,H7 bo dd i=false->xs[i]? =some x->root x=some b->root v≠some b
structure C5g (w:World) (Z:Nat->Prop) (ka:Bool) (kt:Ty) (va:Bool) (vt:Ty) (es left:List (kt.den×vt.den)) (cur:Option (kt.den×vt.den)) (r m:Nat) (seen:Array Nat) (ents:Array MapEntry) (clock:Nat):Prop where
 it:w.heap[r]? =some (.mapIter (some m) clock seen clock)
 mp:w.heap[m]? =some (.map ents clock)
 ok:MOk ents clock
 all:La w Z ka kt va vt ents.toList es
 rest:La w Z ka kt va vt (leftOf ents seen).toList left
 cur:∀x,cur=some x->∃e∈ents.toList,(∃seen':Array Nat,seen=seen'.push e.born)/\U9 (C9 kt w Z) ka e.key x.1/\U9 (C9 vt w Z) va e.val x.2
def RL (U:Nat->Prop) (w:World) (Z:Nat->Prop) (B:Nat->Value) (k:Nat):LC->Prop
 | .none=>True
 | .box d c=>∃b a,B k= .pointer (some ⟨b,0,none⟩)/\U b/\¬Z b/\KJ w b a d/\Db w Z B c a.toList
 | .row t e l=>∃a,w.ownsRow 0 e t.size (B k) l.length a/\G5 (C9 t w Z) a l/\∀b,(B k).ownBlock=some b->U b/\¬Z b
 | .map f g h i d=>∃b a c,B k= .map (some b)/\U b/\¬Z b/\w.heap[b]? =some (.map a c)/\MOk a c/\La w Z f g h i a.toList d
 | .al _=>True
 | .sbox q t x=>q=k/\C9 (.ptr t) w Z [B q] x/\∃b,B q= .pointer (some ⟨b,0,none⟩)
 | .mapE f g h i d j q=>∃b a c,B k= .map (some b)/\U b/\¬Z b/\w.heap[b]? =some (.map a c)/\(MOk a c/\La w Z f g h i a.toList d)/\∃e:MapEntry,a.toList[j]? =some e/\B q= .int .i64 e.born
 | .iter b c d f left a=>∃r,B k= .pointer (some ⟨r,0,none⟩)/\U r/\¬Z r/\ItR w Z b c d f r left a
 | .nest t e d f a c=>∃g,mC w Z B t e d f a c (B k) g/\∀b,T5 w (B k) (H7 a c) b->U b/\¬Z b/\b<w.heap.size
 | .itM f g h i d left b q=>∃r m seen c a,B k= .pointer (some ⟨r,0,none⟩)/\B q= .map (some m)/\C5g w Z f g h i d left b r m seen c a/\U r/\¬Z r/\U m/\¬Z m
 | .rows t e f c al a=>∃d,w.ownsRow 0 e 1 (B k) c.length d/\Inn w Z B t f c al a d/\(∀i x b,Eo a i=false->d[i]? =some x->root x=some b->root (B k)≠some b)/\∀b,B4 w (B k) (.rows t e f c al a) b->U b/\¬Z b/\b<w.heap.size
def live:LC->Prop
 | .none=>False
 | .al _=>False
 | .sbox _ _ _=>False
 | _=>True
def Cz (n:Nat):C->Prop
 | .row k=>k<n
 | .box k _=>k<n
 | .elp k _ _ _=>k<n
 | .win k _ _ _=>k<n
 | .mp k=>k<n
 | .fn _ a=>∀k∈a,k<n
 | _=>True
def Mp (n:Nat) (s:SV):Prop:=∀c∈s.cs,Cz n c
def MP (n:Nat):DV->Prop
 | .one s=>Mp n s
 | .tup a=>∀s∈a,Mp n s
 | .cnd _ _ s=>Mp n s
 | .dead=>True
def AQ (n:Nat):LC->Prop
 | .box _ a=>∀c∈a,Cz n c
 | .rows _ _ _ _ al _=>∀p∈al,p.2<n
 | .mapE _ _ _ _ _ _ q=>q<n
 | .sbox q _ _=>q<n
 | .nest _ _ _ _ a _=>∀p∈a,p.2<n
 | .itM _ _ _ _ _ _ _ q=>q<n
 | _=>True
structure Zn where
 z:Nat->Prop
 m:Nat->Prop
 n:Nat
 v:Nat->Value
 k0:Nat:=0
 b0:Nat:=0
 f:Nat->Nat->Prop
 fm:∀k b,f k b->m b
 es:List G8:= []
def RF (w:World) (Z:Nat->Prop) (B:Nat->Value):List G8->List (List (Nat×Nat×DV))->Prop
 | [],[]=>True
 |E::a,f::b=>(∀s,RD w Z B E (find (0, .dead) s f).2 (E s))/\RF w Z B a b
 | _,_=>False
def mE (n:Nat) (a:List (List (Nat×Nat×DV))):Prop:=∀f∈a,∀s,MP n (find (0, .dead) s f).2
structure Y6 (m:Nat->Prop) (w w':World):Prop where
 os:w'.os=w.os
 tape:w'.tape=w.tape
 output:w'.output=w.output
 size:w.heap.size<=w'.heap.size
 block:∀k,k<w.heap.size->¬m k->w'.heap[k]? =w.heap[k]?
 drw:True
def Y6.of {m:Nat->Prop} {w w':World} (h:R5 w w'):Y6 m w w':=⟨h.os,h.tape,h.output,h.size,λk a _=>h.block k a,h.drw⟩
def Y6.ext {m:Nat->Prop} {w w':World} (h:Y6 m w w') (c:∀b,¬m b):R5 w w':=⟨⟨h.os,h.tape,h.output,h.size,λk a=>h.block k a (c k)⟩,h.drw⟩
def Y6.trans {m:Nat->Prop} {a b c:World} (h:Y6 m a b) (k:R5 b c):Y6 m a c:=⟨k.os.trans h.os,k.tape.trans h.tape,k.output.trans h.output,qX h.size k.size,λi d f=>(k.block i (rJ d h.size)).trans (h.block i d f),trivial⟩
def Y6.chg {m:Nat->Prop} {d w w':World} {b:Nat} (h:Y6 m d w) (a:VX b w w') (c:d.heap.size<=b\/m b):Y6 m d w':=
 ⟨a.1.trans h.os,a.2.1.trans h.tape,a.2.2.1.1.trans h.output,by rw[a.2.2.2.1];exact h.size,λk f g=>(a.2.2.2.2 k (λe=>by subst e;rcases c with c|c;exact absurd f ω;exact g c)).trans (h.block k f g),trivial⟩
def Y6.grown {m:Nat->Prop} {d w w':World} {row:Option Nat} (h:Y6 m d w) (a:w.grownBy w' row) (f:w.drawn<=w'.drawn) (c:∀b,row=some b->d.heap.size<=b\/m b):Y6 m d w':=
 ⟨a.os.trans h.os,a.tape.trans h.tape,a.output.trans h.output,qX h.size a.size,λk d f=>(a.block k (rJ d h.size) (λe=>by rcases c k e.symm with c|c;exact absurd d ω;exact f c)).trans (h.block k d f),trivial⟩
def up (a:Zn) (c:World) (k:Nat):Nat->Prop:=λb=>(a.n<=k/\c.heap.size<=b)\/(k<a.n/\a.f k b)
def up.m {a:Zn} {c:World} {k b:Nat} (h:up a c k b):c.heap.size<=b\/a.m b:=h.imp And.right λh=>a.fm k b h.2
structure C3 (za:Zn) (w0:World) (st:St) (E:G8) (w:World) (Z:Nat->Prop) (B:Nat->Value):Prop where
 ext:Y6 za.m w0 w
 zlt:∀b,Z b->b<w.heap.size
 slots:∀s,RD w Z B E (st.S s) (E s)
 locs:∀k,RL (up za w0 k) w Z B k (st.L k)
 disj:∀k k' b,k≠k'->B4 w (B k) (st.L k) b->¬B4 w (B k') (st.L k') b
 refs:∀s,MP st.nx (st.S s)
 refl:∀k,AQ st.nx (st.L k)
 fresh:∀k,st.nx<=k->st.L k= .none
 bone:∀k,(B k).oneCell'=true
 zin:∀b,Z b->za.z b\/w0.heap.size<=b
 nms:st.nm=za.n/\za.n<=st.nx
 bfix:∀k,k<za.n->B k=za.v k
 mrk:za.b0<=w.heap.size/\∀k b,za.k0<=k->B4 w (B k) (st.L k) b->za.b0<=b
 frs:RF w Z B za.es st.fr
 frf:mE st.nx st.fr
section mono
variable {w w':World} {Z Z':Nat->Prop} {B B':Nat->Value} {n:Nat}
def RC.mono (d:∀b,Z b->Z' b) (f:O6 Z w w') (a:∀k,k<n->B' k=B k):∀ {c:C} {v:Value},Cz n c->RC w Z B c v->RC w' Z' B' c v
 | .val _ _,_,_,h=>C9.mono d f h
 | .row k,_,g,h=>h.trans (a k g).symm
 | .box k i,_,g,⟨b,e,h⟩=>⟨b,(a k g).trans e,h⟩
 | .elp k sz j l,_,i,⟨b,m,g,e,h⟩=>⟨b,m,g,(a k i).trans e,h⟩
 | .win k sz o l,_,j,⟨g,m,h,e,i⟩=>⟨g,m,h,(a k j).trans e,i⟩
 | .pf t x l,_,_,⟨b,o,h,e,g,j,i⟩=>⟨b,o,h,e,d b g,Zj j g f,C9.mono d f i⟩
 | .mp k,_,g,h=>h.trans (a k g).symm
 | .fn j g,_,i,h=>by
  show _= _;rw[show _= _ from h];congr 2;exact g3u λk g=>(a k (i k g)).symm
 | .fv P as j r i l,_,_,⟨g,a,e,s,h⟩=>⟨g,a,e,s,λu Z2 t x i j l o r=>(h u Z2 t x (λb a=>(i b (d b a)).trans (f b a)) (λb a=>j b (d b a)) l o r).mono λu g ⟨f,Zn,g2,g3⟩=>⟨f,Zn,λb a=>(g2 b a).imp id (Or.imp (d b) id),g3⟩⟩
 | .raw _,_,_,h=>h
 | .dead,_,_,_=>trivial
def Db.mono (g:∀b,Z b->Z' b) (f:O6 Z w w') (a:∀k,k<n->B' k=B k):∀ {cs:List C} {vs:List Value},(∀c∈cs,Cz n c)->Db w Z B cs vs->Db w' Z' B' cs vs
 | [],_,_,h=>h
 |c::cs,_,d,⟨v,l,e,h,i⟩=>⟨v,l,e,RC.mono g f a (d c (by simp)) h,Db.mono g f a (λc j=>d c (by simp[j])) i⟩
def RS.mono (d:∀b,Z b->Z' b) (c:O6 Z w w') (a:∀k,k<n->B' k=B k):∀ {s:SV} {v:Value},Mp n s->RS w Z B s v->RS w' Z' B' s v
 | ⟨true,cs⟩,_,f,⟨g,e,h⟩=>⟨g,e,Db.mono d c a f h⟩
 | ⟨false,cs⟩,_,f,h=>Db.mono (cs:=cs) d c a f h
def Nz.mono (g:∀b,Z b->Z' b) (f:O6 Z w w') (a:∀k,k<n->B' k=B k):∀ {cs:List SV} {vs:List Value},(∀c∈cs,Mp n c)->Nz w Z B cs vs->Nz w' Z' B' cs vs
 | [],_,_,h=>h
 |c::cs,_,d,⟨v,l,e,h,i⟩=>⟨v,l,e,RS.mono g f a (d c (by simp)) h,Nz.mono g f a (λc j=>d c (by simp[j])) i⟩
def RD.mono {E:G8} (f:∀b,Z b->Z' b) (c:O6 Z w w') (a:∀k,k<n->B' k=B k):∀ {d:DV} {v:Value},MP n d->RD w Z B E d v->RD w' Z' B' E d v
 | .one _,_,g,h=>RS.mono f c a g h
 | .tup _,_,g,⟨i,e,h⟩=>⟨i,e,Nz.mono f c a g h⟩
 | .cnd _ _ _,_,i,h=>h.imp (fun⟨g,b⟩=>⟨g,RS.mono f c a i b⟩) id
 | .dead,_,_,_=>trivial
def RF.mono (f:∀b,Z b->Z' b) (d:O6 Z w w') (c:∀k,k<n->B' k=B k):∀ {es:List G8} {a:List (List (Nat×Nat×DV))},mE n a->RF w Z B es a->RF w' Z' B' es a
 | [],[],_,_=>trivial
 |E::es,g::h,a,⟨i,j⟩=>⟨λs=>RD.mono f d c (a g (by simp) s) (i s),RF.mono f d c (λh l=>a h (by simp[l])) j⟩
 | [],_:: _,_,h=>h.elim
 | _:: _,[],_,h=>h.elim
def Bl.mono {a:Bool} {t:Ty} {v:Value} {x:t.den} (d:∀b,Z b->Z' b) (c:O6 Z w w') (h:Bl a t w Z v x):Bl a t w' Z' v x:=U9.mono (λ_ _=>C9.mono d c) h
def VY.mono (c:∀b,Z b->Z' b) (a:O6 Z w w'):∀ {as:List (Bool×Ty)} {vs:List Value} {x:Z4 as},VY w Z as vs x->VY w' Z' as vs x
 | [],_,_,h=>h
 | _:: _,_,_,⟨v,g,e,d,f⟩=>⟨v,g,e,d.mono c a,VY.mono c a f⟩
def La.mono {g i:Bool} {a c:Ty} (f:∀b,Z b->Z' b) (d:O6 Z w w') {l:List (a.den×c.den)} {es:List MapEntry} (h:La w Z g a i c es l):La w' Z' g a i c es l:=
 T3.mono (λ_ _ h=>h.mono λ_ _=>C9.mono f d) (λ_ _ h=>h.mono λ_ _=>C9.mono f d) h
def B4.live {v:Value} {l:LC} {b:Nat} (h:B4 w v l b):Vc.live l:=by cases l<;>first|exact h.elim|trivial
def B4.of {v:Value} {l:LC} {b:Nat} (a:Vc.live l) (h:Vc.root v=some b):B4 w v l b:=by
 cases l<;>first|exact a.elim|exact h|exact .inl h
def T5.iff {v:Value} {H:Nat->Bool} {b:Nat} (h:∀b,root v=some b->w'.heap[b]? =w.heap[b]?):T5 w' v H b↔T5 w v H b:=by
 refine g3r xX ⟨fun⟨g,n,cap,cur,e,i,x,hv,hg,r⟩=>⟨g,n,cap,cur,e,i,x,hv,?_,r⟩,fun⟨g,n,cap,cur,e,i,x,hv,hg,r⟩=>⟨g,n,cap,cur,e,i,x,hv,?_,r⟩⟩
 . rw[<-h g (by rw[hv];rfl)];exact hg
 rw[h g (by rw[hv];rfl)];exact hg
def B4.iff {v:Value} {l:LC} {b:Nat} (h:∀b,B4 w v l b->w'.heap[b]? =w.heap[b]?):B4 w' v l b↔B4 w v l b:=by
 cases l with
 |rows t e d j al f=>
  refine g3r xX ⟨fun⟨g,n,cap,a,e,i,x,hv,hg,r⟩=>⟨g,n,cap,a,e,i,x,hv,?_,r⟩,fun⟨g,n,cap,a,e,i,x,hv,hg,r⟩=>⟨g,n,cap,a,e,i,x,hv,?_,r⟩⟩
  . rw[<-h g (.inl (by rw[hv];rfl))];exact hg
  rw[h g (.inl (by rw[hv];rfl))];exact hg
 |nest t e g j d f=>exact T5.iff λb a=>h b (.inl a)
 |itM f g j k d left a q=>
  refine g3r xX ⟨fun⟨r,c,s,c2,hv,hg⟩=>⟨r,c,s,c2,hv,?_⟩,fun⟨r,c,s,c2,hv,hg⟩=>⟨r,c,s,c2,hv,?_⟩⟩
  . rw[<-h r (.inl (by rw[hv];rfl))];exact hg
  rw[h r (.inl (by rw[hv];rfl))];exact hg
 | _=>exact xX
def RL.root {U:Nat->Prop} {k:Nat} {l:LC} (h:RL U w Z B k l) {b:Nat} (a:B4 w (B k) l b):U b/\b<w.heap.size/\¬Z b:=by
 cases l with
 |none=>exact a.elim
 |al _=>exact a.elim
 |sbox _ _ _=>exact a.elim
 |mapE r s t u n o q=>
  obtain⟨g,j,i,e,c,d,f,_⟩:=h;have a:Vc.root (B k)=some b:=a;rw[e]at a;simp[Vc.root]at a;subst a;exact⟨c,(rV.1 f).1,d⟩
 |iter i j n o left g=>
  obtain⟨r,e,d,f,c⟩:=h;have a:Vc.root (B k)=some b:=a;rw[e]at a;simp[Vc.root]at a;subst a;refine⟨d,?_,f⟩;rcases c with⟨c,_⟩ | ⟨_,_,_,_,c,_⟩<;>exact(rV.1 c).1
 |box j i=>
  obtain⟨g,n,e,c,d,f,_⟩:=h;have a:Vc.root (B k)=some b:=a;rw[e]at a;simp[Vc.root]at a;subst a;exact⟨c,f.lt,d⟩
 |row t e l=>
  obtain⟨r,f,o,g⟩:=h;have a:Vc.root (B k)=some b:=a;have c:(B k).ownBlock=some b:=by
   rcases f.2 with⟨d,_⟩ | ⟨n,i,j,d,_⟩
   . rw[d]at a;simp[Vc.root]at a
   rw[d]at a|-;simpa[Vc.root,Value.ownBlock]using a
  have:=World.ownsRow.lt f b c;exact⟨(g b c).1,this.2,(g b c).2⟩
 |map o r s t n=>
  obtain⟨g,j,i,e,c,d,f,_⟩:=h;have a:Vc.root (B k)=some b:=a;rw[e]at a;simp[Vc.root]at a;subst a;exact⟨c,(rV.1 f).1,d⟩
 |rows t e d g al f=>
  obtain⟨i,_,_,_,c⟩:=h;exact⟨(c b a).1,(c b a).2.2,(c b a).2.1⟩
 |nest t e g i d f=>
  obtain⟨j,_,c⟩:=h;exact⟨(c b a).1,(c b a).2.2,(c b a).2.1⟩
 |itM z A G H y left u q=>
  obtain⟨D,m,seen,x,t,d,v,c,i,j,n,o⟩:=h;rcases a with a| ⟨E,r,F,s,g,f⟩
  . rw[d]at a;simp[Vc.root]at a;subst a;exact⟨i,(rV.1 c.it).1,j⟩
  rw[d]at g;cases g;rw[c.it]at f;cases f;exact⟨n,(rV.1 c.mp).1,o⟩
def E7 {a e sz m:Nat} {v:Value} {xs:List Value} (h:w.ownsRow a e sz v m xs):root v=v.ownBlock:=by
 rcases h.2 with⟨a,_⟩ | ⟨g,b,c,a,_⟩<;>rw[a]<;>rfl
def Bq {a e sz m:Nat} {v:Value} {xs:List Value} (h:w.ownsRow a e sz v m xs) (l:∀b,v.ownBlock=some b->w'.heap[b]? =w.heap[b]?):w'.ownsRow a e sz v m xs:=by
 refine⟨h.1,?_⟩;rcases h.2 with h| ⟨g,d,f,c,i,j,k⟩
 . exact .inl h
 exact .inr ⟨g,d,f,c,i,by rw[l g (by rw[c];rfl)];exact j,k⟩
def T5.own {f e n:Nat} {v:Value} {xs:List Value} {H:Nat->Bool} (c:w.ownsRow f e 1 v n xs) {i b:Nat} {x:Value} (o:H i=false) (a:xs[i]? =some x) (k:Vc.root x=some b):T5 w v H b:=by
 refine .inr ?_;rcases c.2 with⟨d,s⟩ | ⟨j,g,h,d,_,l,z,_,A,t⟩
 . have:=c.1;rw[s]at this;have u:xs= []:=qN ω;rw[u]at a;cases a
 have r:i<n:=by have:=(sR.1 a).1;have y:=c.1;omega
 refine⟨j,_,g,h,e,i,x,d,l,r,o,?_,k⟩;rw[<-t,rX ω]at a;simpa using a
def T5.cases {base e n:Nat} {v:Value} {xs:List Value} {H:Nat->Bool} (h1:w.ownsRow base e 1 v n xs) {b:Nat} (hf:T5 w v H b):Vc.root v=some b\/∃(i:Nat) (x:Value),H i=false/\xs[i]? =some x/\Vc.root x=some b:=by
 rcases hf with c| ⟨u,m,l,r,t,i,x,f,h,z,g,k,c⟩
 . exact .inl c
 refine .inr ⟨i,x,g,?_,c⟩;rcases h1.2 with⟨a,_⟩ | ⟨y,o,s,a,_,d,A,_,B,j⟩
 . rw[f]at a;cases a
 rw[f]at a;cases a;rw[h]at d;cases d;rw[<-j,rX ω];simpa using k
def TF.mono (d:∀b,Z b->Z' b) (c:O6 Z w w'):∀ {t:Ty} {e':TypeId} {v:Value} {x:t.den},(∀b,Vc.root v=some b->w'.heap[b]? =w.heap[b]?)->TF t e' w Z v x->TF t e' w' Z' v x
 | .sl t,_,_,_,g,⟨i,a,f⟩=>⟨i,Bq a (λb h=>g b ((E7 a).trans h)),f.mono λ_ _=>C9.mono d c⟩
 | .mp k l n o,_,_,_,j,⟨b,f,a,e,g,h,i⟩=>⟨b,f,a,e,by rw[j b (by rw[e];rfl)];exact g,h,i.mono d c⟩
 | .int _,_,_,_,_,h=>h.elim
 | .bool,_,_,_,_,h=>h.elim
 | .str,_,_,_,_,h=>h.elim
 | .unit,_,_,_,_,h=>h.elim
 | .pair _ _,_,_,_,_,h=>h.elim
 | .ptr _,_,_,_,_,h=>h.elim
def RL.mono {U:Nat->Prop} {k:Nat} {l:LC} (d:∀b,Z b->Z' b) (c:O6 Z w w') (s:∀k,k<n->B' k=B k) (g:live l->B' k=B k) (a:∀b,B4 w (B k) l b->w'.heap[b]? =w.heap[b]?) (i:∀b,B4 w (B k) l b->¬Z' b) (t:AQ n l) (h:RL U w Z B k l):RL U w' Z' B' k l:=by
 cases l with
 |none=>trivial
 |al _=>trivial
 |sbox q u x=>
  obtain⟨j,o,b,r⟩:=h;have f:B' q=B q:=s q t;refine⟨j,?_,b,f.trans r⟩;rw[f];exact C9.mono d c o
 |mapE G H I J D F q=>
  obtain⟨b,r,j,e,u,E,v,⟨A,x⟩,o,y,z⟩:=h;have f:Vc.root (B k)=some b:=by rw[e];rfl
  exact⟨b,r,j,(g trivial).trans e,u,i b f,by rw[a b f];exact v,⟨A,x.mono d c⟩,o,y,(s q t).trans z⟩
 |iter M N O P left I=>
  obtain⟨r,e,z,J,f⟩:=h;have u:Vc.root (B k)=some r:=by rw[e];rfl
  refine⟨r,(g trivial).trans e,z,i r u,?_⟩;have v:=a r u;rcases f with⟨f,j⟩ | ⟨m,seen,y,x,f,j,A,D,E,F⟩
  . exact .inl ⟨v.trans f,j⟩
  exact .inr ⟨m,seen,y,x,v.trans f,d m j,(c m j).trans A,D,E.mono d c,λH G=>(F H G).imp λe o=>⟨o.1,o.2.1,o.2.2.1.mono λ_ _=>C9.mono d c,o.2.2.2.mono λ_ _=>C9.mono d c⟩⟩
 |box y v=>
  obtain⟨b,u,e,j,x,o,r⟩:=h;have f:Vc.root (B k)=some b:=by rw[e];rfl
  refine⟨b,u,(g trivial).trans e,j,i b f,?_,Db.mono d c s t r⟩;unfold KJ;rw[a b f];exact o
 |row x e l=>
  obtain⟨v,j,r,u⟩:=h;have o:=E7 j;refine⟨v,?_,r.mono λ_ _=>C9.mono d c,λb f=>?_⟩
  . rw[g trivial];exact Bq j λb f=>a b (o.trans f)
  rw[g trivial]at f;exact⟨(u b f).1,i b (o.trans f)⟩
 |map A D E F y=>
  obtain⟨b,o,j,e,r,z,u,x,v⟩:=h;have f:Vc.root (B k)=some b:=by rw[e];rfl
  exact⟨b,o,j,(g trivial).trans e,r,i b f,by rw[a b f];exact u,x,v.mono d c⟩
 |rows a3 e I F al A=>
  have T:=λb=>B4.iff (b:=b) a
  obtain⟨y,r,⟨O,P,Q⟩,z,R⟩:=h;have a7:=E7 r;have X:∀o x b,Eo A o=false->y[o]? =some x->Vc.root x=some b->B4 w (B k) (.rows a3 e I F al A) b:=λo x b v j f=>by
   refine .inr ?_;rcases r.2 with⟨E,a0⟩ | ⟨J,G,H,E,_,V,a6,_,a8,a1⟩
   . have:=r.1;rw[a0]at this;have a2:y= []:=qN ω;rw[a2]at j;cases j
   have W:o<F.length:=by have:=(sR.1 j).1;have a5:=r.1;omega
   refine⟨J,_,G,H,e,o,x,E,V,W,v,?_,f⟩;rw[<-a1,rX ω]at j;simpa using j
  rw[<-g trivial]at r z;refine⟨y,Bq r λb f=>a b (.inl (by rw[<-g trivial];exact(E7 r).trans f)),⟨λp D=>by rw[s _ (t p D)];exact O p D,λo l x v Y j=>?_,Q⟩,z,λb f=>?_⟩
  . obtain⟨a4,u,M⟩:=P o l x v Y j;exact⟨a4,Bq u λb f=>a b (X o x b v j ((E7 u).trans f)),M.mono λ_ _=>C9.mono d c⟩
  rw[g trivial]at f;have f:=(T b).1 f;obtain⟨u,_,N⟩:=R b f;refine⟨u,i b f,?_⟩;have:=a b f;rw[uU N]at this;exact(rV.1 this).1
 |nest D e v A o r=>
  obtain⟨u,j,G⟩:=h;have H:=g trivial;have I:∀b,T5 w' (B k) (H7 o r) b↔T5 w (B k) (H7 o r) b:=λb=>T5.iff λb f=>a b (.inl f)
  rw[show RL U w' Z' B' k (.nest D e v A o r)=∃u,mC w' Z' B' D e v A o r (B k) u/\∀b,T5 w' (B k) (H7 o r) b->U b/\¬Z' b/\b<w'.heap.size from by rw[<-H];rfl];refine⟨u,⟨Bq j.own λb f=>a b (.inl ((E7 j.own).trans f)),λp y=>(j.out p y).trans (by rw[s _ (t p y)]),λM l N x J z=>?_,j.dis,j.top⟩,λb f=>?_⟩
  . exact(j.elt M l N x J z).mono d c λb f=>a b (T5.own j.own x z f)
  have f:=(I b).1 f;obtain⟨E,_,F⟩:=G b f;refine⟨E,i b f,?_⟩;have:=a b f;rw[uU F]at this;exact(rV.1 this).1
 |itM z A D E v left u q=>
  obtain⟨r,m,seen,H,F,o,G,f,I,O,J,P⟩:=h;have x:B4 w (B k) (.itM z A D E v left u q) r:= .inl (by rw[o];rfl);have y:B4 w (B k) (.itM z A D E v left u q) m:= .inr ⟨r,_,_,_,o,f.it⟩;exact⟨r,m,seen,H,F,(g trivial).trans o,(s q t).trans G,⟨(a r x).trans f.it,(a m y).trans f.mp,f.ok,f.all.mono d c,f.rest.mono d c,λN M=>(f.cur N M).imp λe j=>⟨j.1,j.2.1,j.2.2.1.mono λ_ _=>C9.mono d c,j.2.2.2.mono λ_ _=>C9.mono d c⟩⟩,I,i r x,J,i m y⟩
def Cz.le {m:Nat} (a:n<=m):∀ {c:C},Cz n c->Cz m c
 | .val _ _,h=>h
 | .row _,h=>rJ h a
 | .box _ _,h=>rJ h a
 | .elp _ _ _ _,h=>rJ h a
 | .win _ _ _ _,h=>rJ h a
 | .pf _ _ _,h=>h
 | .mp _,h=>rJ h a
 | .fn _ _,h=>λk b=>rJ (h k b) a
 | .fv _ _ _ _ _ _,h=>h
 | .raw _,h=>h
 | .dead,h=>h
def MP.le {m:Nat} (a:n<=m):∀ {d:DV},MP n d->MP m d
 | .one _,h=>λc b=>(h c b).le a
 | .tup _,h=>λs f c b=>(h s f c b).le a
 | .cnd _ _ _,h=>λc b=>(h c b).le a
 | .dead,h=>h
def AQ.le {m:Nat} (a:n<=m):∀ {d:LC},AQ n d->AQ m d
 | .none,h=>h
 | .box _ _,h=>λc b=>(h c b).le a
 | .row _ _ _,h=>h
 | .map _ _ _ _ _,h=>h
 | .al _,h=>h
 | .sbox _ _ _,h=>rJ h a
 | .iter _ _ _ _ _ _,h=>h
 | .mapE _ _ _ _ _ _ _,h=>rJ h a
 | .rows _ _ _ _ _ _,h=>λp b=>rJ (h p b) a
 | .nest _ _ _ _ _ _,h=>λp b=>rJ (h p b) a
 | .itM _ _ _ _ _ _ _ _,h=>rJ h a
def mE.le {n m:Nat} {a:List (List (Nat×Nat×DV))} (h:mE n a) (b:n<=m):mE m a:=λf a s=>(h f a s).le b
def RD.upd {E:G8} {d:Nat} {u:Value} :∀ {x:DV} {v:Value},GV d x=false->RD w Z B E x v->RD w Z B (upd E d u) x v
 | .one _,_,_,h=>h
 | .tup _,_,_,h=>h
 | .cnd t b s,v,a,h=>by
  have b:t≠d:=uK a;show(Gw.upd E d u t= _ /\ _)\/(Gw.upd E d u t≠ _ /\ _);rw[C5 _ _ _ _ b];exact h
 | .dead,_,_,_=>trivial
end mono
section steps
variable {za:Zn} {w0 w w':World} {Z Z':Nat->Prop} {B:Nat->Value} {st:St} {E:G8}
def C3.setS (h:C3 za w0 st E w Z B) (d:Nat) {x:DV} {v:Value} (f:RD w Z B (upd E d v) x v) (c:MP st.nx x):C3 za w0 (st.setS d x) (upd E d v) w Z B:=by
 refine⟨h.ext,h.zlt,λs=>?_,h.locs,h.disj,λs=>?_,h.refl,h.fresh,h.bone,h.zin,h.nms,h.bfix,h.mrk,h.frs,h.frf⟩
 . rw[St.S_setS];by_cases a:s=d
   . subst a;simp only[wG,C2];exact f
   rw[qL a,C5 _ _ _ _ a];cases b:GV d (st.S s)with
   |true=>trivial
   |false=>exact RD.upd b (h.slots s)
 rw[St.S_setS];by_cases a:s=d
 . rw[qR a];exact c
 rw[qL a];cases b:GV d (st.S s)with
 |true=>trivial
 |false=>exact h.refs s
def C3.keep (h:C3 za w0 st E w Z B) (u:Y6 za.m w0 w') (o:w.heap.size<=w'.heap.size) (f:∀b,(Z b\/∃k,B4 w (B k) (st.L k) b)->w'.heap[b]? =w.heap[b]?)
 (l:∀b,Z b->Z' b) (n:∀b,Z' b->Z b\/(b<w'.heap.size/\w0.heap.size<=b/\∀k,¬B4 w (B k) (st.L k) b)):C3 za w0 st E w' Z' B:=by
 have j:O6 Z w w':=λb c=>f b (.inl c)
 have i:∀k b,B4 w' (B k) (st.L k) b↔B4 w (B k) (st.L k) b:=λk b=>B4.iff λb g=>f b (.inr ⟨k,g⟩)
 refine⟨u,λb c=>?_,λs=>(h.slots s).mono l j (λ_ _=>rfl) (h.refs s),λk=>?_,λk r b x a t=>h.disj k r b x ((i k b).1 a) ((i r b).1 t),h.refs,h.refl,h.fresh,h.bone,λb c=>?_,h.nms,h.bfix,⟨qX h.mrk.1 o,λk b v g=>h.mrk.2 k b v ((i k b).1 g)⟩,h.frs.mono l j (λ_ _=>rfl) h.frf,h.frf⟩
 . rcases n b c with a|a
   . exact rJ (h.zlt b a) o
   exact a.1
 . refine(h.locs k).mono l j (λ_ _=>rfl) (λ_=>rfl) (λb d=>f b (.inr ⟨k,d⟩)) (λb d c=>?_) (h.refl k);rcases n b c with a|a
   . exact((h.locs k).root d).2.2 a
   exact a.2.2 k d
 rcases n b c with a|a
 . exact h.zin b a
 exact .inr a.2.1
def C3.ft (h:C3 za w0 st E w Z B) (f:R5 w w') {k b:Nat} (d:B4 w' (B k) (st.L k) b):B4 w (B k) (st.L k) b:=(B4.iff λc a=>f.block c ((h.locs k).root a).2.1).1 d
def C3.more (h:C3 za w0 st E w Z B) (c:R5 w w') (d:∀b,Z b->Z' b) (f:∀b,Z' b->Z b\/(w.heap.size<=b/\b<w'.heap.size)):C3 za w0 st E w' Z' B:=by
 refine h.keep (h.ext.trans c) c.size (λb a=>c.block b ?_) d (λb a=>?_)
 . rcases a with a| ⟨k,d⟩
   . exact h.zlt b a
   exact((h.locs k).root d).2.1
 rcases f b a with c|c
 . exact .inl c
 exact .inr ⟨c.2,qX h.ext.size c.1,λk d=>by have:=((h.locs k).root d).2.1;omega⟩
def C3.new (h:C3 za w0 st E w Z B) {v:Value} {lc:LC} (f:RL (up za w0 st.nx) w Z (upd B st.nx v) st.nx lc) (r:∀k b,B4 w v lc b->¬B4 w (B k) (st.L k) b) (D:AQ (st.nx+1) lc) (F:v.oneCell'=true) (A:∀b,za.k0<=st.nx->B4 w v lc b->za.b0<=b):
 C3 za w0 (st.newL lc) E w Z (upd B st.nx v):=by
 have d:∀k,k<st.nx->(upd B st.nx v) k=B k:=λk a=>C5 _ _ _ _ (tY a)
 have l:(upd B st.nx v) st.nx=v:=C2 _ _ _;have j:∀k,live (st.L k)->k<st.nx:=λk a=>by
  by_cases z:k<st.nx
  . exact z
  rw[h.fresh k ω]at a;exact a.elim
 have o:O6 Z w w:=λ_ _=>rfl
 refine⟨h.ext,h.zlt,λs=>(h.slots s).mono (λ_=>id) o d (h.refs s),λk=>?_,?_,λs=>(h.refs s).le (uI _),λk=>?_,λk a=>?_,λk=>?_,h.zin,⟨h.nms.1,xU h.nms.2⟩,λk a=>(d k (rJ a h.nms.2)).trans (h.bfix k a),⟨h.mrk.1,λk b a f=>?_⟩,h.frs.mono (λ_=>id) o d h.frf,h.frf.le (uI _)⟩
 . rw[St.L_newL];by_cases a:k=st.nx
   . subst a;rw[qR rfl];exact f
   rw[qL a];exact(h.locs k).mono (λ_=>id) o d (λy=>d k (j k y)) (λ_ _=>rfl) (λb x G=>((h.locs k).root x).2.2 G) (h.refl k)
 . intro k i b u g c;rw[St.L_newL]at g c;by_cases a:k=st.nx
   . subst a;rw[qL (Ne.symm u)]at c;rw[qR rfl,l]at g;rw[d i (j i c.live)]at c;exact r i b g c
   rw[qL a]at g;rw[d k (j k g.live)]at g;by_cases n:i=st.nx
   . subst n;rw[qR rfl,l]at c;exact r k b c g
   rw[qL n]at c;rw[d i (j i c.live)]at c;exact h.disj k i b u g c
 . rw[St.L_newL];by_cases a:k=st.nx
   . rw[qR a];exact D
   rw[qL a];exact(h.refl k).le (uI _)
 . rw[St.L_newL];have n:st.nx+1<=k:=a;rw[qL ω];exact h.fresh k ω
 . by_cases a:k=st.nx
   . rw[a,l];exact F
   rw[C5 _ _ _ _ a];exact h.bone k
 rw[St.L_newL]at f;by_cases t:k=st.nx
 . subst t;rw[qR rfl,l]at f;exact A b a f
 rw[qL t]at f;rw[d k (j k f.live)]at f;exact h.mrk.2 k b a f
def C3.drop (h:C3 za w0 st E w Z B) (k:Nat):C3 za w0 (st.setL k .none) E w Z B:=by
 refine⟨h.ext,h.zlt,h.slots,λq=>?_,λq j d g a b=>?_,h.refs,λq=>?_,λq i=>?_,h.bone,h.zin,h.nms,h.bfix,⟨h.mrk.1,λq d f c=>(by rw[St.L_setL]at c;split at c;exact c.elim;exact h.mrk.2 q d f c)⟩,h.frs,h.frf⟩
 . rw[St.L_setL];split
   . trivial
   exact h.locs q
 . rw[St.L_setL]at a b;split at a
   . exact a.elim
   split at b
   . exact b.elim
   exact h.disj q j d g a b
 . rw[St.L_setL];split
   . trivial
   exact h.refl q
 rw[St.L_setL];split
 . rfl
 exact h.fresh q i
def C3.chg (h:C3 za w0 st E w Z B) {k b:Nat} {lc:LC} (n:live (st.L k)) (j:B4 w (B k) (st.L k) b) (g:VX b w w') (x:RL (up za w0 k) w' Z B k lc) (z:AQ st.nx lc) (l:∀b,B4 w' (B k) lc b->root (B k)=some b\/B4 w (B k) (st.L k) b):C3 za w0 (st.setL k lc) E w' Z B:=by
 have s:=(h.locs k).root j;have l:∀b,B4 w' (B k) lc b->B4 w (B k) (st.L k) b:=λb hh=>(l b hh).elim (B4.of n) id
 have c:C3 za w0 (st.setL k .none) E w' Z B:=by
  refine(h.drop k).keep (h.ext.chg g s.1.m) (by rw[g.2.2.2.1];exact qV _) (λq a=>g.2.2.2.2 q ?_) (λ_=>id) (λ_=> .inl);rintro rfl;rcases a with a| ⟨t,d⟩
  . exact s.2.2 a
  rw[St.L_setL]at d;by_cases o:t=k
  . rw[qR o]at d;exact d.elim
  rw[qL o]at d;exact h.disj t k q o d j
 have F:k<st.nx:=by
  by_cases o:k<st.nx
  . exact o
  rw[h.fresh k ω]at n;exact n.elim
 have i:∀q,(st.setL k lc).L q=if q=k then lc else(st.setL k .none).L q:=λq=>by
  rw[St.L_setL,St.L_setL];split<;>simp_all
 have r:∀q b,B4 w' (B q) ((st.setL k lc).L q) b->B4 w (B q) (st.L q) b:=λq f a=>by
  rw[St.L_setL]at a;split at a
  . rename_i e;rw[e]at a|-;exact l f a
  refine(B4.iff λo t=>g.2.2.2.2 o ?_).1 a;rintro rfl;rename_i e;exact h.disj q k o e t j
 refine⟨c.ext,c.zlt,c.slots,λq=>?_,λq u f y A D=>?_,c.refs,λq=>?_,λq a=>?_,h.bone,h.zin,h.nms,h.bfix,⟨c.mrk.1,λq b v d=>h.mrk.2 q b v (r q b d)⟩,c.frs,c.frf⟩
 . rw[i];split
   . rename_i a;rw[a];exact x
   exact c.locs q
 . exact h.disj q u f y (r q f A) (r u f D)
 . rw[i];split
   . exact z
   exact c.refl q
 rw[i,qL (by have:st.nx<=q:=a;omega)];exact c.fresh q a
def C3.relc (h:C3 za w0 st E w Z B) {k:Nat} {lc:LC} (d:live (st.L k)) (i:RL (up za w0 k) w Z B k lc) (n:AQ st.nx lc) (g:∀b,B4 w (B k) lc b->root (B k)=some b\/B4 w (B k) (st.L k) b):C3 za w0 (st.setL k lc) E w Z B:=by
 have a:k<st.nx:=by
  by_cases a:k<st.nx
  . exact a
  rw[h.fresh k ω]at d;exact d.elim
 have f:∀q b,B4 w (B q) ((st.setL k lc).L q) b->B4 w (B q) (st.L q) b:=λq c a=>by
  rw[St.L_setL]at a;split at a
  . rename_i e;rw[e]at a|-;exact(g c a).elim (B4.of d) id
  exact a
 refine⟨h.ext,h.zlt,h.slots,λq=>?_,λq d c l o r=>?_,h.refs,λq=>?_,λq a=>?_,h.bone,h.zin,h.nms,h.bfix,⟨h.mrk.1,λq b g j=>h.mrk.2 q b g (f q b j)⟩,h.frs,h.frf⟩
 . rw[St.L_setL];split
   . rename_i a;rw[a];exact i
   exact h.locs q
 . exact h.disj q d c l (f q c o) (f d c r)
 . rw[St.L_setL];split
   . exact n
   exact h.refl q
 rw[St.L_setL,qL (by have:st.nx<=q:=a;omega)];exact h.fresh q a
def C3.addL (h:C3 za w0 st E w Z B) {k:Nat} {lc:LC} (v:k<st.nx) (s:RL (up za w0 k) w Z B k lc) (l:∀j b,j≠k->B4 w (B k) lc b->¬B4 w (B j) (st.L j) b) (u:AQ st.nx lc) (t:∀b,za.k0<=k->B4 w (B k) lc b->za.b0<=b):C3 za w0 (st.setL k lc) E w Z B:=by
 refine⟨h.ext,h.zlt,h.slots,λq=>?_,λq i b g d c=>?_,h.refs,λq=>?_,λq a=>?_,h.bone,h.zin,h.nms,h.bfix,⟨h.mrk.1,λq b n f=>(by
  rw[St.L_setL]at f;by_cases r:q=k
  . subst r;rw[qR rfl]at f;exact t b n f
  rw[qL r]at f;exact h.mrk.2 q b n f)⟩,h.frs,h.frf⟩
 . rw[St.L_setL];split
   . rename_i a;rw[a];exact s
   exact h.locs q
 . rw[St.L_setL]at d c;by_cases a:q=k
   . subst a;rw[qL (Ne.symm g)]at c;rw[qR rfl]at d;exact l i b (Ne.symm g) d c
   rw[qL a]at d;by_cases o:i=k
   . subst o;rw[qR rfl]at c;exact l q b a c d
   rw[qL o]at c;exact h.disj q i b g d c
 . rw[St.L_setL];split
   . exact u
   exact h.refl q
 rw[St.L_setL,qL (by have:st.nx<=q:=a;omega)];exact h.fresh q a
def W5 {v:Value} {t c:Ty} {e e' d j b:Nat} {ls:List (List t.den)} {k:List (List c.den)} {al f:List (Nat×Nat)} {a:Option Nat} (h:∀g,root v=some g->w'.heap[g]? =w.heap[g]?):B4 w' v (.rows c d j k f a) b↔B4 w v (.rows t e e' ls al a) b:=by
 refine g3r xX ⟨fun⟨g,n,cap,cur,e,i,x,hv,hg,r⟩=>⟨g,n,cap,cur,e,i,x,hv,?_,r⟩,fun⟨g,n,cap,cur,e,i,x,hv,hg,r⟩=>⟨g,n,cap,cur,e,i,x,hv,?_,r⟩⟩
 . rw[<-h g (by rw[hv];rfl)];exact hg
 rw[h g (by rw[hv];rfl)];exact hg
def B5u {U:Nat->Prop} {t:Ty} {k e e' i q b:Nat} {ls:List (List t.den)} {al:List (Nat×Nat)} {l:List t.den} {v:List Value} (h:RL U w Z B k (.rows t e e' ls al none)) (X:(i,q)∈al) (d:root (B q)=some b) (j:VX b w w') (a0:¬Z b) (W:w'.ownsRow 0 e' t.size (B q) l.length v) (T:G5 (C9 t w' Z) v l):
 RL U w' Z B k (.rows t e e' (ls.set i l) al none)/\B4 w (B k) (.rows t e e' ls al none) b/\root (B k)≠some b:=by
 obtain⟨a3,f,⟨y,Q,z⟩,A,R⟩:=h;have c:=(y _ X).resolve_right λhh=>by rw[hh.2]at d;simp[Vc.root]at d
 have E:i<ls.length:=by have:=(sR.1 c).1;have a5:=f.1;omega
 have F:root (B k)≠some b:=A i _ b rfl c d;have G:O6 Z w w':=λr hc'=>j.2.2.2.2 r (λe=>a0 (e▸hc'))
 have D:∀g,root (B k)=some g->w'.heap[g]? =w.heap[g]?:=λg a=>j.2.2.2.2 g (λe=>F (e▸a))
 refine⟨⟨a3,by rw[qT];exact Bq f (λg a=>D g ((E7 f).trans a)),⟨y,λu a1 a2 _ n o=>?_,z⟩,A,λr V=>?_⟩,?_,F⟩
 . by_cases s:i=u
   . subst s;rw[sU E]at n;cases n;rw[c]at o;cases o;exact⟨v,W,T⟩
   rw[tC s]at n;obtain⟨a4,x,P⟩:=Q u a1 a2 rfl n o;refine⟨a4,Bq x (λg a=>j.2.2.2.2 g (λe=>?_)),P.mono λ_ _=>C9.mono (λ_=>id) G⟩;subst e;exact z i u _ _ g s rfl rfl c o d ((E7 x).trans a)
 . obtain⟨I,J,M⟩:=R r ((W5 D).1 V);exact⟨I,J,by rw[j.2.2.2.1];exact M⟩
 refine .inr ?_;rcases f.2 with⟨H,a7⟩ | ⟨g,N,O,H,_,a,a6,_,G,Y⟩
 . omega
 refine⟨g,_,N,O,e,i,_,H,a,E,rfl,?_,d⟩;rw[<-Y,rX ω]at c;simpa using c
def Ct (w:World) (Z:Nat->Prop) (t:Ty) (e e':TypeId) (v:Value) (ls:List (List t.den)):Prop:=
 ∃a:List Value,w.ownsRow 0 e 1 v ls.length a/\(∀(i:Nat) (l:List t.den) (x:Value),ls[i]? =some l->a[i]? =some x->∃b,w.ownsRow 0 e' t.size x l.length b/\G5 (C9 t w Z) b l)/\
  (∀(i j:Nat) (x y:Value) (b:Nat),i≠j->a[i]? =some x->a[j]? =some y->root x=some b->root y≠some b)/\∀(i:Nat) (x:Value) (b:Nat),a[i]? =some x->root x=some b->root v≠some b
def RL.rowsR {U:Nat->Prop} {t:Ty} {k e e':Nat} {ls:List (List t.den)} {al:List (Nat×Nat)} (h:RL U w Z B k (.rows t e e' ls al none)):Ct w Z t e e' (B k) ls:=by
 obtain⟨c,b,⟨a,d,f⟩,g,i⟩:=h;exact⟨c,b,λi r x l a=>d i r x rfl l a,λi o x y b j a n c=>f i o x y b j rfl rfl a n c,λi x b a c=>g i x b rfl a c⟩
def Ct.rl {U:Nat->Prop} {t:Ty} {k e e':Nat} {ls:List (List t.den)} (h:Ct w Z t e e' (B k) ls) (g:∀b,B4 w (B k) (.rows t e e' ls [] none) b->U b/\¬Z b/\b<w.heap.size):RL U w Z B k (.rows t e e' ls [] none):=by
 obtain⟨o,a,c,d,f⟩:=h;exact⟨o,a,⟨λp n=>(by cases n),λi l x _ hl hx=>c i l x hl hx,λi j x y b hij _ _ hx hy hb=>d i j x y b hij hx hy hb⟩,λi x b _ hx hb=>f i x b hx hb,g⟩
def Ct.mono {t:Ty} {e e':Nat} {v:Value} {ls:List (List t.den)} (k:∀b,Z b->Z' b) (h:Ct w Z t e e' v ls):Ct w Z' t e e' v ls:=by
 obtain⟨o,c,d,f,g⟩:=h;exact⟨o,c,λl n x i j=>(d l n x i j).imp λr a=>⟨a.1,a.2.mono λ_ _=>C9.mono k (λ_ _=>rfl)⟩,f,g⟩
end steps
def jU (P:Program) (r:TypeId->Ty->Bool):List Field->Nat->Ty->Bool
 | [],_, .unit=>true
 | [f],b,a=>Nat.beq f.offset b&&r f.type a&&Nat.beq (P.cellsOf f.type) a.size
 |f::g::d,b, .pair a c=>Nat.beq f.offset b&&r f.type a&&Nat.beq (P.cellsOf f.type) a.size&&jU P r (g::d) (b+a.size) c
 | _,_,_=>false
def jS (r:Ty->Bool) (sz:Nat):Nat->Ty->Bool
 |0, .unit=>true
 |1,a=>r a&&Nat.beq a.size sz
 |n+2, .pair a b=>r a&&Nat.beq a.size sz&&jS r sz (n+1) b
 | _,_=>false
def nY (P:Program):Nat->TypeId->Ty->Bool
 |0,_,_=>false
 |n+1,T,a=>match P.underlying T with
  |some (.int k)=>(match a with| .int k'=>decide (k=k') | _=>false)
  |some .bool=>(match a with| .bool=>true| _=>false)
  |some (.struct b)=>jU P (nY P n) b.toList 0 a&&Nat.beq (P.cellsOf T) a.size&&b.all (·.name != "_")
  |some (.array m e)=>jS (nY P n e) (P.cellsOf e) m a&&Nat.beq (P.cellsOf T) a.size
  | _=>false
def Mc:(t:Ty)->t.den->List Lit
 | .int k,n=> [.int k n]
 | .bool,b=> [.bool b]
 | .pair a b,x=>Mc a x.1++Mc b x.2
 | _,_=> []
def He:Ty->Bool
 | .int _=>true
 | .bool=>true
 | .unit=>true
 | .pair a b=>He a&&He b
 | _=>false
def GR:(t:Ty)->t.den->t.den->Bool
 | .int _,a,b=>decide ((show Int from a)=b)
 | .bool,a,b=>(show Bool from a)==b
 | .pair a b,x,y=>GR a x.1 y.1&&GR b x.2 y.2
 | _,_,_=>true
def YE:∀ {t:Ty} {x y:t.den},(Mc t x).length=(Mc t y).length
 | .int _,_,_=>rfl
 | .bool,_,_=>rfl
 | .pair a b,x,y=>by simp only[Mc,rQ];rw[YE (t:=a) (x:=x.1) (y:=y.1),YE (t:=b) (x:=x.2) (y:=y.2)]
 | .str,_,_=>rfl
 | .unit,_,_=>rfl
 | .sl _,_,_=>rfl
 | .ptr _,_,_=>rfl
 | .mp _ _ _ _,_,_=>rfl
def YD:∀ {t:Ty} {x y:t.den},He t=true->(Mc t x=Mc t y↔x=y)
 | .int _,x,y,_=>by simp[Mc]
 | .bool,x,y,_=>by simp[Mc]
 | .unit,x,y,_=>by simp[Mc]
 | .pair a b,x,y,h=>by
  simp only[He,qC]at h;simp only[Mc];constructor
  . intro e;have:=List.append_inj e YE;exact Prod.ext ((YD h.1).1 this.1) ((YD h.2).1 this.2)
  rintro rfl;rfl
 | .str,_,_,h=>by cases h
 | .sl _,_,_,h=>by cases h
 | .ptr _,_,_,h=>by cases h
 | .mp _ _ _ _,_,_,h=>by cases h
def VC:∀ {t:Ty} {x y:t.den},He t=true->(GR t x y=true↔x=y)
 | .int _,x,y,_=>by simp[GR]
 | .bool,x,y,_=>by simp[GR]
 | .unit,x,y,_=>by simp[GR]
 | .pair a b,x,y,h=>by
  simp only[He,qC]at h;simp only[GR,qC,VC h.1,VC h.2];exact⟨fun⟨a,b⟩=>Prod.ext a b,λe=>by rw[e];exact⟨rfl,rfl⟩⟩
 | .str,_,_,h=>by cases h
 | .sl _,_,_,h=>by cases h
 | .ptr _,_,_,h=>by cases h
 | .mp _ _ _ _,_,_,h=>by cases h
def Pa:∀ {t:Ty} {w w':World} {Z Z':Nat->Prop} {cs cs':List Value} {x:t.den},He t=true->C9 t w Z cs x->C9 t w' Z' cs' x->cs=cs'
 | .int _,_,_,_,_,_,_,_,_,h,a=>h.1.trans a.1.symm
 | .bool,_,_,_,_,_,_,_,_,h,a=>(show _= _ from h).trans (show _= _ from a).symm
 | .unit,_,_,_,_,_,_,_,_,h,a=>(show _= _ from h).trans (show _= _ from a).symm
 | .pair h i,_,_,_,_,_,_,_,a,⟨c1,k,e,c,f⟩,⟨j,l,b,d,g⟩=>by
  simp only[He,qC]at a;rw[e,b,Pa a.1 c d,Pa a.2 f g]
 | .str,_,_,_,_,_,_,_,h,_,_=>by cases h
 | .sl _,_,_,_,_,_,_,_,h,_,_=>by cases h
 | .ptr _,_,_,_,_,_,_,_,h,_,_=>by cases h
 | .mp _ _ _ _,_,_,_,_,_,_,_,h,_,_=>by cases h
section
variable {P:Program} {w:World} {Z:Nat->Prop}
def eX {n:Nat} {r:TypeId->Ty->Bool} {cs:List Value} (c:∀ {T:TypeId} {ty:Ty} {cs:List Value} {x:ty.den},r T ty=true->C9 ty w Z cs x->P.keyLits n T cs=some (Mc ty x)):
 ∀ {b:List Field} {off:Nat} {ty:Ty} {x:ty.den},jU P r b off ty=true->C9 ty w Z (cs.drop off) x->∃ls,b.mapM (λf=>P.keyLits n f.type ((cs.drop f.offset).take (P.cellsOf f.type)))=some ls/\ls.flatten=Mc ty x
 | [],off,ty,x,h,a=>by
  cases ty<;>simp[jU]at h;exact⟨[],rfl,rfl⟩
 | [f],off,ty,x,i,d=>by
  have a:(Nat.beq f.offset off&&r f.type ty&&Nat.beq (P.cellsOf f.type) ty.size)=true:=by cases ty<;>exact i
  simp only[qC]at a;have g:=qD a.1.1;have h:=qD a.2;have j:=C9.length d;refine⟨[Mc ty x],?_,by simp⟩;rw[wS,g,h,qP ω,c a.1.2 d];rfl
 |f::B::b,off,ty,x,h,v=>by
  cases ty<;>simp only[jU]at h<;>try cases h
  rename_i a z;simp only[qC]at h;obtain⟨⟨⟨k,l⟩,o⟩,s⟩:=h;obtain⟨c1,A,e,g,y⟩:=v;have d:=C9.length g;have i:=qD k;have j:=qD o;obtain⟨ls,u,t⟩:=eX (cs:=cs) (off:=off+a.size) (x:=x.2) c s (by rw[<-vW,e,zM d];exact y);refine⟨Mc a x.1::ls,?_,by simp[Mc,t]⟩;rw[wS,i,j,e,g0q d,c l g,u];rfl
def eW {n e sz:Nat} {r:Ty->Bool} (b:∀ {ty:Ty} {cs:List Value} {x:ty.den},r ty=true->C9 ty w Z cs x->P.keyLits n e cs=some (Mc ty x)):
 ∀ {m i:Nat} {ty:Ty} {cs:List Value} {x:ty.den},jS r sz m ty=true->C9 ty w Z (cs.drop (i*sz)) x->∃ls,(List.range' i m).mapM (λi=>P.keyLits n e ((cs.drop (i*sz)).take sz))=some ls/\ls.flatten=Mc ty x
 |0,i,ty,cs,x,h,a=>by
  cases ty<;>simp[jS]at h;exact⟨[],rfl,rfl⟩
 |1,i,ty,cs,x,h,c=>by
  have a:(r ty&&Nat.beq ty.size sz)=true:=by cases ty<;>exact h
  simp only[qC]at a;have d:=qD a.2;have f:=C9.length c;refine⟨[Mc ty x],?_,by simp⟩;rw[List.range'_one,wS,qP ω,b a.1 c];rfl
 |m+2,i,ty,cs,x,h,l=>by
  cases ty<;>simp only[jS]at h<;>try cases h
  rename_i c s;simp only[qC]at h;obtain⟨⟨d,f⟩,g⟩:=h;obtain⟨c1,t,e,a,o⟩:=l;have v:=C9.length a;have u:=qD f;obtain⟨ls,k,j⟩:=eW (cs:=cs) (i:=i+1) (x:=x.2) b g (by rw[tZ, <-vW,e,zM ω];exact o);refine⟨Mc c x.1::ls,?_,by simp[Mc,j]⟩;rw[g4u,wS,e,g0q ω,b d a,k];rfl
def VE:∀ {n:Nat} {T:TypeId} {ty:Ty} {cs:List Value} {x:ty.den},nY P n T ty=true->C9 ty w Z cs x->P.keyLits n T cs=some (Mc ty x)
 |0,_,_,_,_,h,_=>by cases h
 |n+1,T,ty,cs,x,h,a=>by
  unfold nY at h;unfold Program.keyLits;split at h
  . rename_i l b;cases ty<;>simp only at h<;>try cases h
    have:=qA h;subst this;obtain⟨e,g⟩:=a;simp only[b,e];rw[qR ⟨trivial,by simp only[Lit.wf,qC,rU];exact g⟩];rfl
  . rename_i b;cases ty<;>simp only at h<;>try cases h
    simp only[b,show cs= _ from a];rfl
  . rename_i k b;simp only[qC]at h;have f:=C9.length a;obtain⟨j,c,d⟩:=eX (n:=n) (cs:=cs) (off:=0) (λhh a=>VE hh a) h.1.1 (by simpa using a);simp only[b];rw[qR ⟨by rw[f,qD h.1.2],h.2⟩,c];simp[d]
  . rename_i m e b;simp only[qC]at h;have f:=C9.length a;obtain⟨j,c,d⟩:=eW (n:=n) (e:=e) (sz:=P.cellsOf e) (i:=0) (cs:=cs) (λhh a=>VE hh a) h.1 (by simpa using a);simp only[b];rw[qR (by rw[f,qD h.2]),g3g,c];simp[d]
  cases h
def FH (P:Program) (T:TypeId) (a:Bool) (ty:Ty):Bool:=nY P 20 T ty&&P.keyTypeAt 20 T&&He ty&& !(P.eqGuardType P.depth T)&&(match P.underlying T with|some (.struct _)=>a|some (.array _ _)=>a| _=> !a)
def IF {T:TypeId} {a:Bool} {ty:Ty} {v:Value} {x:ty.den} (h:FH P T a ty=true) (i:U9 (C9 ty w Z) a v x):v.formed P T=true/\P.keyLits 20 T v.cells.toList=some (Mc ty x):=by
 simp only[FH,qC]at h;obtain⟨⟨⟨⟨b,l⟩,n⟩,_⟩,d⟩:=h;cases a with
 |true=>
  obtain⟨k,e,g⟩:=i;subst e;have j:=VE b g;have f:=C9.length g;refine⟨?_,j⟩;unfold nY at b;split at b
  . rename_i c;simp[c]at d
  . rename_i c;simp[c]at d
  . rename_i c;simp only[qC]at b;simp only[Value.formed,c];have:=qD b.1.2;simp[this,f]
  . rename_i c;simp only[qC]at b;simp only[Value.formed,c];have:=qD b.2;simp[this,f]
  cases b
 |false=>
  have f:C9 ty w Z [v] x:=i;have g:=VE b f;unfold nY at b;split at b
  . rename_i k c;cases ty<;>simp only at b<;>try cases b
    have e:=f.1;simp only[sJ,vO]at e;subst e;exact⟨by simp[Value.formed,c],g⟩
  . rename_i c;cases ty<;>simp only at b<;>try cases b
    have e: [v]= [.bool x]:=f;simp only[sJ,vO]at e;subst e;exact⟨by simp[Value.formed,c],g⟩
  . rename_i c;simp[c]at d
  . rename_i c;simp[c]at d
  cases b
def IE {T:TypeId} {a:Bool} {ty:Ty} (h:FH P T a ty=true):He ty=true:=by
 simp only[FH,qC]at h;exact h.1.1.2
def fG {T:TypeId} {a:Bool} {ty:Ty} {v b:Value} {x y:ty.den} (h:FH P T a ty=true) (j:U9 (C9 ty w Z) a v x) (k:U9 (C9 ty w Z) a b y) (w':World):(Op.equalIn 10000 T v b).run P w'= .ok (GR ty x y) w':=by
 obtain⟨d,l⟩:=IF h j;obtain⟨f,n⟩:=IF h k;have c:=IE h;simp only[FH,qC]at h;obtain⟨r,i,g⟩:=run_equalIn_deep (P:=P) 9980 20 T h.1.1.1.2 w' 20 20 v b _ _ d f l n;rw[i];have:r=GR ty x y:=by
  rw[YD c, <-VC c]at g;cases r<;>cases o:GR ty x y<;>simp_all
 rw[this]
def Ru {T:TypeId} {a:Bool} {ty:Ty} {v:Value} {x:ty.den} (h:FH P T a ty=true) (d:U9 (C9 ty w Z) a v x) (w':World) (b:Bool):(Instr.checkKey b 10000 T v).run P w'= .ok () w':=by
 obtain⟨c,f⟩:=IF h d;simp only[FH,qC]at h;exact run_checkKey_deep (P:=P) b 9980 20 T h.1.1.1.2 w' 20 v _ c f
def P9 {α:Type} (t:Ty) (k:t.den):List (t.den×α)->Nat->Option Nat
 | [],_=>none
 |x::l,i=>bif GR t k x.1 then some i else P9 t k l (i+1)
def I9 {α:Type} (t:Ty) (k:t.den):List (t.den×α)->Option α
 | []=>none
 |x::l=>bif GR t k x.1 then some x.2 else I9 t k l
def Ev {α:Type} (t:Ty) (k:t.den) (v:α):List (t.den×α)->List (t.den×α)
 | []=> [(k,v)]
 |x::l=>bif GR t k x.1 then(k,v)::l else x::Ev t k v l
def Zt {T:TypeId} {g:Bool} {a:Ty} {n:Type} {Rv:Value->n->Prop} {v:Value} {k:a.den} (h:FH P T g a=true) (D:U9 (C9 a w Z) g v k) (w':World):
 ∀ {l:List (a.den×n)} {es:List MapEntry},T3 (U9 (C9 a w Z) g) Rv es l->(Instr.findKey T v es).run P w'= .ok ((P9 a k l 0).bind λj=>(es[j]?).map λe=>(j,e.val)) w':=by
 have J:∀ {l:List (a.den×n)} {es:List MapEntry} (i:Nat),T3 (U9 (C9 a w Z) g) Rv es l->(Instr.findAsking T v es i).run P w'= .ok ((P9 a k l i).bind λj=>(es[j-i]?).map λe=>(j,e.val)) w':=by
  intro l
  induction l with
  |nil=>intro es i b;rw[show es= []from b];rfl
  |cons x l u=>
   intro es i b;obtain⟨e,M,rfl,f,o,F⟩:=b;have I:=fG h D f w';unfold Instr.findAsking P9;simp only[Sem.run_bind,Op.equal,Op.maxDepth,I,Result.andThen_ok];cases GR a k x.1 with
   |true=>simp
   |false=>
    simp only[vH,xM,rI];rw[u (i+1) F];cases H:P9 a k l (i+1)with
    |none=>rfl
    |some j=>
     have N:i+1<=j:=by
      have:∀(l:List (a.den×n)) (i j:Nat),P9 a k l i=some j->i<=j:=by
       intro l
       induction l with
       |nil=>intro i j t;cases t
       |cons y l u=>
        intro i j t;unfold P9 at t;cases A:GR a k y.1 with
        |true=>simp[A]at t;omega
        |false=>simp[A]at t;have:=u _ _ t;omega
      exact this _ _ _ H
     simp only[wE];rw[(ω:j-i=(j-(i+1))+1)];simp
 intro l es b;have G:=J 0 b;by_cases z:(match P.underlying T with|some (.array _ _) |some (.struct _)=>true| _=>false)=true
 . rw[run_findKey_eq w' z];exact G
 have B:=h;simp only[FH,qC]at B;obtain⟨⟨⟨⟨d,_⟩,_⟩,_⟩,s⟩:=B;have E:∀(r:TypeDesc),P.underlying T=some r->(∀(v v':Value) (x y:a.den),U9 (C9 a w Z) g v x->U9 (C9 a w Z) g v' y->Instr.sameNow r v v'=some (GR a x y))->∀ {l:List (a.den×n)} {es:List MapEntry} (i:Nat),T3 (U9 (C9 a w Z) g) Rv es l->Instr.findNow r v es i=some ((P9 a k l i).bind λj=>(es[j-i]?).map λe=>(j,e.val)):=by
  intro r N I l
  induction l with
  |nil=>intro es i b;rw[show es= []from b];rfl
  |cons x l A=>
   intro es i b;obtain⟨e,M,rfl,f,o,F⟩:=b;unfold Instr.findNow P9;rw[I _ _ _ _ D f];cases u:GR a k x.1 with
   |true=>simp
   |false=>
    simp only[rI];rw[A (i+1) F];cases H:P9 a k l (i+1)with
    |none=>rfl
    |some j=>
     have O:i+1<=j:=by
      have:∀(l:List (a.den×n)) (i j:Nat),P9 a k l i=some j->i<=j:=by
       intro l
       induction l with
       |nil=>intro i j t;cases t
       |cons y l A=>
        intro i j t;unfold P9 at t;cases u:GR a k y.1 with
        |true=>simp[u]at t;omega
        |false=>simp[u]at t;have:=A _ _ t;omega
      exact this _ _ _ H
     simp only[wE];rw[(ω:j-i=(j-(i+1))+1)];simp
 unfold nY at d;split at d
 . rename_i q c;simp only[c,rN]at s;subst s;cases a<;>simp only at d<;>try cases d
   have:=qA d;subst this;have:=E _ c (λv v' x y f o=>by
    have t:=f.1;have u:=o.1;simp only[sJ,vO]at t u;rw[t,u];simp[Instr.sameNow,GR,BEq.beq]) 0 b
   simp[Instr.findKey,run_underlying c,this]
 . rename_i c;simp only[c,rN]at s;subst s;cases a<;>simp only at d<;>try cases d
   have:=E _ c (λv v' x y f o=>by
    have t: [v]= [.bool x]:=f;have u: [v']= [.bool y]:=o;simp only[sJ,vO]at t u;rw[t,u];simp[Instr.sameNow,GR]) 0 b
   simp[Instr.findKey,run_underlying c,this]
 . rename_i c;simp[c]at z
 . rename_i c;simp[c]at z
 cases d
end
def Ny (k:IntKind) (n:Int):GU k (k.wrap n):=by
 unfold GU;cases k<;>simp only[IntKind.wrap,IntKind.min,IntKind.max,IntKind.signed,IntKind.bits]<;>simp<;>(try split)<;>omega
def oP (k:IntKind):GU k 0:=by unfold GU;cases k<;>decide
def B4j (k:IntKind):k.min<=0/\0<=k.max:=oP k
def B6i {k:IntKind} {a b:Int} (l:GU k a):GU k (a.tmod b):=by
 have j:=B4j k;unfold GU at*;rcases g4h 0 a with h|h
 . have d:=zL b h;have f:a.tmod b<=a:=by
    rw[uN h];by_cases g:b=0
    . subst g;simp
    have i:=yI a b;rcases g4h 0 b with c|c
    . have:=tO c (g0p h c);omega
    have:=zQ c (zJ h c);omega
   omega
 have d:0<=(-a).tmod b:=zL b ω;have f:(-a).tmod b<= -a:=by
  rw[uN ω];by_cases g:b=0
  . subst g;simp
  have i:=yI (-a) b;rcases g4h 0 b with c|c
  . have:=tO c (g0p (ω:0<= -a) c);omega
  have:=zQ c (zJ (ω:0<= -a) c);omega
 rw[Int.neg_tmod]at d f;omega
def B2r {k:IntKind} {a:Int} (n:Nat) (f:GU k a):GU k (a.fdiv (2^n)):=by
 have d:=B4j k;have b:(0:Int)<2^n:=Int.pow_pos δ;have c:(1:Int)<=2^n:=b;unfold GU at*;rw[sK _ ω];constructor
 . rw[g2f b];have:k.min*2^n<=k.min*1:=Int.mul_le_mul_of_nonpos_left d.1 c;omega
 have:a/2^n<k.max+1:=by
  rw[g2e b];have:(k.max+1)*1<=(k.max+1)*2^n:=uB c ω;omega
 omega
structure TI where
 ty:Ty
 agg:Bool
 elem:TypeId:=0
 fields:List (Nat×Nat×Bool):= []
 arr:Nat:=0
 bytes:Nat:=0
 eq:Bool:=false
 key:TypeId:=0
 rows:Bool:=false
 nest:List Nat:= []
def zc (t:Ty) (vs:List Value):Option (List Value):=
 match t with
 | .int k=>(match vs with| .int k' n::r=>bif decide (k=k')&&decide (n=0)then some r else none| _=>none)
 | .bool=>(match vs with| .bool b::r=>bif b then none else some r| _=>none)
 | .str=>(match vs with| .string s::r=>bif s.data.isEmpty then some r else none| _=>none)
 | .unit=>some vs
 | .pair a b=>(zc a vs).bind (zc b)
 | .sl _=>(match vs with| .slice none 0 0::r=>some r| _=>none)
 | .ptr _=>(match vs with| .pointer none::r=>some r| _=>none)
 | .mp _ _ _ _=>(match vs with| .map none::r=>some r| _=>none)
def Em:Ty->List Value
 | .int k=> [.int k 0]
 | .bool=> [.bool false]
 | .str=> [.string ⟨#[]⟩]
 | .unit=> []
 | .pair a b=>Em a++Em b
 | .sl _=> [.slice none 0 0]
 | .ptr _=> [.pointer none]
 | .mp _ _ _ _=> [.map none]
def lS:∀ {t:Ty} {vs r:List Value},zc t vs=some r->vs=Em t++r
 | .int k,vs,r,h=>by
  simp only[zc]at h;split at h
  . rename_i c n d;cases a:decide (k=c)<;>simp[a]at h;cases b:decide (n=0)<;>simp at b a<;>simp[b]at h;subst b a h;rfl
  cases h
 | .bool,vs,r,h=>by
  simp only[zc]at h;split at h
  . rename_i b a;cases b<;>simp at h;subst h;rfl
  cases h
 | .str,vs,r,h=>by
  simp only[zc]at h;split at h
  . rename_i s b;cases a:s.data.isEmpty<;>simp[a]at h;subst h;have:s=⟨#[]⟩:=by cases s;simp at a;simp[a]
    rw[this];rfl
  cases h
 | .unit,vs,r,h=>by simp[zc]at h;subst h;rfl
 | .pair b c,vs,r,h=>by
  simp only[zc]at h;cases a:zc b vs with
  |none=>simp[a]at h
  |some d=>
   simp[a]at h;rw[lS a,lS h];simp[Em]
 | .sl t,vs,r,h=>by
  simp only[zc]at h;split at h
  . cases h;rfl
  cases h
 | .ptr t,vs,r,h=>by
  simp only[zc]at h;split at h
  . cases h;rfl
  cases h
 | .mp _ _ _ _,vs,r,h=>by
  simp only[zc]at h;split at h
  . cases h;rfl
  cases h
def isB (P:Program) (T:TypeId):Bool:=match P.underlying T with|some .bool=>true| _=>false
def A2l (P:Program) (T:TypeId) (f sz:Nat) (agg:Bool):Bool:=
 match P.underlying T with
 |some (.struct a)=>(match a[f]? with|some x=>bif agg then WC P x.type sz else(Ei P x.type&&Nat.beq sz 1) |none=>false)
 | _=>false
def Zo (P:Program) (T:TypeId):Nat->List (Nat×Nat×Bool)->Bool
 | _,[]=>true
 |f,(b,sz,a)::r=>PO P T f b&&A2l P T f sz a&&Zo P T (f+1) r
def Rb (P:Program) (T:TypeId) (t:Ty):Bool:=match Fq P T with|some z=>(match zc t z.cells.toList with|some []=>true| _=>false) |none=>false
def OF (P:Program) (T:TypeId) (a:Bool):Bool:=match Fq P T with|some (.agg _)=>a|some (.tuple _)=>false|some _=> !a|none=>false
def Wc (P:Program) (T:TypeId) (ti:TI):Bool:=
 Tf P T ti.ty.size&&(bif ti.agg then WC P T ti.ty.size else(Ei P T&&Nat.beq ti.ty.size 1))&&Rb P T ti.ty&&
 (match ti.ty with
  | .bool=>isB P T
  | .str=>(match P.underlying T with|some .string=>true| _=>false)
  | .sl t=>Ho P T ti.elem t.size&&Rb P ti.elem t&&(match P.info? ti.elem with|some i=>Nat.beq i.bytes ti.bytes|none=>false)
  | .int k=>(match P.underlying T with|some (.int k')=>decide (k=k') | _=>false)
  | .mp a b c d=>(match P.underlying T with|some (.map k e)=>Nat.beq k ti.key&&Nat.beq e ti.elem| _=>false)&&FH P ti.key a b&&Rb P ti.elem d&&OF P ti.elem c
  | _=>true)&&
 (bif ti.fields.isEmpty then true else(Zo P T 0 ti.fields&&(match EF P T with|some pl=>decide (pl=ti.fields.map λx=>(x.1,x.2.1)) |none=>false)))&&
 (bif Nat.beq ti.arr 0 then true else(match P.underlying T with|some (.array n e)=>Nat.beq n ti.arr&&Nat.beq e ti.elem| _=>false))&&
 (bif ti.eq then FH P T ti.agg ti.ty else true)
def Qc:Value->C
 | .int k n=>bif decide (k.min<=n)&&decide (n<=k.max)then .val (.int k) n else .raw (.int k n)
 | .bool b=> .val .bool b
 | .string s=> .val .str s
 |v=>bif v.oneCell' then .raw v else .dead
def jD:Value->SV
 | .agg a=>⟨true,a.toList.map Qc⟩
 |v=>⟨false,[Qc v]⟩
def DG {w:World} {Z:Nat->Prop} {B:Nat->Value} {n:Nat} (v:Value):RC w Z B (Qc v) v/\Cz n (Qc v):=by
 cases v with
 |int k m=>
  simp only[Qc];cases h:decide (k.min<=m)&&decide (m<=k.max)with
  |true=>simp at h;simp only[qS];exact⟨⟨rfl,h⟩,trivial⟩
  |false=>simp only[rI];exact⟨⟨rfl,rfl⟩,trivial⟩
 | _=>exact⟨by first|rfl|exact⟨rfl,rfl⟩ |trivial,by first|trivial|rfl⟩
def Dc {w:World} {Z:Nat->Prop} {B:Nat->Value} {n:Nat} :∀vs:List Value,Db w Z B (vs.map Qc) vs/\∀c∈vs.map Qc,Cz n c
 | []=>⟨rfl,by simp⟩
 |v::vs=>⟨⟨v,vs,rfl,(DG (n:=n) v).1,(Dc (n:=n) vs).1⟩,λc a=>by
  simp only[rW,qW]at a;rcases a with rfl|a
  . exact(DG (w:=w) (Z:=Z) (B:=B) v).2
  exact(Dc (w:=w) (Z:=Z) (B:=B) vs).2 c a⟩
def A2f {w:World} {Z:Nat->Prop} {B:Nat->Value} {n:Nat} (v:Value):RS w Z B (jD v) v/\Mp n (jD v):=by
 have b:∀v,RS w Z B ⟨false,[Qc v]⟩ v/\Mp n ⟨false,[Qc v]⟩:=λv=>⟨⟨v,[],rfl,(DG (n:=n) v).1,rfl⟩,λc hc=>by simp at hc;rw[hc];exact(DG (w:=w) (Z:=Z) (B:=B) v).2⟩
 cases v with
 |agg a=>exact⟨⟨a.toList,by simp,(Dc (n:=n) a.toList).1⟩,(Dc (w:=w) (Z:=Z) (B:=B) a.toList).2⟩
 | _=>exact b _
abbrev Ia:=List (Tmp×Bool)
def oO (t:Tmp) (b:Bool):Ia->Bool
 | []=>false
 | (c,a)::r=>(Nat.beq c t&&(b==a)) ||oO t b r
def St.ev (a:St) (ctx:Ia):Operand->Option SV
 | .tmp t=>match a.S t with
  | .one v=>some v
  | .cnd a b v=>bif oO a b ctx then some v else none
  | _=>none
 | .const v=>some (jD v)
 | .func f=>some ⟨false,[.fn f []]⟩
 | .global _=>none
def gctx (a:St):Nat->Tmp->Bool->Ia
 |0,t,b=> [(t,b)]
 |n+1,t,b=>(t,b)::match a.S t with
  | .cnd c b _=>gctx a n c b
  | _=> []
def RU:SV->Option Bool
 | ⟨false,[.val .bool e]⟩=>some e
 | _=>none
def gval (a:St) (t:Tmp):Option Bool:=match a.S t with
 | .one v=>RU v
 | .cnd _ _ v=>RU v
 | _=>none
def ctxP (a:St):Ia->Prop
 | []=>True
 | (t,b)::r=>match gval a t with
  |some e=>match r with
   | []=>e=b
   |r=>e=b/\ctxP a r
  |none=>ctxP a r
def PG {a:St} {t:Tmp} {b e:Bool} {r:Ia} (c:gval a t=some e):ctxP a ((t,b)::r)↔e=b/\ctxP a r:=by
 simp only[ctxP,c];cases r with
 |nil=>simp[ctxP]
 |cons _ _=>rfl
def Q3 (E:G8) (ctx:Ia):Prop:=∀t b,(t,b)∈ctx->E t= .bool b
def fD {t:Tmp} {b:Bool} :∀ {ctx:Ia},oO t b ctx=true->(t,b)∈ctx
 | (f,d)::r,h=>by
  simp only[oO,tX,qC]at h;rcases h with⟨c,a⟩ |h
  . have:=qD c;simp at a;subst this a;simp
  simp[fD h]
def HF (b:Bool):undef≠ .bool b:=by simp[undef]
section
variable {za:Zn} {w0 w:World} {Z:Nat->Prop} {B:Nat->Value} {st:St} {E:G8}
def C3.ev (h:C3 za w0 st E w Z B) {ctx:Ia} (c:Q3 E ctx) {x:Operand} {v:SV} (a:st.ev ctx x=some v):RS w Z B v (Gw.ev E x)/\Mp st.nx v:=by
 cases x with
 |tmp t=>
  have b:=h.slots t;have f:=h.refs t;simp only[St.ev]at a;cases d:st.S t with
  |one u=>rw[d]at b f a;cases a;exact⟨b,f⟩
  |tup _=>rw[d]at a;cases a
  |dead=>rw[d]at a;cases a
  |cnd j i u=>
   rw[d]at b f a;cases g:oO j i ctx with
   |false=>simp[g]at a
   |true=>
    simp[g]at a;subst a;rcases b with⟨_,b⟩ | ⟨b,_⟩
    . exact⟨b,f⟩
    exact absurd (c j i (fD g)) b
 |const u=>cases a;exact A2f u
 |func f=>cases a;exact⟨⟨_,[],rfl,by show _= _;rfl,rfl⟩,λd c=>by simp at c;subst c;exact λk b=>by cases b⟩
 |global g=>cases a
def C3.gctx (h:C3 za w0 st E w Z B):∀ {n:Nat} {t:Tmp} {b:Bool},E t= .bool b->Q3 E (gctx st n t b)
 |0,t,b,c=>λf d a=>by simp[Vc.gctx]at a;rw[a.1,a.2];exact c
 |n+1,t,b,f=>λj i a=>by
  unfold Vc.gctx at a;rcases qW.1 a with a|a
  . cases a;exact f
  have g:=h.slots t;cases d:st.S t with
  |cnd l k u=>
   rw[d]at g a;rcases g with⟨c,_⟩ | ⟨_,c⟩
   . exact h.gctx c j i a
   rw[f]at c;exact absurd c.symm (HF b)
  |one _=>rw[d]at a;cases a
  |tup _=>rw[d]at a;cases a
  |dead=>rw[d]at a;cases a
def Rl {v:SV} {e:Bool} {u:Value} (h:RS w Z B v u) (a:RU v=some e):u= .bool e:=by
 unfold RU at a;split at a
 . cases a;obtain⟨_,_,b,c,_⟩:=h;cases b;simpa[RC,C9]using c
 cases a
def C3.gval (h:C3 za w0 st E w Z B) {t:Tmp} {b e:Bool} (f:E t= .bool b) (a:gval st t=some e):e=b:=by
 have c:=h.slots t;unfold Vc.gval at a;cases d:st.S t with
 |one u=>rw[d]at c a;have:=Rl c a;rw[f]at this;cases this;rfl
 |tup _=>rw[d]at a;cases a
 |dead=>rw[d]at a;cases a
 |cnd i g u=>
  rw[d]at c a;rcases c with⟨_,c⟩ | ⟨_,c⟩
  . have:=Rl c a;rw[f]at this;cases this;rfl
  rw[f]at c;exact absurd c.symm (HF b)
def C3.ctxP (h:C3 za w0 st E w Z B):∀ {ctx:Ia},Q3 E ctx->ctxP st ctx
 | [],_=>trivial
 | (t,b)::r,c=>by
  have d:=h.ctxP (ctx:=r) λt b hm=>c t b (qI _ hm)
  cases a:Vc.gval st t with
  |none=>simp only[Vc.ctxP,a];exact d
  |some e=>exact(PG a).2 ⟨h.gval (c t b (by simp)) a,d⟩
end
def explode:(t:Ty)->t.den->List C
 | .pair a b,x=>explode a x.1++explode b x.2
 | .unit,_=> []
 | .int k,x=> [.val (.int k) x]
 | .bool,x=> [.val .bool x]
 | .str,x=> [.val .str x]
 | .sl t,x=> [.val (.sl t) x]
 | .ptr t,x=> [.pf t x 0]
 | .mp a b c d,x=> [.val (.mp a b c d) x]
def WV (t:Ty):C->Option t.den
 | .val a x=>if h:a=t then some (h▸x)else none
 | .raw (.slice none 0 0)=>match t with
  | .sl _=>some []
  | _=>none
 | .raw (.map none)=>match t with
  | .mp _ _ _ _=>some []
  | _=>none
 | .pf a x 0=>if h:Ty.ptr a=t then some (h▸(show(Ty.ptr a).den from x))else none
 | _=>none
def Mm:(t:Ty)->List C->Option (t.den×List C)
 | .pair a b,c=>(Mm a c).bind λx=>(Mm b x.2).map λy=>((x.1,y.1),y.2)
 | .unit,a=>some ((),a)
 | .int k,c::r=>(WV (.int k) c).map λx=>(x,r)
 | .bool,c::r=>(WV .bool c).map λx=>(x,r)
 | .str,c::r=>(WV .str c).map λx=>(x,r)
 | .sl t,c::r=>(WV (.sl t) c).map λx=>(x,r)
 | .ptr t,c::r=>(WV (.ptr t) c).map λx=>(x,r)
 | .mp a b d f,c::r=>(WV (.mp a b d f) c).map λx=>(x,r)
 | _,_=>none
def Sj (agg:Bool) (t:Ty) (s:SV):Option t.den:=
 bif s.agg==agg then(match Mm t s.cs with|some (x,[])=>some x| _=>none)else none
section
variable {w:World} {Z:Nat->Prop} {B:Nat->Value} {n:Nat}
def Db.append:∀ {cs cs':List C} {vs a:List Value},Db w Z B cs vs->Db w Z B cs' a->Db w Z B (cs++cs') (vs++a)
 | [],_,_,_,h,b=>by rw[show _= _ from h];exact b
 | _:: _,_,_,a,⟨v,f,e,c,d⟩,b=>⟨v,f++a,by rw[e];rfl,c,Db.append d b⟩
def O7:∀ {t:Ty} {cs:List Value} {x:t.den},C9 t w Z cs x->Db w Z B (explode t x) cs
 | .int k,_,_,h=>⟨_,[],h.1,⟨rfl,h.2⟩,rfl⟩
 | .bool,_,_,h=>⟨_,[],h,rfl,rfl⟩
 | .str,_,_,h=>⟨_,[],h,rfl,rfl⟩
 | .unit,_,_,h=>h
 | .pair c d,_,_,⟨c1,f,e,a,b⟩=>by rw[e];exact(O7 a).append (O7 b)
 | .sl t,_,_,h=>by
  obtain⟨a,b,e,r⟩:=h;exact⟨_,[],e,⟨a,b,rfl,r⟩,rfl⟩
 | .ptr t,_,_,h=>by
  obtain⟨b,o,a,e,r⟩:=h;exact⟨_,[],e,⟨b,o,a,rfl,r⟩,rfl⟩
 | .mp d f g i,_,_,h=>by
  rcases h with⟨e,h⟩ | ⟨b,c,a,e,h⟩
  . exact⟨_,[],e, .inl ⟨rfl,h⟩,rfl⟩
  exact⟨_,[],e, .inr ⟨b,c,a,rfl,h⟩,rfl⟩
def F3:∀ {t:Ty} {x:t.den},∀c∈explode t x,Cz n c
 | .int k,_,c,h=>by simp[explode]at h;subst h;trivial
 | .bool,_,c,h=>by simp[explode]at h;subst h;trivial
 | .str,_,c,h=>by simp[explode]at h;subst h;trivial
 | .unit,_,c,h=>by simp[explode]at h
 | .pair a b,x,c,h=>by
  simp only[explode,qU]at h;rcases h with h|h
  . exact F3 c h
  exact F3 c h
 | .sl t,_,c,h=>by simp[explode]at h;subst h;trivial
 | .ptr t,_,c,h=>by simp[explode]at h;subst h;trivial
 | .mp _ _ _ _,_,c,h=>by simp[explode]at h;subst h;trivial
def iR {t:Ty} {c:C} {x:t.den} {v:Value} (h:RC w Z B c v) (a:WV t c=some x):C9 t w Z [v] x:=by
 unfold WV at a;split at a
 . rename_i j k;split at a
   . rename_i e;subst e;cases a;exact h
   cases a
 . split at a
   . cases a;rw[show v= _ from h.1];exact⟨none,0,rfl,qV _,rS _,λ_=>rfl, .inl rfl⟩
   cases a
 . split at a
   . cases a;rw[show v= _ from h.1];exact .inl ⟨rfl,rfl⟩
   cases a
 . rename_i j k;split at a
   . rename_i e;subst e;cases a;obtain⟨b,o,d,e,f,g,i⟩:=h;exact⟨b,o,d,by rw[e];rfl,f,g,i⟩
   cases a
 cases a
def B9i:∀ {t:Ty} {cs r:List C} {vs:List Value} {x:t.den},Db w Z B cs vs->Mm t cs=some (x,r)->∃v1 v2,vs=v1++v2/\C9 t w Z v1 x/\Db w Z B r v2:=by
 have one:∀(t:Ty) {cs r:List C} {vs:List Value} {x:t.den} (c:C),Db w Z B (c::cs) vs->(WV t c).map (λx=>(x,cs))=some (x,r)->∃v1 v2,vs=v1++v2/\C9 t w Z v1 x/\Db w Z B r v2:=by
  intro t cs r vs x c h b;obtain⟨v,g,e,d,f⟩:=h;cases a:WV t c with
  |none=>simp[a]at b
  |some y=>
   simp[a]at b;obtain⟨rfl,rfl⟩:=b;exact⟨[v],g,e,iR d a,f⟩
 intro t
 induction t with
 |pair g h k l=>
  intro cs r vs x j a;simp only[Mm]at a;cases b:Mm g cs with
  |none=>simp[b]at a
  |some y=>
   simp only[b,wE]at a;cases d:Mm h y.2 with
   |none=>simp[d]at a
   |some z=>
    simp[d]at a;obtain⟨rfl,rfl⟩:=a;obtain⟨v1,v2,e,n,o⟩:=k j (by rw[b]);obtain⟨f,v,i,s,u⟩:=l o (by rw[d]);exact⟨v1++f,v,by rw[e,i];simp,⟨v1,f,rfl,n,s⟩,u⟩
 |unit=>intro cs r vs x h a;simp[Mm]at a;subst a;exact⟨[],vs,rfl,rfl,h⟩
 |int k=>intro cs r vs x h a;cases cs with
  |nil=>simp[Mm]at a
  |cons c cs=>exact one _ c h a
 |bool=>intro cs r vs x h a;cases cs with
  |nil=>simp[Mm]at a
  |cons c cs=>exact one _ c h a
 |str=>intro cs r vs x h a;cases cs with
  |nil=>simp[Mm]at a
  |cons c cs=>exact one _ c h a
 |sl t _=>intro cs r vs x h a;cases cs with
  |nil=>simp[Mm]at a
  |cons c cs=>exact one _ c h a
 |ptr t _=>intro cs r vs x h a;cases cs with
  |nil=>simp[Mm]at a
  |cons c cs=>exact one _ c h a
 |mp b d f g _ _=>intro cs r vs x h a;cases cs with
  |nil=>simp[Mm]at a
  |cons c cs=>exact one _ c h a
def Hd {t:Ty} {cs:List C} {vs:List Value} {x:t.den} (h:Db w Z B cs vs) (c:Mm t cs=some (x,[])):C9 t w Z vs x:=by
 obtain⟨f,d,e,a,b⟩:=B9i h c;rw[show d= []from b,vX]at e;rw[e];exact a
def Ex {a:Bool} {t:Ty} {s:SV} {v:Value} {x:t.den} (h:RS w Z B s v) (b:Sj a t s=some x):Bl a t w Z v x:=by
 obtain⟨d,g⟩:=s;unfold Sj at b;cases c:(d==a)with
 |false=>simp[c]at b
 |true=>
  simp only[c,qS]at b;have:d=a:=by simpa using c
  subst this;split at b
  . rename_i y f;cases b;cases d with
    |true=>obtain⟨vs,e,h⟩:=h;exact⟨vs,e,Hd h f⟩
    |false=>exact Hd (vs:= [v]) h f
  cases b
def Bl.explode {a:Bool} {t:Ty} {v:Value} {x:t.den} (h:Bl a t w Z v x):RS w Z B ⟨a,explode t x⟩ v:=by
 cases a with
 |true=>obtain⟨cs,e,h⟩:=h;exact⟨cs,e,O7 h⟩
 |false=>exact O7 (cs:= [v]) h
def Db.len:∀ {cs:List C} {vs:List Value},Db w Z B cs vs->cs.length=vs.length
 | [],_,h=>by rw[show _= _ from h];rfl
 | _:: _,_,⟨v,b,e,_,a⟩=>by rw[e,rK,rK,Db.len a]
def Db.drop:∀ {cs:List C} {vs:List Value} (i:Nat),Db w Z B cs vs->Db w Z B (cs.drop i) (vs.drop i)
 |cs,vs,0,h=>h
 | [],_,i+1,h=>by rw[show _= _ from h];simp;rfl
 | _:: _,_,i+1,⟨v,b,e,_,a⟩=>by rw[e];simp only[List.drop_succ_cons];exact Db.drop i a
def Db.take:∀ {cs:List C} {vs:List Value} (i:Nat),Db w Z B cs vs->Db w Z B (cs.take i) (vs.take i)
 |cs,vs,0,h=>by simp;rfl
 | [],_,i+1,h=>by rw[show _= _ from h];simp;rfl
 | _:: _,_,i+1,⟨v,c,e,a,b⟩=>by rw[e];simp only[List.take_succ_cons];exact⟨v,_,rfl,a,Db.take i b⟩
end
def A2u (op:BinOp) (k:IntKind) (a b:Int):Option (Option Prop×C):=
 match op with
 | .add=>some (none, .val (.int k) (k.wrap (a+b)))
 | .sub=>some (none, .val (.int k) (k.wrap (a-b)))
 | .mul=>some (none, .val (.int k) (k.wrap (a*b)))
 | .quo=>some (some (b≠0), .val (.int k) (k.wrap (a.tdiv b)))
 | .rem=>some (some (b≠0), .val (.int k) (a.tmod b))
 | .and=>some (none, .val (.int k) (k.wrap (BitVec.ofInt k.bits a&&&BitVec.ofInt k.bits b).toNat))
 | .or=>some (none, .val (.int k) (k.wrap (BitVec.ofInt k.bits a|||BitVec.ofInt k.bits b).toNat))
 | .xor=>some (none, .val (.int k) (k.wrap (BitVec.ofInt k.bits a^^^BitVec.ofInt k.bits b).toNat))
 | .eql=>some (none, .val .bool (decide (a=b)))
 | .neq=>some (none, .val .bool (decide (a≠b)))
 | .lss=>some (none, .val .bool (decide (a<b)))
 | .leq=>some (none, .val .bool (decide (a<=b)))
 | .gtr=>some (none, .val .bool (decide (b<a)))
 | .geq=>some (none, .val .bool (decide (b<=a)))
 | _=>none
def C4n (op:BinOp) (a b:ByteArray):Option (Option Prop×C):=match op with
 | .eql=>some (none, .val .bool (decide (a=b)))
 | .neq=>some (none, .val .bool (decide (a≠b)))
 | .add=>some (some (a.data.toList.length+b.data.toList.length<=9223372036854775807), .val .str (a++b))
 | _=>none
def C2f (op:BinOp):C->C->Option (Option Prop×C)
 | .val (.int k) a, .val (.int c) b=>
  match op with
  | .shl=>some (some (0<=b), .val (.int k) (k.wrap (a*2^(min b.toNat k.bits))))
  | .shr=>some (some (0<=b), .val (.int k) (a.fdiv (2^(min b.toNat k.bits))))
  |op=>bif decide (k=c)then A2u op k a b else none
 | .val .bool a, .val .bool b=>
  match op with
  | .eql=>some (none, .val .bool (a==b))
  | .neq=>some (none, .val .bool (a !=b))
  | _=>none
 | .val .str a, .val .str b=>C4n op a b
 | _,_=>none
section
variable {za:Zn} {w0 w:World} {Z:Nat->Prop} {B:Nat->Value} {P:Program} {E:G8}
def C8m {ty:TypeId} {T T':TypeId} {x y:Operand} {a b:Bool} (g:Gw.ev E x= .bool a) (h:Gw.ev E y= .bool b) (d:P.underlying T=some .bool):Gw.E2 P E ty (.binOp .eql T x y T') w (.bool (a==b)) w:=λ_ _ _ _=>by
 have c:=run_equalIn_bool' (P:=P) w 9999 T a b d;have f:(eqGuard .eql T x y (.bool a) (.bool b)).run P w= .ok () w:=rfl;have d:(binOp .eql T (.bool a) (.bool b)).run P w= .ok (.bool (a==b)) w:=by
  show((Op.equal T (.bool a) (.bool b))>>=λr=>pure (Value.bool r)).run P w= _;unfold Op.equal Op.maxDepth;rw[Sem.run_bind,c];rfl
 simp only[execOp,g,h];simp[f,d]
def B3o {T:TypeId} (h:isB P T=true):P.underlying T=some .bool:=by
 unfold isB at h;split at h
 . assumption
 cases h
def A8t {op:BinOp} {k:IntKind} {a b:Int} {φ:Option Prop} {c:C} (h:A2u op k a b=some (φ,c)) (d:FL φ) (f:GU k a):∃v,(∀(w':World) (T:TypeId),(binOp op T (.int k a) (.int k b)).run P w'= .ok v w')/\RC w Z B c v/\∀n,Cz n c:=by
 cases op<;>simp only[A2u,rF,g0n,reduceCtorEq]at h<;>(try exact h.elim)<;>obtain⟨rfl,rfl⟩:=h
 case rem=>exact⟨_,λw' T=>by simp[binOp,Op.intDiv,show b≠0 from d,go_sem],⟨rfl,B6i f⟩,λ_=>trivial⟩
 case quo=>exact⟨_,λw' T=>by simp[binOp,Op.intDiv,show b≠0 from d,go_sem],⟨rfl,Ny _ _⟩,λ_=>trivial⟩
 case add|sub|mul=>exact⟨_,λw' T=>by simp[binOp,Op.intArith,go_sem],⟨rfl,Ny _ _⟩,λ_=>trivial⟩
 case and|or|xor=>exact⟨_,λw' T=>by simp[binOp,Op.intBits,go_sem],⟨rfl,Ny _ _⟩,λ_=>trivial⟩
 all_goals exact⟨.bool _,λw' T=>by simp[binOp,Op.intCmp,go_sem];try rfl,rfl,λ_=>trivial⟩
def A4t {op:BinOp} {ty:TypeId} {T T':TypeId} {x y:Operand} {a b:ByteArray} {v:Value} (g:Gw.ev E x= .string a) (h:Gw.ev E y= .string b) (f:(Op.stringOp op a b).run P w= .ok v w):Gw.E2 P E ty (.binOp op T x y T') w v w:=λ_ _ _ _=>by
 have d:(eqGuard op T x y (.string a) (.string b)).run P w= .ok () w:=by cases op<;>rfl
 have c:(binOp op T (.string a) (.string b)).run P w= .ok v w:=by cases op<;>exact f
 simp only[execOp,g,h];simp[go_sem,d,c]
def A7m (a b:ByteArray):(a.toList==b.toList)=decide (a=b):=by
 rw[ByteArray.toList_eq,ByteArray.toList_eq];by_cases h:a=b
 . subst h;simp
 rw[rC h];exact vC.2 λe=>h (ByteArray.ext (yT.1 e))
def C0f {op:BinOp} {a b:ByteArray} {x y:Operand} {c:C} {φ:Option Prop} {T T' ty:TypeId} (h:C4n op a b=some (φ,c)) (i:FL φ) (d:Gw.ev E x= .string a) (f:Gw.ev E y= .string b):∃v,(∀w',Gw.E2 P E ty (.binOp op T x y T') w' v w')/\RC w Z B c v/\∀n,Cz n c:=by
 unfold C4n at h;split at h
 . cases h;exact⟨_,λw'=>A4t d f (v:= .bool (a.toList==b.toList)) rfl,by rw[A7m];rfl,λ_=>trivial⟩
 . cases h;exact⟨_,λw'=>A4t d f (v:= .bool (!(a.toList==b.toList))) rfl,by rw[A7m,decide_not];rfl,λ_=>trivial⟩
 . cases h;have g:¬((a.size+b.size:Nat):Int)>i64.max:=by
    have j:a.data.toList.length+b.data.toList.length<=9223372036854775807:=i;have k:i64.max=9223372036854775807:=δ
    have l:a.size=a.data.toList.length:=by rw[sB];rfl
    have o:b.size=b.data.toList.length:=by rw[sB];rfl
    omega
   exact⟨.string (a++b),λw'=>A4t d f (by unfold Op.stringOp;simp only[g,xM];rfl),rfl,λ_=>trivial⟩
 cases h
def B7j {op:BinOp} {x y:Operand} {cx r c:C} {φ:Option Prop} {T T' ty:TypeId} (h:C2f op cx r=some (φ,c)) (i:FL φ) (a:RC w Z B cx (Gw.ev E x)) (b:RC w Z B r (Gw.ev E y)) (g:isB P T=true\/∀e,cx≠ .val .bool e):
 ∃v,(∀w',Gw.E2 P E ty (.binOp op T x y T') w' v w')/\RC w Z B c v/\∀n,Cz n c:=by
 unfold C2f at h;split at h
 . rename_i k f A d;obtain⟨a,s⟩:=a;obtain⟨b,D⟩:=b;simp only[sJ,vO]at a b;split at h
   . cases h;have j:¬d<0:=Int.not_lt.2 i;have o:∀w',Gw.E2 P E ty (.binOp .shl T x y T') w' (.int k (k.wrap (f*2^(min d.toNat k.bits)))) w':=λw'=>B6r a b (by simp[binOp,Op.shift,j,go_sem])
     exact⟨_,o,⟨rfl,Ny _ _⟩,λ_=>trivial⟩
   . cases h;have j:¬d<0:=Int.not_lt.2 i;have o:∀w',Gw.E2 P E ty (.binOp .shr T x y T') w' (.int k (f.fdiv (2^(min d.toNat k.bits)))) w':=λw'=>B6r a b (by simp[binOp,Op.shift,j,go_sem])
     exact⟨_,o,⟨rfl,B2r _ s⟩,λ_=>trivial⟩
   cases l:decide (k=A)with
   |false=>simp[l]at h
   |true=>
    simp only[l,qS]at h;have:=qA l;subst this;obtain⟨v,u,z⟩:=A8t (P:=P) (w:=w) (Z:=Z) (B:=B) h i s;exact⟨v,λw'=>B6r a b (u w' T),z⟩
 . rename_i f d;have a:Gw.ev E x= .bool f:=by simpa[RC,C9]using a
   have b:Gw.ev E y= .bool d:=by simpa[RC,C9]using b
   have t:P.underlying T=some .bool:=by
    rcases g with g|g
    . exact B3o g
    exact absurd rfl (g f)
   split at h
   . cases h;exact⟨_,λw'=>C8m a b t,rfl,λ_=>trivial⟩
   . cases h;exact⟨_,λw'=>C8p a b t,rfl,λ_=>trivial⟩
   cases h
 . exact C0f h i (by simpa[RC,C9]using a) (by simpa[RC,C9]using b)
 cases h
end
structure Cx where
 P:Program
 tys:List (Nat×TI)
def V3 {α:Type} (s:Nat):List (Nat×α)->Option α
 | []=>none
 | (t,x)::l=>bif Nat.beq t s then some x else V3 s l
def Cx.ti (cx:Cx) (T:TypeId):Option TI:=V3 T cx.tys
def G7 (P:Program):List (Nat×TI)->Bool
 | []=>true
 | (T,ti)::l=>Wc P T ti&&G7 P l
def B9 {P:Program} :∀ {l:List (Nat×TI)},G7 P l=true->∀ {T:TypeId} {ti:TI},V3 T l=some ti->Wc P T ti=true
 | (T',c)::l,h,T,ti,a=>by
  simp only[G7,qC]at h;simp only[V3]at a;cases b:Nat.beq T' T with
  |true=>simp[b]at a;have:=qD b;subst a this;exact h.1
  |false=>simp[b]at a;exact B9 h.2 a
def c1:SV->Option C
 | ⟨false,[c]⟩=>some c
 | _=>none
def faC (off:Nat):C->Option C
 | .box k o=>some (.box k (o+off))
 | .elp k sz i o=>some (.elp k sz i (o+off))
 | .pf t x o=>some (.pf t x (o+off))
 | _=>none
def cut (off n:Nat) (cs:List C):Option (List C):=(λs=>bif Nat.beq s.length n then some s else none) ((cs.drop off).take n)
def GW (q:Nat):List (Nat×Nat)->Option Nat
 | []=>none
 | (i,p)::r=>bif Nat.beq p q then some i else GW q r
def B9r (a:St) (k:Nat):Option ((t:Ty)×List t.den):=match a.L k with
 | .row t _ l=>some ⟨t,l⟩
 | .al j=>match a.L j with
  | .rows t _ _ a al none=>(GW k al).map λi=>⟨t,a.getD i []⟩
  | _=>none
 | _=>none
def hdC (a:St) (k:Nat):Option ((t:Ty)×List t.den):=match a.L k with
 | .rows t _ _ b _ _=>some ⟨.sl t,b⟩
 | .nest t _ _ b _ _=>bif Nat.beq t.size 1 then some ⟨t,b⟩else none
 | _=>B9r a k
def A6f (b:St) (n:Nat):C->Option (List C)
 | .box k a=>match b.L k with
  | .box _ c=>cut a n c
  | .sbox q t x=>bif Nat.beq q k then cut a n (explode t x)else none
  | _=>none
 | .pf t x a=>cut a n (explode t x)
 | .elp k sz i a=>match B9r b k with
  |some ⟨t,l⟩=>bif Nat.beq sz t.size then cut a n (explode t (l.getD i t.dflt))else none
  |none=>none
 | _=>none
def gx {α:Type} (d:α) (l:List α) (i:Int):α:=l.getD i.toNat d
def C3c (a:St) (i:Int):C->Option (Option Prop×C)
 | .val (.sl t) l=>some (some (0<=i/\i<(l.length:Int)), .pf t (gx t.dflt l i) 0)
 | .row k=>match hdC a k with
  |some ⟨t,l⟩=>some (some (0<=i/\i<(l.length:Int)), .elp k t.size i.toNat 0)
  |none=>none
 | .win k sz a b=>some (some (0<=i/\i<b-a), .elp k sz (a+i).toNat 0)
 | _=>none
def B8p (a:St):C->Option Int
 | .val (.sl _) l=>some (l.length:Int)
 | .row k=>match hdC a k with
  |some ⟨_,l⟩=>some (l.length:Int)
  |none=>none
 | .mp k=>match a.L k with
  | .map _ _ _ _ a=>some (a.length:Int)
  | _=>none
 | .raw (.slice none 0 0)=>some 0
 | .win _ _ b a=>some (a-b)
 | .val .str s=>some (s.data.toList.length:Int)
 | _=>none
def UB:SV->Option Int
 | ⟨false,[.val (.int _) n]⟩=>some n
 | _=>none
def A4a (b:St) (lo a:Option Int):C->Option (Option Prop×C)
 | .val (.sl t) l=>some (some (0<=lo.getD 0/\lo.getD 0<=a.getD (l.length:Int)/\a.getD (l.length:Int)<=(l.length:Int)), .val (.sl t) ((l.take (a.getD (l.length:Int)).toNat).drop (lo.getD 0).toNat))
 | .row k=>match b.L k with
  | .row t _ l=>some (some (0<=lo.getD 0/\lo.getD 0<=a.getD (l.length:Int)/\a.getD (l.length:Int)<=(l.length:Int)), .win k t.size (lo.getD 0) (a.getD (l.length:Int)))
  | _=>none
 | _=>none
def A3b:Op->Bool
 | .load _ _=>true
 | .lookup _ _ _ _=>true
 | _=>false
section
variable {za:Zn} {w0 w:World} {Z:Nat->Prop} {B:Nat->Value} {st:St} {E:G8} {P:Program}
def Xq (P:Program) (st:St) (E:G8) (w:World) (Z:Nat->Prop) (B:Nat->Value) (ty:TypeId) (op:Op) (d:DV):Prop:=
 ∃v,(∀a,(A3b op=true->R5 w a)->Gw.E2 P E ty op a v a)/\(∀E',RD w Z B E' d v)/\MP st.nx d
def Hf {ty:TypeId} {op:Op} {c:C} {v:Value} (f:∀w',(A3b op=true->R5 w w')->Gw.E2 P E ty op w' v w') (b:RC w Z B c v) (d:Cz st.nx c):Xq P st E w Z B ty op (.one ⟨false,[c]⟩):=
 ⟨v,f,λ_=>⟨v,[],rfl,b,rfl⟩,λg a=>by simp at a;subst a;exact d⟩
def mZ {s:SV} {c:C} {v:Value} (h:RS w Z B s v) (d:Mp st.nx s) (a:c1 s=some c):RC w Z B c v/\Cz st.nx c:=by
 unfold c1 at a;split at a
 . cases a;obtain⟨_,_,e,b,_⟩:=h;cases e;exact⟨b,d _ (by simp)⟩
 cases a
def B8i {s:SV} {n:Int} {v:Value} (h:RS w Z B s v) (b:UB s=some n):∃k,v= .int k n/\GU k n:=by
 unfold UB at b;split at b
 . cases b;obtain⟨_,_,e,a,_⟩:=h;cases e;obtain⟨a,c⟩:=a;simp only[sJ,vO]at a;exact⟨_,a,c⟩
 cases b
def C5p {T ty:TypeId} {x:Operand} {c j:C} {f off:Nat} (d:PO P T f off=true) (a:RC w Z B c (Gw.ev E x)) (g:Cz st.nx c) (h:faC off c=some j):Xq P st E w Z B ty (.fieldAddr T x f) (.one ⟨false,[j]⟩):=by
 unfold faC at h;split at h<;>cases h
 . obtain⟨b,e,i⟩:=a;exact Hf (λk _=>CR i d) ⟨b,e,rfl⟩ g
 . obtain⟨b,m,l,e,r,i⟩:=a;exact Hf (λk _=>CR i d) ⟨b,m,l,e,r,by rw[uS]⟩ g
 obtain⟨b,t,n,e,s,o,a⟩:=a;exact Hf (λk _=>CR e d) ⟨b,t,n,by rw[uS],s,o,a⟩ g
def Qd {cs cs':List C} {vs:List Value} {off n:Nat} (h:Db w Z B cs vs) (a:cut off n cs=some cs'):Db w Z B cs' ((vs.drop off).take n)/\((vs.drop off).take n).length=n/\∀c∈cs',c∈cs:=by
 unfold cut at a;have d:=(h.drop off).take n;cases b:Nat.beq ((cs.drop off).take n).length n with
 |false=>simp only[b,rI]at a;cases a
 |true=>
  simp only[b,qS,rF]at a;subst a;exact⟨d,by rw[<-d.len];exact qD b,λc a=>vM (rO a)⟩
def A6g {T ty:TypeId} {x:Operand} {b o:Nat} {vs:List Value} {agg:Bool} (f:Gw.ev E x= .pointer (some ⟨b,o,none⟩)) (g:I6 w ⟨b,o,none⟩ vs)
 (a:(agg=true/\WC P T vs.length=true)\/(agg=false/\Ei P T=true/\vs.length=1)):∃v,(∀w',w'.heap[b]? =w.heap[b]?->Gw.E2 P E ty (.load T x) w' v w')/\((agg=true/\v= .agg vs.toArray)\/(agg=false/\vs= [v])):=by
 have d:∀w':World,w'.heap[b]? =w.heap[b]?->I6 w' ⟨b,o,none⟩ vs:=λw' c j v hj=>by
  have:=g j v hj;rw[K5]at this|-;rw[<-this];exact World.cell?_of_block c
 rcases a with⟨rfl,a⟩ | ⟨rfl,a,h⟩
 . exact⟨.agg vs.toArray,λw' c=>A4s f a rfl (d w' c), .inl ⟨rfl,rfl⟩⟩
 match vs,h with
 | [v],_=>
  refine⟨v,λw' c=>lR f a ?_, .inr ⟨rfl,rfl⟩⟩;have:=d w' c 0 v rfl;rwa[K5]at this
def LS {T ty:TypeId} {x:Operand} {b o:Nat} {cs:List C} {vs:List Value} {agg:Bool} (k:Gw.ev E x= .pointer (some ⟨b,o,none⟩)) (g:b<w.heap.size) (h:I6 w ⟨b,o,none⟩ vs) (a:Db w Z B cs vs) (i:∀c∈cs,Cz st.nx c)
 (j:(agg=true/\WC P T vs.length=true)\/(agg=false/\Ei P T=true/\vs.length=1)):Xq P st E w Z B ty (.load T x) (.one ⟨agg,cs⟩):=by
 obtain⟨v,d,f⟩:=A6g (ty:=ty) k h j;refine⟨v,λn l=>d n ((l rfl).block b g),?_,i⟩;rcases f with⟨rfl,rfl⟩ | ⟨rfl,rfl⟩
 . exact λ_=>⟨vs,rfl,a⟩
 exact λ_=>a
def Ll {q i:Nat} :∀ {al:List (Nat×Nat)},GW q al=some i->(i,q)∈al
 | [],h=>by cases h
 | (j,p)::r,h=>by
  simp only[GW]at h;cases a:Nat.beq p q with
  |true=>simp only[a,qS,rF]at h;have:=qD a;subst this;subst h;simp
  |false=>simp only[a,rI]at h;exact qI _ (Ll h)
def lE {U:Nat->Prop} {t:Ty} {k e e' i q:Nat} {ls:List (List t.den)} {al:List (Nat×Nat)} (h:RL U w Z B k (.rows t e e' ls al none)) (u:GW q al=some i):
 ∃xs b,w.ownsRow 0 e 1 (B k) ls.length xs/\AtV xs i (B q)/\w.ownsRow 0 e' t.size (B q) (ls.getD i []).length b/\G5 (C9 t w Z) b (ls.getD i []):=by
 obtain⟨xs,a,⟨n,o,v⟩,x,y⟩:=h;rcases n _ (Ll u)with d| ⟨f,c⟩
 case inr=>
  have l:=a.1;rw[qE,rT (by simp only at f;omega)];refine⟨xs,[],a, .inr ⟨f,c⟩,?_,rfl⟩;simp only at c;rw[c];exact World.ownsRow_nil _ _ _ _
 have r:i<ls.length:=by have:=(sR.1 d).1;have l:=a.1;omega
 have s:ls[i]? =some (ls.getD i []):=by rw[qE,qM r];rfl
 obtain⟨b,g,j⟩:=o i _ _ rfl s d;exact⟨xs,b,a, .inl d,g,j⟩
def lD (h:C3 za w0 st E w Z B) {k:Nat} {t:Ty} {l:List t.den} (a:B9r st k=some ⟨t,l⟩):∃e xs,w.ownsRow 0 e t.size (B k) l.length xs/\G5 (C9 t w Z) xs l:=by
 unfold B9r at a;split at a
 . rename_i s e x c;cases a;have b:=h.locs k;rw[c]at b;obtain⟨xs,o,i,_⟩:=b;exact⟨e,xs,o,i⟩
 . rename_i r c;split at a
   . rename_i s e d y al n;simp only[qK]at a;obtain⟨v,j,a⟩:=a;cases a;have b:=h.locs r;rw[n]at b;obtain⟨_,u,_,_,f,g⟩:=lE b j;exact⟨d,u,f,g⟩
   cases a
 cases a
def B3f (h:C3 za w0 st E w Z B) {k:Nat} {t:Ty} {l:List t.den} (a:hdC st k=some ⟨t,l⟩):∃e xs,w.ownsRow 0 e t.size (B k) l.length xs:=by
 unfold hdC at a;split at a
 . rename_i g e i n al s d;cases a;have b:=h.locs k;rw[d]at b;obtain⟨xs,f,_⟩:=b;exact⟨e,xs,f⟩
 . rename_i g e i n o r d;cases c:Nat.beq g.size 1 with
   |false=>simp only[c,rI]at a;cases a
   |true=>
    simp only[c,qS]at a;cases a;have b:=h.locs k;rw[d]at b;obtain⟨xs,j,_⟩:=b;exact⟨e,xs,by rw[qD c];exact j.own⟩
 obtain⟨e,xs,f,_⟩:=lD h a;exact⟨e,xs,f⟩
def B8t (h:C3 za w0 st E w Z B) {T ty:TypeId} {x:Operand} {c:C} {cs:List C} {n:Nat} {agg:Bool} (A:RC w Z B c (Gw.ev E x)) (a:A6f st n c=some cs)
 (z:(agg=true/\WC P T n=true)\/(agg=false/\Ei P T=true/\n=1)):Xq P st E w Z B ty (.load T x) (.one ⟨agg,cs⟩):=by
 unfold A6f at a;split at a
 . rename_i D l;split at a
   . rename_i ag ad s;have r:=h.locs D;have O:=h.refl D;rw[s]at r O;obtain⟨k,ah,e,_,_,Q,u⟩:=r;obtain⟨V,o,i⟩:=A;rw[e]at o;cases o;obtain⟨d,f,g⟩:=Qd u a;have:=M6 Q.cellsAt l n;rw[sD]at this;exact LS i Q.lt this d (λc b=>O c (g c b)) (by rw[f];exact z)
   . rename_i q t aa s;cases G:Nat.beq q D with
     |false=>simp only[G,rI]at a;cases a
     |true=>
      simp only[G,qS]at a;have:=qD G;subst this;have r:=h.locs q;rw[s]at r;obtain⟨_,⟨k,a8,W,y,J,b,H⟩,_⟩:=r;simp only[sJ,vO]at y;obtain⟨V,o,i⟩:=A;rw[y]at o;cases o;obtain⟨d,f,g⟩:=Qd (O7 (B:=B) H) a;have u:=M6 b l n;rw[sD]at u;exact LS i (h.zlt _ J) u d (λc b=>F3 c (g c b)) (by rw[f];exact z)
   cases a
 . rename_i t aa l;obtain⟨k,a8,W,i,J,b,H⟩:=A;obtain⟨d,f,g⟩:=Qd (O7 (B:=B) H) a;exact LS i (h.zlt k J) (M6 b l n) d (λc b=>F3 c (g c b)) (by rw[f];exact z)
 . rename_i D sz M l;split at a
   . rename_i t N s;cases I:Nat.beq sz t.size with
     |false=>simp[I]at a
     |true=>
      simp only[I,qS]at a;have a6:=qD I;subst a6;obtain⟨e,a9,y,a1⟩:=lD h s;obtain⟨k,m,ab,X,R,i⟩:=A;rw[X]at y;have a5:m=N.length:=by
       rcases y.2 with⟨F,_⟩ | ⟨_,_,_,F,_⟩<;>cases F
       rfl
      subst a5;have a4:=G5.get (λ_ _ h=>C9.length h) a1 (qM R);have a3:N.getD M t.dflt=N[M]:=by rw[qE,qM R];rfl
      rw[a3]at a;obtain⟨d,f,g⟩:=Qd (O7 (B:=B) a4) a;have Y:=(World.ownsRow.lt y k rfl).2;have a0:I6 w ⟨k,0,none⟩ a9:=λj v hj=>by
       rcases y.2 with⟨F,_⟩ | ⟨af,ac,ae,F,_,a2,_,_,_,a7⟩
       . cases F
       cases F;rw[K5,sD];simp only[World.cell?,a2];rw[<-a7,wA]at hj;split at hj
       . simpa using hj
       cases hj
      have U:=M6 (M6 a0 (M*t.size) t.size) l n;rw[sD]at U;exact LS i Y U d (λc b=>F3 c (g c b)) (by rw[f];exact z)
   cases a
 cases a
def H1 {α:Type} {d:α} {l:List α} {i:Int} (a:0<=i) (b:i<(l.length:Int)):l[i.toNat]? =some (gx d l i):=by
 have a:i.toNat<l.length:=ω
 rw[gx,qE,qM a];rfl
def B3j (h:C3 za w0 st E w Z B) {T ty e:TypeId} {x ix:Operand} {c u:C} {i:Int} {φ:Option Prop} {a9:IntKind} (H:RC w Z B c (Gw.ev E x)) (G:Gw.ev E ix= .int a9 i) (b:C3c st i c=some (φ,u)) (J:FL φ)
 (D:∀s,(∃t y,u= .pf t y 0/\s=t.size)\/(∃k j,u= .elp k s j 0)->Ho P T e s=true) (Q:Cz st.nx c):Xq P st E w Z B ty (.indexAddr T x ix) (.one ⟨false,[u]⟩):=by
 unfold C3c at b;split at b
 . rename_i t M;cases b;obtain⟨n,l⟩:=J;have o:=D t.size (.inl ⟨t,_,rfl,rfl⟩);obtain⟨A,f,O,aj,ak,am,F⟩:=H;simp only[sJ,vO]at O;have a1:=H1 (d:=t.dflt) n l;rcases F with F| ⟨N,U,ad,X,a8,Y,a0⟩
   . subst F;simp at l;omega
   subst X;have a2:=G5.get (λ_ _ h=>C9.length h) a0 a1;refine Hf (v:= .pointer (some ⟨N,U+i.toNat*t.size+0,none⟩)) (λr _=>?_) ⟨N,U+i.toNat*t.size,_,rfl,a8,M6 Y _ t.size,a2⟩ trivial;have:=B6s (P:=P) (w:=r) (ty:=ty) (sz:=t.size) O G o n l;rwa[K5]at this
 . rename_i k;split at b
   . rename_i t M a4;cases b;obtain⟨n,l⟩:=J;have o:=D t.size (.inr ⟨_,_,rfl⟩);obtain⟨ac,an,a7⟩:=B3f h a4;rcases a7.2 with⟨_,a5⟩ | ⟨g,f,ab,z,_⟩
     . rw[a5]at l;omega
     have I:Gw.ev E x= .slice (some ⟨g,0,none⟩) M.length f:=(show Gw.ev E x=B k from H).trans z;refine Hf (v:= .pointer (some ⟨g,i.toNat*t.size+0,none⟩)) (λr _=>?_) ⟨g,M.length,f,z,ω,rfl⟩ Q;have:=B6s (P:=P) (w:=r) (ty:=ty) (sz:=t.size) I G o n l;rwa[K5,sD]at this
   cases b
 . rename_i k sz a a3;cases b;obtain⟨n,l⟩:=J;have o:=D sz (.inr ⟨_,_,rfl⟩);obtain⟨A,aa,f,z,V,W,ae,af,ag,ah,ai,R⟩:=H;have a6:¬f=a.toNat:=ω
   rw[qL a6]at R;obtain⟨g,rfl⟩:∃g,A=some ⟨g,0,none⟩:=by
    cases A with
    |none=>have:=W rfl;omega
    |some x=>obtain⟨g,rfl⟩:=V x rfl;exact⟨g,rfl⟩
   have I:Gw.ev E x= .slice (some ⟨g,a.toNat*sz,none⟩) (a3.toNat-a.toNat) (f-a.toNat):=by
    rw[R,xC,K5,sD]
   refine Hf (v:= .pointer (some ⟨g,(a+i).toNat*sz+0,none⟩)) (λr _=>?_) ⟨g,aa,f,z,ω,rfl⟩ Q;have:=B6s (P:=P) (w:=r) (ty:=ty) (sz:=sz) I G o n ω;rw[K5]at this;rw[show(a+i).toNat*sz+0=a.toNat*sz+i.toNat*sz by rw[<-uX,(ω:(a+i).toNat=a.toNat+i.toNat),tK]];exact this
 cases b
def C3l (h:C3 za w0 st E w Z B) {T ty e:TypeId} {s:Nat} {x:Operand} {c:C} {n:Int} (d:RC w Z B c (Gw.ev E x)) (a:B8p st c=some n) (F:Ho P T e s=true) (z:∀k,c≠ .mp k) (A:∀s,c≠ .val .str s):
 Xq P st E w Z B ty (.call ⟨.builtin .len, #[x], #[T]⟩) (.one ⟨false,[.val (.int .i64) n]⟩):=by
 have mk:∀(f:Option Addr) (m b:Nat),Gw.ev E x= .slice f m b->m<=maxLen->Xq P st E w Z B ty (.call ⟨.builtin .len, #[x], #[T]⟩) (.one ⟨false,[.val (.int .i64) (m:Int)]⟩):=λf m b g hm=>
  Hf (λa0 _=>C8n g F) ⟨rfl,by
   unfold GU;have V:i64.min= -9223372036854775808:=δ
   have W:i64.max=9223372036854775807:=δ
   simp only[maxLen]at hm;omega⟩ trivial
 unfold B8p at a;split at a
 . cases a;obtain⟨f,b,j,u,y,_⟩:=d;simp only[sJ,vO]at j;exact mk f _ b j (qX u y)
 . rename_i k;split at a
   . rename_i Y X v;cases a;obtain⟨H,a1,D⟩:=B3f h v;have d:Gw.ev E x=B k:=d;rcases D.2 with⟨g,a⟩ | ⟨I,b,G,i,_,_,r,t,_⟩
     . rw[a];exact mk none 0 0 (d.trans g) (rS _)
     exact mk _ _ b (d.trans i) (qX r t)
   cases a
 . exact absurd rfl (z _)
 . cases a;exact mk none 0 0 (show _= _ from d.1) (rS _)
 . rename_i k sz o l;cases a;obtain⟨f,n,b,i,R,U,J,M,N,O,Q,g⟩:=d;have:=mk _ _ _ g ω;rwa[(ω:((l.toNat-o.toNat:Nat):Int)=l-o)]at this
 . exact absurd rfl (A _)
 cases a
end
section
variable {za:Zn} {w0 w:World} {Z:Nat->Prop} {B:Nat->Value} {st:St} {E:G8} {P:Program}
def A7o {T e ty:TypeId} {x:Operand} {lo d:Option Operand} {a:Option Addr} {len b size l h:Nat} (u:Gw.ev E x= .slice a len b) (s:Ho P T e size=true)
 (c:match lo with|none=>l=0|some o=>∃k,Gw.ev E o= .int k (l:Int)) (hhi:match d with|none=>h=len|some o=>∃k,Gw.ev E o= .int k (h:Int)) (hlh:l<=h) (hhc:h<=b) (w:World):
 Gw.E2 P E ty (.slice T x lo d none) w (.slice (if b=l then a else a.map (·.add (l*size))) (h-l) (b-l)) w:=λ_ _ _ _=>by
 obtain⟨t,v⟩:=Jz s;have j:=Gw.Fx (P:=P) (w:=w) v;have f:(l:Int)<=(h:Int):=ω
 have g:(h:Int)<=(b:Int):=ω
 have n:(Instr.sliceBounds true len b (lo.map (Gw.ev E)) (d.map (Gw.ev E)) none).run P w= .ok (l,h,b) w:=by
  unfold Instr.sliceBounds;cases d with
  |none=>
   simp only at hhi;subst hhi;cases lo with
   |none=>simp only at c;subst c;simp[go_sem]
   |some o=>obtain⟨k,i⟩:=c;simp[Instr.sliceBound,asIntOf,i,f,hlh,go_sem]
  |some z=>
   obtain⟨y,i⟩:=hhi;cases lo with
   |none=>simp only at c;subst c;simp[Instr.sliceBound,asIntOf,i,g,hhc,go_sem]
   |some o=>obtain⟨k,r⟩:=c;simp[Instr.sliceBound,asIntOf,r,i,f,g,hlh,hhc,go_sem]
 simp only[execOp,u];unfold Instr.sliceAt Instr.slice;simp only[Sem.run_bind,run_underlying t,Result.andThen_ok,Option.map_none,n,j,Sem.run_pure]
def B0y (E:G8):Option Operand->Option Int->Prop
 |none,i=>i=none
 |some o,i=>∃k j,i=some j/\Gw.ev E o= .int k j
def A7c {t:Ty} {a:Option Addr} {n c:Nat} {l:List t.den} {L H:Int} (h:C9 (.sl t) w Z [.slice a n c] l) (D:0<=L) (E:L<=H) (r:H<=(n:Int)):
 C9 (.sl t) w Z [.slice (if c=L.toNat then a else a.map (·.add (L.toNat*t.size))) (H.toNat-L.toNat) (c-L.toNat)] ((l.take H.toNat).drop L.toNat):=by
 obtain⟨A,B,i,F,I,x,d⟩:=h;simp only[sJ,vO,Value.slice.injEq]at i;obtain⟨rfl,rfl,rfl⟩:=i;have f:((l.take H.toNat).drop L.toNat).length=H.toNat-L.toNat:=by simp;omega
 refine⟨_,_,by rw[f],by rw[f];omega,ω,λb=>?_,?_⟩
 . split at b
   . omega
   have:=x (by simpa using b);omega
 by_cases G:H.toNat=L.toNat
 . left;exact qN (by rw[f];omega)
 right;rcases d with d| ⟨k,z,g,s,b,u,v⟩
 . subst d;simp at r;omega
 subst s;have o:=G5.drop (λ_ _ h=>C9.length h) L.toNat (G5.take (λ_ _ h=>C9.length h) H.toNat v);refine⟨k,z+L.toNat*t.size,(g.take (H.toNat*t.size)).drop (L.toNat*t.size),?_,b,?_,o⟩
 . rw[qL ω,xC,K5]
 have j:=M6 u 0 (H.toNat*t.size);rw[tP,tK]at j;have y:=M6 j (L.toNat*t.size) ((g.take (H.toNat*t.size)).drop (L.toNat*t.size)).length;rwa[vD]at y
def A0k (h:C3 za w0 st E w Z B) {T ty e:TypeId} {x:Operand} {lo j:Option Operand} {o n:Option Int} {c u:C} {φ:Option Prop} (d:RC w Z B c (Gw.ev E x)) (g:A4a st o n c=some (φ,u)) (ai:Cz st.nx c) (a2:FL φ)
 (G:B0y E lo o) (F:B0y E j n)
 (a0:∀s,(∃t y,u= .val (.sl t) y/\s=t.size)\/(∃k lo j,u= .win k s lo j)->Ho P T e s=true):Xq P st E w Z B ty (.slice T x lo j none) (.one ⟨false,[u]⟩):=by
 unfold A4a at g;split at g
 . rename_i t l;cases g;have O:=a0 t.size (.inl ⟨t,_,rfl,rfl⟩);obtain⟨V,W,J⟩:=a2;obtain⟨i,a,Y,an,ap,ag,M⟩:=d;simp only[sJ,vO]at Y;generalize f:o.getD 0=L at*;generalize z:n.getD (l.length:Int)=H at*;have N:((l.take H.toNat).drop L.toNat).length=H.toNat-L.toNat:=by simp;omega
   refine Hf (λR _=>A7o (l:=L.toNat) (h:=H.toNat) Y O ?_ ?_ ω ω R) ?_ trivial
   . cases lo with
     |none=>rw[show o=none from G]at f;simp at f;simp only;omega
     |some r=>obtain⟨k,ab,b,Q⟩:=G;subst b;simp at f;subst f;exact⟨k,by rw[Q];congr 1;omega⟩
   . cases j with
     |none=>rw[show n=none from F]at z;simp at z;simp only;omega
     |some r=>obtain⟨k,ab,b,Q⟩:=F;subst b;simp at z;subst z;exact⟨k,by rw[Q];congr 1;omega⟩
   refine⟨_,_,by rw[N],by rw[N];omega,ω,λI=>?_,?_⟩
   . split at I
     . omega
     have:=ag (by simpa using I);omega
   by_cases ao:H.toNat=L.toNat
   . left;exact qN (by rw[N];omega)
   right;rcases M with M| ⟨a3,r,U,a9,I,aa,ac⟩
   . subst M;simp at J;omega
   subst a9;have b:=G5.drop (λ_ _ h=>C9.length h) L.toNat (G5.take (λ_ _ h=>C9.length h) H.toNat ac);refine⟨a3,r+L.toNat*t.size,(U.take (H.toNat*t.size)).drop (L.toNat*t.size),?_,I,?_,b⟩
   . rw[qL ω,xC,K5]
   have a1:=M6 aa 0 (H.toNat*t.size);rw[tP,tK]at a1;have aj:=M6 a1 (L.toNat*t.size) ((U.take (H.toNat*t.size)).drop (L.toNat*t.size)).length;rwa[vD]at aj
 . rename_i k;split at g
   . rename_i t am l ad;cases g;have O:=a0 t.size (.inr ⟨_,_,_,rfl⟩);obtain⟨V,W,J⟩:=a2;have f:=h.locs k;rw[ad]at f;obtain⟨aq,ah,_,_⟩:=f;have a8:Gw.ev E x=B k:=d;generalize D:o.getD 0=L at*;generalize A:n.getD (l.length:Int)=H at*;obtain⟨i,a,X,a4,a7,a5,a6⟩:∃i a,B k= .slice i l.length a/\(∀x,i=some x->∃v,x=⟨v,0,none⟩)/\(i=none->a=0)/\l.length<=a/\a<=maxLen:=by
      rcases ah.2 with⟨Q,ae⟩ | ⟨v,a,ak,Q,_,_,af,ab,_⟩
      . exact⟨none,0,by rw[Q,ae],λx d=>(by cases d),λ_=>rfl,ω,rS _⟩
      exact⟨some ⟨v,0,none⟩,a,Q,λx d=>⟨v,by cases d;rfl⟩,λd=>(by cases d),af,ab⟩
     refine Hf (λR _=>A7o (l:=L.toNat) (h:=H.toNat) (a8.trans X) O ?_ ?_ ω ω R) ⟨i,l.length,a,X,a4,a7,V,W,J,a5,a6,rfl⟩ ai
     . cases lo with
       |none=>rw[show o=none from G]at D;simp at D;simp only;omega
       |some r=>obtain⟨k,ab,b,Q⟩:=G;subst b;simp at D;subst D;exact⟨k,by rw[Q];congr 1;omega⟩
     cases j with
     |none=>rw[show n=none from F]at A;simp at A;simp only;omega
     |some r=>obtain⟨k,ab,b,Q⟩:=F;subst b;simp at A;subst A;exact⟨k,by rw[Q];congr 1;omega⟩
   cases g
 cases g
def B8j (P:Program) (T:TypeId) (k:IntKind):Bool:=match P.underlying T with|some (.int k')=>decide (k=k') | _=>false
def fE {T:TypeId} {k:IntKind} (h:B8j P T k=true):P.underlying T=some (.int k):=by
 unfold B8j at h;split at h
 . rename_i b a;have:=qA h;subst this;exact a
 cases h
def B7o {T T' ty:TypeId} {x:Operand} {k k':IntKind} {a:Int} (b:RC w Z B (.val (.int k) a) (Gw.ev E x)) (c:∃d,P.underlying T=some d) (f:B8j P T' k'=true):Xq P st E w Z B ty (.convert T T' x) (.one ⟨false,[.val (.int k') (k'.wrap a)]⟩):=by
 obtain⟨b,_⟩:=b;simp only[sJ,vO]at b;obtain⟨d,g⟩:=c;have h:=fE f;refine Hf (v:= .int k' (k'.wrap a)) (λi _=>?_) ⟨rfl,Ny _ _⟩ trivial;intro _ _ _ _;simp[execOp,convert,b,run_underlying g,run_underlying h,Conv.intToInt,go_sem]
def unC (op:UnOp):C->Option C
 | .val .bool b=>match op with
  | .not=>some (.val .bool (!b))
  | _=>none
 | .val (.int k) a=>match op with
  | .neg=>some (.val (.int k) (k.wrap (-a)))
  | .xor=>some (.val (.int k) (k.wrap (BitVec.ofInt k.bits (if k.signed then -1 else k.max)^^^BitVec.ofInt k.bits a).toNat))
  | _=>none
 | _=>none
def C8i {op:UnOp} {T ty:TypeId} {x:Operand} {c b:C} (a:RC w Z B c (Gw.ev E x)) (h:unC op c=some b):Xq P st E w Z B ty (.unOp op T x) (.one ⟨false,[b]⟩):=by
 unfold unC at h;split at h
 . split at h
   . cases h;rename_i f _;have a:Gw.ev E x= .bool f:=by simpa[RC,C9]using a
     exact Hf (λd _=>C8r a) rfl trivial
   cases h
 . obtain⟨a,_⟩:=a;simp only[sJ,vO]at a;split at h
   . cases h;exact Hf (λd _=>C8q a) ⟨rfl,Ny _ _⟩ trivial
   . cases h;refine Hf (v:= .int _ _) (λd _ _ _ _ _=>by simp[execOp,a,Op.unary,Op.intBits,go_sem]) ⟨rfl,Ny _ _⟩ trivial
   cases h
 cases h
def Zp (place:Nat->Option (Nat×Nat)):List C->List (Nat×List C)->Option (List C)
 |a,[]=>some a
 |a,(i,c)::r=>match place i with
  |none=>none
  |some (b,sz)=>bif Nat.beq c.length sz&&Nat.ble (b+sz) a.length then Zp place (a.take b++c++a.drop (b+sz)) r else none
def Ft:C->Bool
 | .dead=>false
 | _=>true
def C9.one1 {t:Ty} {v:Value} {x:t.den} (h:C9 t w Z [v] x):v.oneCell'=true:=C9.oneCell h v (by simp)
def RC.one (h:C3 za w0 st E w Z B) {c:C} {v:Value} (b:Ft c=true) (a:RC w Z B c v):v.oneCell'=true:=by
 cases c with
 |val t x=>exact C9.one1 a
 |row k=>rw[show v= _ from a];exact h.bone k
 |box k f=>obtain⟨d,_,e⟩:=a;rw[e];rfl
 |elp k sz i f=>obtain⟨d,_,_,_,_,e⟩:=a;rw[e];rfl
 |win k sz f d=>obtain⟨_,_,_,_,_,_,_,_,_,_,_,e⟩:=a;rw[e];rfl
 |pf t x f=>obtain⟨d,_,_,e,_⟩:=a;rw[e];rfl
 |mp k=>rw[show v= _ from a];exact h.bone k
 |fn f d=>rw[show v= _ from a];rfl
 |fv _ _ _ _ _ _=>obtain⟨_,_,e,_⟩:=a;rw[e];rfl
 |raw d=>rw[a.1];exact a.2
 |dead=>cases b
end
end Go.Vc
