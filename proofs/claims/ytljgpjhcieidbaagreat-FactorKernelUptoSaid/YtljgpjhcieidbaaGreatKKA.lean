/- Part. -/
import Derived.Orders
import Derived.OrdersHeld
import Derived.Below
import Derived.KernelRfl
import Derived.Deep.LoopGhost
import Derived.WalkKit
import Derived.OwnWalk
import Derived.Maps.RangeRun
import Derived.DeepKeys3
set_option linter.all false
namespace Go
def qA:=@of_decide_eq_true
def qB:=@of_decide_eq_false
def qC:=@Bool.and_eq_true
def qD:=@Nat.eq_of_beq_eq_true
def qE:=@List.getD_eq_getElem?_getD
def qF:=@Int.natCast_nonneg
def qG:=@Int.le_refl
def qH:=@if_neg
def qI:=@Option.bind_eq_bind
def qJ:=@if_pos
def qK:=@Decidable.byContradiction
def qL:=@Option.map_eq_some_iff
def qM:=@List.mem_cons_of_mem
def qN:=@List.length_set
def qO:=@List.eq_nil_of_length_eq_zero
def qP:=@List.getElem?_eq_getElem
def qQ:=@Nat.le_of_ble_eq_true
def qR:=@List.take_of_length_le
def qS:=@List.mem_cons
def qT:=@Nat.le_refl
def qU:=@List.length_take
def qV:=@Int.toNat_natCast
def qW:=@cond_true
def qX:=@List.mem_singleton
def qY:=@Nat.le_trans
def qZ:=@List.mem_append
def rA:=@List.length_singleton
def rB:=@Option.some.injEq
def rC:=@decide_eq_false
def rD:=@Nat.lt_of_lt_of_le
def rE:=@decide_eq_true
def rF:=@List.length_cons
def rG:=@Rat.add_zero
def rH:=@Bool.or_eq_false_iff
def rI:=@List.mem_cons_self
def rJ:=@cond_false
def rK:=@List.length_replicate
def rL:=@Nat.zero_le
def rM:=@Nat.mul_le_mul_right
def rN:=@Nat.lt_succ_self
def rO:=@decide_eq_false_iff_not
def rP:=@decide_eq_true_eq
def rQ:=@Bool.not_eq_true'
def rR:=@List.length_append
def rS:=@List.take_add_one
def rT:=@List.getElem?_eq_none
def rU:=@Array.getElem?_eq_some_iff
def rV:=@List.map_cons
def rW:=@Nat.mul_le_mul_left
def rX:=@Rat.zero_mul
def rY:=@List.getElem?_take_of_lt
def rZ:=@Nat.pow_le_pow_right
def sA:=@Nat.pow_succ
def sB:=@Nat.zero_add
def sC:=@List.mem_of_mem_take
def sD:=@Nat.lt_or_ge
def sE:=@Rat.mul_zero
def sF:=@Rat.zero_add
def sG:=@List.drop_of_length_le
def sH:=@List.getElem?_set_self
def sI:=@List.nodup_cons
def sJ:=@Int.fdiv_eq_ediv_of_nonneg
def sK:=@Int.mul_le_mul_of_nonneg_right
def sL:=@Nat.mul_comm
def sM:=@List.cons.injEq
def sN:=@List.mem_append_left
def sO:=@Array.length_toList
def sP:=@List.getElem?_eq_some_iff
def sQ:=@List.length_drop
def sR:=@Nat.mul_assoc
def sS:=@List.length_map
def sU:=@Nat.add_zero
def sV:=@List.getElem?_set_ne
def sW:=@List.mem_map
def sX:=@List.mem_of_getElem?
def sY:=@List.pairwise_append
def sZ:=@Nat.pos_of_ne_zero
def tA:=@congrArg
def tC:=@Nat.mul_add
def tD:=@Nat.min_eq_left
def tF:=@List.getElem?_append_right
def tG:=@Array.getElem?_setIfInBounds
def tH:=@Rat.sub_eq_add_neg
def tI:=@List.all_cons
def tJ:=@List.mem_append_right
def tK:=@Rat.one_mul
def tL:=@Int.mul_nonneg
def tN:=@List.nodup_append
def tO:=@List.length_pos_iff
def tP:=@Nat.pow_pos
def tR:=@Nat.lt_irrefl
def tS:=@Nat.div_lt_iff_lt_mul
def tT:=@Rat.mul_one
def tU:=@List.all_eq_true
def tV:=@Nat.mod_eq_of_lt
def tW:=@Nat.not_lt_zero
def tX:=@Array.toArray_toList
def tY:=@Int.mul_le_mul_of_nonneg_left
def tZ:=@List.drop_zero
def uA:=@Int.ofNat_lt
def uB:=@List.getElem?_replicate
def uC:=@Nat.ne_of_lt
def uD:=@List.pairwise_iff_getElem
def uE:=@Rat.div_def
def uF:=@Int.toNat_of_nonneg
def uG:=@Nat.add_assoc
def uH:=@Rat.mul_assoc
def uI:=@Nat.div_eq_of_lt
def uJ:=@List.append_assoc
def uK:=@Nat.lt_succ_of_lt
def uL:=@Int.natAbs_natCast
def uM:=@Int.tmod_eq_emod_of_nonneg
def uN:=@List.take_append_drop
def uO:=@Nat.succ_mul
def uP:=@Int.eq_ofNat_of_zero_le
def uQ:=@List.getElem?_cons_succ
def uR:=@Int.natCast_mul
def uS:=@List.take_length
def uT:=@Decidable.not_not
def uU:=@Int.sign_eq_one_of_pos
def uV:=@List.getElem?_map
def uW:=@Nat.le_succ
def uX:=@Nat.pow_add
def uY:=@Int.dvd_mul_of_dvd_right
def uZ:=@Nat.add_mul
def vA:=@Bool.or_eq_true
def vB:=@Nat.mul_le_mul
def vC:=@Array.getElem?_eq_getElem
def vD:=@List.getElem?_append_left
def vE:=@Nat.eq_zero_or_pos
def vF:=@Nat.ne_of_beq_eq_false
def vG:=@Int.natAbs_mul
def vH:=@List.map_append
def vJ:=@Option.getD_some
def vK:=@beq_eq_false_iff_ne
def vL:=@Nat.le_div_iff_mul_le
def vM:=@List.mem_of_mem_drop
def vN:=@List.getElem_mem
def vO:=@List.not_mem_nil
def vP:=@Nat.div_div_eq_div_mul
def vQ:=@Nat.le_of_lt
def vR:=@and_true
def vS:=@List.mem_map_of_mem
def vT:=@Bool.and_eq_false_iff
def vV:=@List.drop_drop
def vW:=@Int.natCast_add
def vX:=@List.append_nil
def vY:=@Nat.add_comm
def vZ:=@Bool.false_eq_true
def wA:=@List.mem_iff_getElem
def wB:=@Option.bind_some
def wC:=@decide_eq_decide
def wD:=@List.pairwise_map
def wE:=@Nat.mod_lt
def wF:=@if_true
def wG:=@List.getElem?_range
def wH:=@List.nil_append
def wI:=@Option.map_some
def wJ:=@List.drop_eq_getElem_cons
def wK:=@Option.isNone_iff_eq_none
def wL:=@Array.getElem?_toList
def wM:=@List.getElem?_drop
def wN:=@List.getElem?_take
def wO:=@Rat.mul_inv_cancel
def wP:=@Bool.false_or
def wQ:=@Bool.true_and
def wR:=@Nat.mul_zero
def wS:=@Rat.neg_zero
def wT:=@List.Perm.refl
def wU:=@List.mapM_cons
def wV:=@List.pairwise_singleton
def wW:=@Nat.div_add_mod
def wX:=@Nat.div_le_self
def wY:=@Int.le_of_lt
def wZ:=@Nat.gcd_comm
def xA:=@Nat.mul_lt_mul_of_pos_right
def xB:=@Rat.mul_comm
def xC:=@Nat.mul_one
def xD:=@Int.sign_eq_neg_one_of_neg
def xE:=@Nat.lt_of_mul_lt_mul_right
def xF:=@Rat.inv_mul_cancel
def xG:=@Rat.num_divInt_den
def xH:=@Int.natAbs_ediv_le_natAbs
def xI:=@Int.sign_eq_zero_iff_zero
def xJ:=@Int.natCast_pow
def xK:=@Rat.mul_eq_zero
def xL:=@List.ext_getElem?
def xM:=@Nat.le_succ_of_le
def xN:=@Nat.one_mul
def xO:=@Nat.sub_self
def xP:=@Nat.zero_mul
def xQ:=@Int.mul_ediv_cancel_left
def xR:=@Nat.lt_succ_iff_lt_or_eq
def xS:=@Iff.rfl
def xT:=@Int.natAbs_neg
def xU:=@List.any_eq_true
def xV:=@List.cons_append
def xW:=@List.getElem_inj
def xX:=@List.mem_range
def xY:=@Nat.mul_div_cancel_left
def xZ:=@BitVec.toNat_ofInt
def yA:=@Int.ofNat_dvd_left
def yB:=@Nat.beq_refl
def yC:=@Nat.lt_of_le_of_lt
def yD:=@List.length_nil
def yE:=@Option.some.inj
def yF:=@List.any_cons
def yG:=@Int.mul_ediv_add_emod
def yH:=@List.getElem?_toArray
def yI:=@Nat.add_mul_div_right
def yJ:=@Array.getD_eq_getD_getElem?
def yK:=@List.flatMap_cons
def yL:=@List.getElem?_set
def yM:=@List.idxOf_lt_length_of_mem
def yN:=@Nat.gcd_dvd_right
def yO:=@Bool.false_and
def yP:=@Int.tdiv_eq_ediv_of_nonneg
def yQ:=@Rat.mkRat_zero
def yR:=@if_false
def yS:=@Rat.mkRat_eq_div
def yT:=@Array.mapM_eq_mapM_toList
def yU:=@Int.mul_neg_of_pos_of_neg
def yV:=@Nat.add_mul_mod_self_left
def yW:=@List.drop_set_of_lt
def yX:=@List.take_set_of_le
def yY:=@Nat.div_mul_le_self
def yZ:=@Array.getElem?_replicate
def zA:=@Array.setIfInBounds_comm
def zB:=@Bool.not_true
def zC:=@Int.ediv_nonpos_of_nonneg_of_nonpos
def zD:=@List.length_erase_of_mem
def zE:=@Int.tmod_nonneg
def zF:=@List.drop_left'
def zG:=@List.mem_filter
def zH:=@Nat.mul_ne_zero
def zI:=@Rat.num_eq_zero
def zJ:=@Int.emod_lt_of_pos
def zK:=@Int.mul_nonneg_of_nonpos_of_nonpos
def zL:=@List.Pairwise.take
def zM:=@List.mem_replicate
def zN:=@List.pairwise_cons
def zO:=@Nat.mul_right_comm
def zP:=@Option.toList_some
def zQ:=@Int.gcd_dvd_right
def zR:=@Int.natAbs_add_le
def zS:=@List.any_eq_false
def zT:=@List.length_pos_of_mem
def zU:=@List.nodup_nil
def zV:=@List.size_toArray
def zW:=@Nat.mul_left_comm
def zX:=@List.set_append_right
def zY:=@Nat.mul_div_mul_right
def zZ:=@Int.gcd_dvd_left
def g0a:=@List.take_append
def g0b:=@Rat.divInt_ofNat
def g0c:=@Rat.add_assoc
def g0d:=@List.mem_erase_of_ne
def g0e:=@Nat.add_le_add_right
def g0f:=@Nat.shiftLeft_add_eq_or_of_lt
def g0g:=@Rat.neg_mul
def g0h:=@Int.ediv_nonneg
def g0i:=@List.take_left'
def g0j:=@Rat.intCast_mul
def g0k:=@Array.toList_filter
def g0l:=@Array.toList_modify
def g0m:=@List.filter_eq_self
def g0n:=@List.getElem_of_mem
def g0o:=@List.toList_toArray
def g0p:=@Rat.mkRat_mul_mkRat
def g0q:=@Bool.true_or
def g0r:=@Nat.pow_zero
def g0s:=@getElem!_pos
def g0t:=@Bool.not_eq_false'
def g0u:=@Bool.not_false
def g0v:=@Int.natAbs_sign_of_ne_zero
def g0w:=@List.drop_take
def g0x:=@List.getElem_idxOf
def g0y:=@List.take_take
def g0z:=@List.take_zero
def g1a:=@Nat.gcd_zero_right
def g1b:=@Rat.mkRat_self
def g1c:=@beq_iff_eq
def g1d:=@or_false
def g1e:=@Array.toList_push
def g1f:=@Int.lt_trichotomy
def g1g:=@List.getElem_take
def g1h:=@List.length_range
def g1i:=@Nat.pow_mul
def g1j:=@Int.ofNat.inj
def g1k:=@Nat.gcd_pos_of_pos_right
def g1l:=@Option.isSome_iff_exists
def g1m:=@Array.toList_inj
def g1n:=@Array.toList_map
def g1o:=@Classical.axiomOfChoice
def g1p:=@List.filter_cons
def g1q:=@List.zipIdx_cons
def g1r:=@Nat.add_sub_cancel_left
def g1s:=@Nat.gcd_pos_of_pos_left
def g1t:=@Nat.le_mul_of_pos_right
def g1u:=@Nat.le_of_not_lt
def g1v:=@Nat.lt_of_not_le
def g1w:=@Option.bind_eq_some_iff
def g1x:=@Option.bind_none
def g1y:=@Option.getD_none
def g1z:=@Array.getElem?_eq_none
def g2a:=@Bool.or_true
def g2b:=@Int.ediv_lt_iff_lt_mul
def g2c:=@Int.le_ediv_iff_mul_le
def g2d:=@Int.mul_comm
def g2e:=@List.length_eq_one_iff
def g2f:=@Nat.sub_zero
def g2g:=@Rat.add_comm
def g2h:=@decide_false
def g2i:=@Int.emod_nonneg
def g2j:=@Nat.le_add_left
def g2k:=@Nat.min_le_left
def g2l:=@Nat.mul_add_div
def g2m:=@Nat.mul_add_mod
def g2n:=@Rat.den_intCast
def g2o:=@Rat.num_intCast
def g2p:=@and_congr_right
def g2q:=@Array.getElem?_modify
def g2r:=@List.Perm.append_left
def g2s:=@Rat.divInt_mul_divInt
def g2t:=@Array.toList_extract
def g2u:=@Decidable.of_not_not
def g2v:=@Int.dvd_add
def g2w:=@Int.ediv_emod_unique
def g2x:=@List.drop_left
def g2y:=@List.range_eq_range'
def g2z:=@List.take_left
def g3a:=@Nat.add_le_add
def g3b:=@Nat.add_mul_div_left
def g3c:=@Nat.div_one
def g3d:=@Nat.gcd_rec
def g3e:=@Nat.mul_pos
def g3f:=@Nat.pow_lt_pow_right
def g3g:=@Rat.add_mul
def g3h:=@Rat.den_pos
def g3i:=@Rat.neg_den
def g3j:=@Rat.neg_num
def g3k:=@decide_true
def g3l:=@or_congr
def g3m:=@Int.natCast_eq_zero
def g3n:=@Int.neg_ediv_of_dvd
def g3o:=@List.map_congr_left
def g3p:=@Bool.and_true
def g3q:=@Int.toNat_mul
def g3r:=@List.sum_cons
def g3s:=@Nat.le_of_dvd
def g3t:=@Array.foldl_toList
def g3u:=@Int.lt_or_eq_of_le
def g3v:=@Int.lt_or_gt_of_ne
def g3w:=@List.set_cons_succ
def g3x:=@Nat.lt_of_le_of_ne
def g3y:=@Nat.lt_or_gt_of_ne
def g3z:=@Nat.mul_div_cancel
def g4a:=@Rat.add_neg_cancel
def g4b:=@Decidable.em
def g4c:=@Int.le_total
def g4d:=@Int.lt_or_le
def g4e:=@Int.sign_mul
def g4f:=@List.set_set
def g4g:=@Nat.mul_succ
def g4h:=@Nat.zero_div
def g4i:=@ne_eq
def g4j:=@Int.natCast_ediv
def g4k:=@List.drop_append
def g4l:=@List.ext_getElem
def g4m:=@List.getElem_set
def g4n:=@List.isEmpty_iff
def g4o:=@List.range'_succ
def g4p:=@Nat.gcd_dvd_left
def g4q:=@Nat.le_max_right
def g4r:=@Nat.shiftLeft_eq
def g4s:=@Nat.le_zero
def g4t:=@Nat.mod_one
def g4u:=@Rat.neg_neg
def g4v:=@and_congr
def g4w:=@not_congr
def g4x:=@not_or
end Go
namespace Go.Gw
open Go Go.RowKit
open Go.IntKind (i64)
abbrev H6:=Nat->Value
def upd (E:H6) (d:Nat) (v:Value):H6:=fun t=>bif Nat.beq t d then v else E t
def iU (E:H6):Option Tmp->Value->H6
 |some d,v=>upd E d v
 |none,_=>E
def ev (E:H6):Operand->Value
 | .tmp t=>E t
 | .const v=>v
 | .global g=> .pointer (some ⟨g,0,none⟩)
 | .func f=> .func (.func f) #[] #[]
def E6 {t d:Nat} (h:t≠d):Nat.beq t d=false:=by
 cases a:Nat.beq t d with
 |false=>rfl
 |true=>exact absurd (qD a) h
def C2 (E:H6) (d:Nat) (v:Value):upd E d v d=v:=by simp[upd]
def C5 (E:H6) (d t:Nat) (v:Value) (h:t≠d):upd E d v t=E t:=by
 have:Nat.beq t d=false:=E6 h;simp[upd,this]
structure C7 (n:Nat) (a:Act) (E:H6):Prop where
 size:a.tmps.size=n
 get:∀t,a.tmps.getD t undef=E t
 defers:a.defers= []
def C7.ev {n:Nat} {a:Act} {E:H6} (h:C7 n a E):a.eval=Gw.ev E:=by
 funext x;cases x with
 |tmp t=>exact h.get t
 | _=>rfl
def lA (n:Nat) (l:List Oper):Bool:=l.all fun o=>match o.dst with|some d=>decide (d<n) |none=>true
def C7.put {n:Nat} {a:Act} {E:H6} (h:C7 n a E) (o:Option Tmp) (v:Value) (g:∀d,o=some d->d<n):C7 n (a.put o v) (iU E o v):=by
 cases o with
 |none=>exact h
 |some d=>
  have c:=g d rfl;refine⟨by simp[Act.put,h.size],fun t=> ?_,h.defers⟩;have i:=h.size;have f:=h.get t;by_cases b:t=d
  . subst b;simp[Act.put,iU,C2,tG,i,c]
  . simp only[iU,C5 _ _ _ _ b];rw[<-f];simp[Act.put,tG,Ne.symm b]
def Z7 (all:List Oper) (E:H6) (j:Nat):Option Bool:=
 match(all[j]?).bind (·.dst)with
 |some t=>match E t with| .bool b=>some b| _=>none
 |none=>none
def D9 (all:List Oper) (o:Oper) (E:H6):Bool:=
 match o.guard with
 |none=>true
 |some (j,a)=>Z7 all E j==some a
def C7.yielded {n:Nat} {a:Act} {E:H6} (h:C7 n a E) (all:List Oper) (j:Nat):yielded all.toArray a.tmps j=Z7 all E j:=by
 unfold Go.yielded Z7;rw[yH];cases d:(all[j]?).bind (·.dst)with
 |none=>simp
 |some t=>
  simp only[wB];have b:=h.get t;cases c:a.tmps[t]? with
  |none=>
   have:a.tmps.getD t undef=undef:=by simp[c]
   rw[this]at b;simp[<-b,undef]
  |some v=>
   have:a.tmps.getD t undef=v:=by simp[c]
   rw[this]at b;rw[<-b];cases v<;>rfl
def C7.wanted {n:Nat} {a:Act} {E:H6} (h:C7 n a E) (all:List Oper) (o:Oper):Region.wanted o (Go.yielded all.toArray a.tmps)=D9 all o E:=by
 unfold Region.wanted D9;cases o.guard with
 |none=>rfl
 |some g=>simp only[h.yielded]
def M9 (P:Program) (all:List Oper) (o:Oper) (next:H6->World->Prop) (E:H6) (w:World):Prop:=
 if D9 all o E=true then
  match(execOp (ev E) o).run P w with
  | .ok (.value v) a=>next (iU E o.dst v) a
  | .ok .skip a=>next (iU E o.dst undef) a
  | .ok (.enter f a) b=>Calls P f a b fun e c=>∃v,e= .returned v/\next (iU E o.dst v) c
  | _=>False
 else next (iU E o.dst undef) w
def B5w (P:Program) (all:List Oper) (next:H6->World->Prop):List Oper->H6->World->Prop
 | []=>next
 |o::r=>M9 P all o (B5w P all next r)
def FR (n:Nat) (Q:Exit->H6->World->Prop):Exit->Act->World->Prop:=fun e a w=>∃E,C7 n a E/\Q e E w
def N7 {P:Program} {all:List Oper} {o:Oper} {next b:H6->World->Prop} (h:∀E w,next E w->b E w) {E:H6} {w:World} (hs:M9 P all o next E w):M9 P all o b E w:=by
 unfold M9 at*;split
 . rename_i a;simp only[a,wF]at hs;generalize (execOp (ev E) o).run P w=r at*;cases r with
   |ok m c=>
    cases m<;>simp only at hs⊢
    case value v=>exact h _ _ hs
    case skip=>exact h _ _ hs
    case enter f args=>exact hs.mono fun e d ⟨v,he,hn⟩=>⟨v,he,h _ _ hn⟩
   |halt x c=>exact hs
 . rename_i a;simp only[a]at hs;exact h _ _ hs
def GQ {P:Program} {n:Nat} {all:List Oper} (c:lA n all=true) {i:Nat} {o:Oper} (j:all[i]? =some o) {Q:Exit->Act->World->Prop} {K:Act->World->Prop} {next:H6->World->Prop}
 (hK:∀a E w,C7 n a E->next E w->K a w) {a:Act} {E:H6} {w:World} (hr:C7 n a E) (h:M9 P all o next E w):wpOp P all.toArray Q i K a w:=by
 have b:∀d,o.dst=some d->d<n:=fun d b=>by
  have:=tU.1 c o (sX j);simpa[b]using this
 unfold wpOp;simp only[yH,j];rw[hr.wanted];unfold M9 at h;split
 . rename_i g;simp only[g,wF]at h;refine .inl ?_;unfold Oper.wp;rw[hr.ev];generalize (execOp (ev E) o).run P w=r at*;cases r with
   |ok m k=>
    cases m<;>simp only at h
    case value v=>exact hK _ _ _ (hr.put _ _ b) h
    case skip=>exact hK _ _ _ (hr.put _ _ b) h
    case enter f args=>
     refine h.mono fun e l ⟨v,he,c⟩=> ?_
     subst he;exact hK _ _ _ (hr.put _ _ b) c
   |halt x k=>exact h.elim
 . rename_i g;simp only[g]at h;exact hK _ _ _ (hr.put _ _ b) h
def WR {P:Program} {n:Nat} {all:List Oper} (d:lA n all=true) {Q:Exit->H6->World->Prop} :
 ∀(b:List Oper) (k:Nat),(∀j,b[j]? =all[k+j]?)->∀(a:Act) (E:H6) (w:World),C7 n a E->B5w P all (Q .normal) b E w->
  wpOps P all.toArray (FR n Q) (List.range' k b.length) a w
 | [],_,_,a,E,w,c,h=>⟨E,c,h⟩
 |o::b,k,c,a,E,w,l,h=>by
  have g:all[k]? =some o:=by simpa using(c 0).symm
  rw[rF,g4o,wpOps_cons];refine GQ d g (fun f E' s r i=> ?_) l h;exact WR d b (k+1) (fun j=>by have:=c (j+1);simpa[uG,vY 1 j]using this) f E' s r i
inductive eM where
 |done
 |q (i:Nat) (p:eM)
 |p (i:Nat) (p:eM)
 |e (i:Nat) (p:eM)
 |br (i:Nat) (p:eM) (j:Nat) (p':eM)
def G8 (tails:List Nat) (listed:Array Bool):Bool:=tails.any fun i=>listed.getD i false
inductive Reach (ops:Array Oper) (j:Nat):Nat->Prop
 |one {oj:Oper} {e:Edge} :ops[j]? =some oj->e∈oj.after->Region.binds .any e=true->Reach ops j e.on
 |more {i:Nat} {oi:Oper} {e:Edge} :Reach ops j i->ops[i]? =some oi->e∈oi.after->Region.binds .any e=true->Reach ops j e.on
def A2o (all:List Oper) (i:Nat):List Nat:=match all[i]? with
 |some o=>(o.after.toList.filter fun e=>Region.binds .any e).map (·.on)
 |none=> []
def A1n (all:List Oper):List Nat->List Nat->List Nat
 | [],s=>s
 |i::r,s=>A1n all r (bif s.contains i then s++(A2o all i).filter (fun x=> !(s.contains x))else s)
def BN (all:List Oper) (a tails:List Nat):Bool:=
 tails.all fun j=>(fun s=>a.all fun i=>s.contains i) (A1n all (List.range j).reverse (A2o all j))
def jN {all:List Oper} {i x:Nat} (h:x∈A2o all i):∃a e,all.toArray[i]? =some a/\e∈a.after/\Region.binds .any e=true/\e.on=x:=by
 unfold A2o at h;split at h
 . rename_i o f;obtain⟨e,d,rfl⟩:=sW.1 h;obtain⟨b,c⟩:=zG.1 d;exact⟨o,e,by rw[yH];exact f,by simpa using b,c,rfl⟩
 . cases h
def dG {all:List Oper} {j:Nat} :∀ {r s:List Nat},(∀x∈s,Reach all.toArray j x)->∀x∈A1n all r s,Reach all.toArray j x
 | [],_,h,x,a=>h x a
 |i::r,s,h,x,g=>by
  refine dG (r:=r) (fun y a=> ?_) x g;cases b:s.contains i with
  |false=>rw[b]at a;exact h y a
  |true=>
   rw[b]at a;simp only[qW,qZ]at a;rcases a with a|a
   . exact h y a
   . obtain⟨k,e,c,d,f,rfl⟩:=jN (zG.1 a).1;exact .more (h i (by simpa using b)) c d f
def Yu {all:List Oper} {a tails:List Nat} (i:BN all a tails=true):∀(j:Nat) (b:Oper),all.toArray[j]? =some b->j∈tails->∀h∈a,Reach all.toArray j h:=by
 intro j b r g h f;have c:=tU.1 i j g;have d:=tU.1 c h f;refine dG (fun x k=> ?_) h (by simpa using d);obtain⟨s,e,l,n,o,rfl⟩:=jN k;exact .one l n o
def GL (P:Program) (S:World->Prop) (all:List Oper) (o:Oper) (next:H6->World->Prop) (E:H6) (w:World):Prop:=
 (D9 all o E=true/\∃v,(∀a,S a->(execOp (ev E) o).run P a= .ok (.value v) a)/\next (iU E o.dst v) w)\/
 (D9 all o E=false/\next (iU E o.dst undef) w)
def bP (P:Program) (S:World->Prop) (all:List Oper) (tails:List Nat) (next:H6->World->Prop):eM->Bool->H6->World->Prop
 | .done,_=>next
 | .q i p,t=>fun E w=>∃o,all[i]? =some o/\GL P S all o (bP P S all tails next p t) E w
 | .p i p,t=>fun E w=>∃o,all[i]? =some o/\GL P (fun _=>True) all o (bP P S all tails next p t) E w
 | .e i p,t=>fun E w=>∃o,all[i]? =some o/\M9 P all o (fun E' a=>((t||tails.contains i)=true\/S a)/\bP P S all tails next p (t||tails.contains i) E' a) E w
 | .br i p j b,t=>fun E w=>(∃o,all[i]? =some o/\M9 P all o (fun E' a=>((t||tails.contains i)=true\/S a)/\bP P S all tails next p (t||tails.contains i) E' a) E w)/\
  (∃o,all[j]? =some o/\M9 P all o (fun E' a=>((t||tails.contains j)=true\/S a)/\bP P S all tails next b (t||tails.contains j) E' a) E w)
section held
variable {P:Program} {ops:Array Oper} {Q:Exit->Act->World->Prop} {S:World->Prop} {heads tails:List Nat}
def X0 (P:Program) (ops:Array Oper) (Q:Exit->Act->World->Prop) (S:World->Prop) (tails:List Nat):Nat->Array Bool->Act->World->Prop
 |0,listed,a,w=>Region.ready .any ops listed= []/\Q .normal a w
 |fuel+1,listed,a,w=>
  (Region.ready .any ops listed= []->Q .normal a w)/\∀i∈Region.ready .any ops listed,wpOp P ops Q i (fun c b=>(G8 tails (listed.setIfInBounds i true)=true\/S b)/\X0 P ops Q S tails fuel (listed.setIfInBounds i true) c b) a w
def ZK:∀(fuel:Nat) (listed:Array Bool) (a:Act) (w:World),X0 P ops Q S tails fuel listed a w->wpAny P .any ops Q fuel listed a w
 |0,_,_,_,h=>h
 |fuel+1,_,_,_,h=>⟨h.1,fun i d=>wpOp_mono (fun b f c=>ZK fuel _ b f c.2) (h.2 i d)⟩
def oZ (ops:Array Oper) (listed:Array Bool):Prop:=∀(i:Nat) (a:Oper),ops[i]? =some a->listed.getD i false=true->∀e∈a.after,Region.binds .any e=true->listed.getD e.on false=true
def ZN (ops:Array Oper) (heads tails:List Nat) (listed:Array Bool):Prop:=oZ ops listed/\(G8 tails listed=true->∀h∈heads,listed.getD h false=true)
def kM (ops:Array Oper) (n:Nat):oZ ops (Array.replicate n false):=fun i b _ a=>by
 simp only[yJ,yZ]at a;split at a<;>cases a
def Reach.listed {ops:Array Oper} {listed:Array Bool} {j h:Nat} (d:oZ ops listed) (g:j∈Region.ready .any ops listed) (k:Reach ops j h):listed.getD h false=true:=by
 induction k with
 |one i f c=>
  obtain⟨_,l,a,b⟩:=mem_ready.1 g;rw[i]at a;cases a;exact b _ f c
 |more _ c b a f=>exact d _ _ c f _ b a
def DT {listed:Array Bool} {i:Nat} (h:listed.getD i true=false):listed.getD i false=false:=by
 rcases sD i listed.size with a|a
 . simp[a]at h⊢;exact h
 . simp[g1z a]
def I6 {listed:Array Bool} {i:Nat} (c:i∉tails):G8 tails (listed.setIfInBounds i true)=G8 tails listed:=by
 unfold G8;rw[Bool.eq_iff_iff,xU,xU];constructor
 . rintro⟨x,a,h⟩;have b:i≠x:=fun e=>c (by rw[e];exact a)
   exact⟨x,a,by rw[getD_set_ne false b]at h;exact h⟩
 . rintro⟨x,a,h⟩;have b:i≠x:=fun e=>c (by rw[e];exact a)
   exact⟨x,a,by rw[getD_set_ne false b];exact h⟩
def Cq {listed:Array Bool} {i:Nat} (h:G8 tails listed=true):G8 tails (listed.setIfInBounds i true)=true:=by
 unfold G8 at*;rw[xU]at*;obtain⟨x,a,h⟩:=h;exact⟨x,a,getD_set_true h⟩
def ZN.set (u:∀(j:Nat) (c:Oper),ops[j]? =some c->j∈tails->∀h∈heads,Reach ops j h) {listed:Array Bool} {j:Nat} (a:ZN ops heads tails listed) (k:j∈Region.ready .any ops listed):ZN ops heads tails (listed.setIfInBounds j true):=by
 obtain⟨_,c,o,t⟩:=mem_ready.1 k;refine⟨fun s v b n e f d=> ?_,fun r h g=> ?_⟩
 . by_cases i:s=j
   . subst i;rw[o]at b;cases b;exact getD_set_true (t e f d)
   . rw[getD_set_ne false (Ne.symm i)]at n;exact getD_set_true (a.1 s v b n e f d)
 . by_cases l:j∈tails
   . exact getD_set_true ((u j c o l h g).listed a.1 k)
   . rw[I6 l]at r;exact getD_set_true (a.2 r h g)
def LH {i:Nat} {f:Oper} {v:Value} (z:ops[i]? =some f) (F:i∈heads) (Z:i∉tails) (J:∀(j:Nat) (o:Oper) cs b,ops[j]? =some o->o.op≠ .select cs b)
 (O:∀(j:Nat) (d:Oper),ops[j]? =some d->j∈tails->∀h∈heads,Reach ops j h)
 (W:∀c a w,Q (.panic c) (a.put f.dst v) w->Q (.panic c) a w):
 ∀(g:Nat) (listed:Array Bool) (a:Act) (w:World),ZN ops heads tails listed->
  (∀j d,ops[j]? =some d->j≠i->listed.getD j true=false->(∀e∈d.after,Region.binds .any e=true->e.on≠i)->f.apart ops d=true)->
  i∈Region.ready .any ops listed->YieldsIf P ops S f v a->S w->
  X0 P ops Q S tails g (listed.setIfInBounds i true) (a.put f.dst v) w->X0 P ops Q S tails (g+1) listed a w:=by
 intro g
 induction g with
 |zero=>
  intro listed a w _ _ n r k H;refine⟨fun h=>(by rw[h]at n;cases n),fun j hj=> ?_⟩;by_cases l:j=i
  . subst l;exact r.wpOp z k ⟨.inr k,H⟩
  . have:=ready_mono hj l;rw[H.1]at this;cases this
 |succ g a5=>
  intro listed a w y E u R D H;have B:listed.getD i false=false:=DT (mem_ready.1 u).1;refine⟨fun h=>(by rw[h]at u;cases u),fun j hj=> ?_⟩;by_cases n:j=i
  . subst n;exact R.wpOp z D ⟨.inr D,H⟩
  . obtain⟨I,d,t,X⟩:=mem_ready.1 hj;have a3:∀e∈d.after,Region.binds .any e=true->e.on≠i:=fun e he hb heq=>by
     have l:=X e he hb;rw[heq]at l;rw[B]at l;cases l
    have A:j∉tails:=fun A=>by
     have:=(O j d t A i F).listed y.1 hj;rw[B]at this;cases this
    have a4:G8 tails listed=false:=by
     cases M:G8 tails listed with
     |false=>rfl
     |true=>have:=y.2 M i F;rw[B]at this;cases this
    have l:=H.2 j (ready_mono hj n);have V:=wpOp_putIf t (E j d t n I a3) (fun cs b=>J i f cs b z) (fun cs b=>J j d cs b t) W R l;have Y:∀k r,ops[k]? =some r->k≠i->(listed.setIfInBounds j true).getD k true=false->
     (∀e∈r.after,Region.binds .any e=true->e.on≠i)->f.apart ops r=true:=fun k r a0 a1 N a2=>by
     refine E k r a0 a1 ?_ a2;by_cases G:j=k
     . subst G;exact I
     . rw[getD_set_ne true G]at N;exact N
    refine wpOp_mono (fun U T x=> ?_) V;have s:S T:=by
     rcases x.2.1 with M|s
     . rw[I6 A,I6 Z,a4]at M;cases M
     . exact s
    refine⟨.inr s,a5 (listed.setIfInBounds j true) U T (y.set O hj) Y (ready_mono u (Ne.symm n)) x.1 s ?_⟩;rw[zA _ _ n];exact x.2.2
def AH {i:Nat} {d:Oper} {v:Value} (t:ops[i]? =some d) (U:i∉tails) (B:∀(j:Nat) (o:Oper) cs b,ops[j]? =some o->o.op≠ .select cs b)
 (N:∀c a w,Q (.panic c) (a.put d.dst v) w->Q (.panic c) a w):
 ∀(h:Nat) (listed:Array Bool) (a:Act) (w:World),
  (∀j f,ops[j]? =some f->j≠i->listed.getD j true=false->(∀e∈f.after,Region.binds .any e=true->e.on≠i)->d.apart ops f=true)->
  i∈Region.ready .any ops listed->YieldsIf P ops (fun _=>True) d v a->(G8 tails listed=true\/S w)->
  X0 P ops Q S tails h (listed.setIfInBounds i true) (a.put d.dst v) w->X0 P ops Q S tails (h+1) listed a w:=by
 intro h
 induction h with
 |zero=>
  intro listed a w _ k r n H;refine⟨fun l=>(by rw[l]at k;cases k),fun j hj=> ?_⟩;by_cases g:j=i
  . subst g;exact r.wpOp t trivial ⟨n.imp Cq id,H⟩
  . have:=ready_mono hj g;rw[H.1]at this;cases this
 |succ h a0=>
  intro listed a w y r F O H;have X:listed.getD i false=false:=DT (mem_ready.1 r).1;refine⟨fun J=>(by rw[J]at r;cases r),fun j hj=> ?_⟩;by_cases g:j=i
  . subst g;exact F.wpOp t trivial ⟨O.imp Cq id,H⟩
  . obtain⟨A,f,u,R⟩:=mem_ready.1 hj;have Z:∀e∈f.after,Region.binds .any e=true->e.on≠i:=fun e he hb heq=>by
     have l:=R e he hb;rw[heq]at l;rw[X]at l;cases l
    have l:=H.2 j (ready_mono hj g);have M:=wpOp_putIf u (y j f u g A Z) (fun cs b=>B i d cs b t) (fun cs b=>B j f cs b u) N F l;have T:∀k n,ops[k]? =some n->k≠i->(listed.setIfInBounds j true).getD k true=false->
     (∀e∈n.after,Region.binds .any e=true->e.on≠i)->d.apart ops n=true:=fun k n V W E Y=>by
     refine y k n V W ?_ Y;by_cases z:j=k
     . subst z;exact A
     . rw[getD_set_ne true z]at E;exact E
    refine wpOp_mono (fun I G s=> ?_) M;have x:G8 tails (listed.setIfInBounds j true)=true\/S G:=by
     refine s.2.1.imp (fun D=> ?_) id;rw[zA _ _ (Ne.symm g),I6 U]at D;exact D
    refine⟨x,a0 (listed.setIfInBounds j true) I G T (ready_mono r (Ne.symm g)) s.1 x ?_⟩;rw[zA _ _ g];exact s.2.2
end held
def T4 {l:List Nat} {i:Nat} (h:l.contains i=false):i∉l:=by
 intro a;have:l.contains i=true:=by simpa using a
 rw[h]at this;cases this
def kG {tails:List Nat} {listed:Array Bool} {i:Nat} (b:i<listed.size):G8 tails (listed.setIfInBounds i true)=(G8 tails listed||tails.contains i):=by
 cases a:tails.contains i with
 |false=>rw[I6 (T4 a)];simp
 |true=>
  rw[g2a];unfold G8;rw[xU];exact⟨i,by simpa using a,by simp[tG,b]⟩
def B2n {ops:Array Oper} {listed:Array Bool} {i:Nat} (h:i∈Region.ready .any ops listed):i<listed.size:=by
 have:=(mem_ready.1 h).1;rcases sD i listed.size with a|a
 . exact a
 . simp[g1z a]at this
def Bg (n:Nat):Code->Bool
 | .region _ ops _=>lA n ops.toList
 | .seq a b=>Bg n a&&Bg n b
 | .cond _ a b=>Bg n a&&Bg n b
 | .block _ b=>Bg n b
 | .loop b=>Bg n b
 | .scope b=>Bg n b
 | .rangeFunc .. =>false
 | _=>true
def Wp (P:Program) (n:Nat) (c:Code) (Q:Exit->H6->World->Prop) (E:H6) (w:World):Prop:=
 Bg n c=true->∀a,C7 n a E->c.wp P (FR n Q) a w
inductive Fr where
 |code (c:Code)
 |blk (id:Nat)
 |ops (all rest:List Oper)
 |dops (S:World->Prop) (all:List Oper) (tails:List Nat) (p:eM) (t:Bool)
 |chk (S:World->Prop)
 |upto (I:H6->World->Prop)
def Den (P:Program) (n:Nat) (R:H6->World->Prop):List Fr->Exit->H6->World->Prop
 | [], .normal=>R
 | [], .ret=>R
 | [],_=>fun _ _=>False
 | .code c::k, .normal=>Wp P n c (Den P n R k)
 | .blk _::k, .normal=>Den P n R k .normal
 | .ops a b::k, .normal=>B5w P a (Den P n R k .normal) b
 | .dops S a b p t::k, .normal=>bP P S a b (Den P n R k .normal) p t
 | .chk S::k, .normal=>fun E w=>S w/\Den P n R k .normal E w
 | .upto I:: _, .normal=>I
 | .blk id::k, .exit j=>if j=id then Den P n R k .normal else Den P n R k (.exit j)
 | _::k,e=>Den P n R k e
structure Go (P:Program) (n:Nat) (R:H6->World->Prop) (k:List Fr) (E:H6) (w:World):Prop where
 out:Den P n R k .normal E w
section rules
variable {P:Program} {n:Nat} {R:H6->World->Prop} {k:List Fr} {E:H6} {w:World}
def Sx:∀k:List Fr,R E w->Den P n R k .ret E w
 | [],h=>h
 | .code _::k,h=>Sx k h
 | .blk _::k,h=>Sx k h
 | .ops _ _::k,h=>Sx k h
 | .dops _ _ _ _ _::k,h=>Sx k h
 | .chk _::k,h=>Sx k h
 | .upto _::k,h=>Sx k h
def go_ret (h:R E w):Go P n R (.code .ret::k) E w:=⟨fun _ b a=>wp_ret ⟨E,a,Sx k h⟩⟩
def jE (a:List Nat) (E E0:H6):Prop:=∀t,a.contains t=false->E t=E0 t
def jE.refl (a:List Nat) (E:H6):jE a E E:=fun _ _=>rfl
def jE.upd {b:List Nat} {E E0:H6} {d:Nat} {v:Value} (c:b.contains d=true) (h:jE b E E0):jE b (upd E d v) E0:=fun t a=>by
 rw[C5]
 . exact h t a
 . intro e;subst e;rw[c]at a;cases a
end rules
def OO (args:List Value):H6:=fun t=>(args[t]?).getD undef
def OI {P:Program} {f:FuncId} {fn:Func} {c:Code} {args:List Value} {w:World} {Φ:Value->World->Prop} (j:P.funcs[f]? =some fn) (i:fn.body=some c)
 (r:args.length<=fn.ntmps) (k:Bg fn.ntmps c=true) (R:H6->World->Prop)
 (g:∀E w (tmps:Array Value),(∀t,tmps.getD t undef=E t)->R E w->∃v,(results fn tmps).run P w= .ok v w/\Φ v w)
 (h:Go P fn.ntmps R [.code c] (OO args) w):
 Calls P f args.toArray w fun e w'=>∃v,e= .returned v/\Φ v w':=by
 refine calls_of_wp j i ?_;have l:C7 fn.ntmps {tmps:=args.toArray++Array.replicate (fn.ntmps-args.toArray.size) undef,defers:= []} (OO args):=by
  refine⟨by simp;omega,fun t=> ?_,rfl⟩;unfold OO;simp only[yJ,Array.getElem?_append,zV,yH,yZ];split
  . rfl
  . rename_i n;rw[rT (by omega)];split<;>rfl
 refine wp_mono (h.out k _ l) ?_;rintro e d w' ⟨E',b,a⟩;cases e with
 |normal=>obtain⟨v,n,o⟩:=g E' w' d.tmps b.get a;exact⟨b.defers,v,n,v,rfl,o⟩
 |ret=>obtain⟨v,n,o⟩:=g E' w' d.tmps b.get a;exact⟨b.defers,v,n,v,rfl,o⟩
 |exit n=>exact a.elim
 |goto n=>exact a.elim
 |panic c=>exact a.elim
 |outgrown=>exact a.elim
def E7 (P:Program) (E:H6) (ty:TypeId) (op:Op) (w:World) (v:Value) (w':World):Prop:=
 ∀(d:Option Tmp) (b:String) (a:Array Edge) (g:Option (Nat×Bool)),(execOp (ev E) ⟨d,op,ty,b,a,g⟩).run P w= .ok (.value v) w'
def HT (P:Program) (E:H6) (ty:TypeId) (op:Op) (w w':World):Prop:=
 ∀(d:Option Tmp) (b:String) (a:Array Edge) (g:Option (Nat×Bool)),(execOp (ev E) ⟨d,op,ty,b,a,g⟩).run P w= .ok .skip w'
def A8c (P:Program) (E:H6) (ty:TypeId) (op:Op) (w:World) (f:FuncId) (args:List Value):Prop:=
 ∀(d:Option Tmp) (b:String) (a:Array Edge) (g:Option (Nat×Bool)),(execOp (ev E) ⟨d,op,ty,b,a,g⟩).run P w= .ok (.enter f args.toArray) w
def pA (P:Program) (f:FuncId) (args:List Value) (w:World) (Φ:Value->World->Prop):Prop:=
 Calls P f args.toArray w fun e a=>∃v,e= .returned v/\Φ v a
def pA.mono {P:Program} {f:FuncId} {args:List Value} {w:World} {Φ Φ':Value->World->Prop} (h:pA P f args w Φ) (a:∀v w',Φ v w'->Φ' v w'):pA P f args w Φ':=
 Calls.mono h fun _ _ ⟨v,he,hv⟩=>⟨v,he,a _ _ hv⟩
def JL {all:List Oper} {d:Option Tmp} {op:Op} {ty:TypeId} {pos:String} {aft:Array Edge} {j t:Nat} {b:Bool} {E:H6} (a:(all[j]?).bind (·.dst)=some t) (c:E t= .bool b):D9 all ⟨d,op,ty,pos,aft,some (j,b)⟩ E=true:=by
 simp[D9,Z7,a,c]
section frames
variable {P:Program} {n:Nat} {R:H6->World->Prop} {k:List Fr} {E:H6} {w:World} {all rest:List Oper} {d:Nat} {op:Op} {ty:TypeId} {pos:String} {aft:Array Edge} {g:Option (Nat×Bool)}
variable {S:World->Prop} {i:Nat} {p:eM} {tails:List Nat} {t:Bool}
end frames
def Gh (P:Program) (t:TypeId):Bool:=match P.underlying t with|some (.struct _)=>false|some (.array _ _)=>false|some _=>true|none=>false
def jO (P:Program) (t:TypeId) (s:Nat):Bool:=
 (match P.underlying t with|some (.struct _)=>true|some (.array _ _)=>true| _=>false)&&(match P.info? t with|some i=>i.size==s|none=>false)
def Rq (P:Program) (t:TypeId) (s:Nat):Bool:=match P.info? t with|some i=>i.size==s|none=>false
def MK (P:Program) (t:TypeId) (f off:Nat):Bool:=
 match P.underlying t with
 |some (.struct a)=>(match a[f]? with|some x=>x.offset==off&&(match P.info? x.type with|some i=> !(i.size==0) |none=>false) |none=>false)
 | _=>false
def Gi (P:Program) (t e:TypeId) (s:Nat):Bool:=(match P.underlying t with|some (.slice e')=>e'==e| _=>false)&&Rq P e s
def Fl (P:Program) (f:FuncId):Bool:=match P.funcs[f]? with|some fn=> !(fn.name== "runtime.NumGoroutine")&&fn.body.isSome|none=>false
def Ee (P:Program) (t:TypeId):Option Value:=(P.info? t).bind (·.zero)
section ops
variable {P:Program} {E:H6} {w:World} {ty:TypeId}
def B3n {x:Operand} :E7 P E ty (.move x) w (ev E x) w:=fun _ _ _ _=>rfl
def oR {x:Operand} :E7 P E ty (.assign x) w (ev E x) w:=fun _ _ _ _=>rfl
def C1f {c a b:Operand} {t:Bool} (d:ev E c= .bool t):E7 P E ty (.pick c a b) w (bif t then ev E a else ev E b) w:=fun _ _ _ _=>by
 cases t<;>simp[execOp,d,asBool,go_sem]
def A7w {x:Operand} {vs:Array Value} {v:Value} {i:Nat} (b:ev E x= .tuple vs) (a:vs[i]? =some v):E7 P E ty (.extract x i) w v w:=fun _ _ _ _=>by
 simp[execOp,b,Instr.extract,a,go_sem]
def C4p {T:TypeId} {x:Operand} {b:Bool} (a:ev E x= .bool b):E7 P E ty (.unOp .not T x) w (.bool !b) w:=fun _ _ _ _=>by
 simp[execOp,a,Op.unary,go_sem]
def C4o {T:TypeId} {x:Operand} {k:IntKind} {a:Int} (b:ev E x= .int k a):E7 P E ty (.unOp .neg T x) w (.int k (k.wrap (-a))) w:=fun _ _ _ _=>by
 simp[execOp,b,Op.unary,Op.intArith,go_sem]
def lH {op:BinOp} {T:TypeId} {x y:Operand} {k k':IntKind} {a b:Int} :(eqGuard op T x y (.int k a) (.int k' b)).run P w= .ok () w:=by
 unfold eqGuard;cases op<;>rfl
def B3l {op:BinOp} {T T':TypeId} {x y:Operand} {k k':IntKind} {a b:Int} {v:Value} (d:ev E x= .int k a) (f:ev E y= .int k' b) (h:(binOp op T (.int k a) (.int k' b)).run P w= .ok v w):E7 P E ty (.binOp op T x y T') w v w:=fun _ _ _ _=>by
 simp only[execOp,d,f];have c:=lH (P:=P) (w:=w) (op:=op) (T:=T) (x:=x) (y:=y) (k:=k) (k':=k') (a:=a) (b:=b);simp[go_sem,c,h]
def C1c {x y:Operand} {ts:Array TypeId} {k k':IntKind} {a b:Int} (d:ev E x= .int k a) (f:ev E y= .int k' b):E7 P E ty (.call ⟨.builtin .max, #[x,y],ts⟩) w (.int k (max a b)) w:=fun _ _ _ _=>by
 have c:(if b>a then b else a)=max a b:=by by_cases h:a<b<;>simp only[gt_iff_lt,h,wF,yR]<;>omega
 simp[execOp,resolve,invoke,builtin,Builtin.max_,Builtin.max2,d,f,go_sem];exact c
def C1d {x y z:Operand} {ts:Array TypeId} {k k' d:IntKind} {a b c:Int} (f:ev E x= .int k a) (g:ev E y= .int k' b) (i:ev E z= .int d c):E7 P E ty (.call ⟨.builtin .max, #[x,y,z],ts⟩) w (.int k (max (max a b) c)) w:=fun _ _ _ _=>by
 have d:∀a b:Int,(if b>a then b else a)=max a b:=fun a b=>by by_cases h:a<b<;>simp only[gt_iff_lt,h,wF,yR]<;>omega
 simp only[execOp,resolve,invoke,builtin,Builtin.max_,go_sem];simp[f,g,i,Builtin.max2,d,go_sem]
def C1e {x y:Operand} {ts:Array TypeId} {k k':IntKind} {a b:Int} (d:ev E x= .int k a) (f:ev E y= .int k' b):E7 P E ty (.call ⟨.builtin .min, #[x,y],ts⟩) w (.int k (min a b)) w:=fun _ _ _ _=>by
 have c:(if b<a then b else a)=min a b:=by by_cases h:b<a<;>simp only[h,wF,yR]<;>omega
 simp[execOp,resolve,invoke,builtin,Builtin.min_,Builtin.min2,d,f,go_sem];exact c
def C4l {x:Operand} {t e:TypeId} {s len c:Nat} {a:Option Addr} (g:ev E x= .slice a len c) (b:Gi P t e s=true):E7 P E ty (.call ⟨.builtin .len, #[x], #[t]⟩) w (.int .i64 len) w:=fun _ _ _ _=>by
 have f:P.underlying t=some (.slice e):=by
  unfold Gi at b;simp only[qC]at b;obtain⟨b,_⟩:=b;split at b
  . rename_i h d;simp at b;subst b;exact d
  . cases b
 simp[execOp,resolve,invoke,builtin,Builtin.len_,g,run_underlying f,goInt,go_sem]
end ops
def Ew {P:Program} {E:H6} {w:World} {ty:TypeId} {c:Operand} {f:FuncId} {b args:List Value} {as:List Operand} {ts:Array TypeId} (i:ev E c= .func (.func f) #[] b.toArray) (a:Fl P f=true) (h:as.map (ev E)++b=args):
 A8c P E ty (.call ⟨.value c,as.toArray,ts⟩) w f args:=fun _ _ _ _=>by
 unfold Fl at a;split at a
 . rename_i fn j;simp only[qC,rQ]at a;have g:¬fn.body=none:=by intro hb;rw[hb]at a;simp at a
   have d:¬fn.name= "runtime.NumGoroutine" :=by simpa using a.1
   subst h;simp[execOp,resolve,i,Deferred.ofValue,invoke,callFunc,j,d,g,go_sem]
 . cases a
def C4m {P:Program} {E:H6} {w:World} {ty:TypeId} {fn:Fn} {a:List Operand} {vs:List Value} (b:a.map (ev E)=vs):E7 P E ty (.makeFunc fn #[] a.toArray) w (.func fn #[] vs.toArray) w:=fun _ _ _ _=>by
 subst b;simp[execOp,Instr.makeFunc]
def C4n {P:Program} {E:H6} {w:World} {ty:TypeId} {T T':TypeId} {x y:Operand} {a b:Bool} (g:ev E x= .bool a) (h:ev E y= .bool b) (d:P.underlying T=some .bool):E7 P E ty (.binOp .neq T x y T') w (.bool (a !=b)) w:=fun _ _ _ _=>by
 have c:=run_equalIn_bool' (P:=P) w 9999 T a b d;have f:(eqGuard .neq T x y (.bool a) (.bool b)).run P w= .ok () w:=rfl;have d:(binOp .neq T (.bool a) (.bool b)).run P w= .ok (.bool (a !=b)) w:=by
  show((Op.equal T (.bool a) (.bool b))>>=fun r=>pure (Value.bool (!r))).run P w= _;unfold Op.equal Op.maxDepth;rw[Sem.run_bind,c];rfl
 simp only[execOp,g,h];simp[f,d]
def LK (w:World) (b:Nat) (cs:Array Value) (t:TypeId):Prop:=w.heap[b]? =some (.cells cs t (0,0))
structure Q7 (w w':World):Prop extends Below w.heap.size w w' where
 drw:True
def LK.lt {w:World} {b:Nat} {cs:Array Value} {t:TypeId} (h:LK w b cs t):b<w.heap.size:=(rU.1 h).1
def LK.ext {w w':World} {b:Nat} {cs:Array Value} {t:TypeId} (h:LK w b cs t) (a:Q7 w w'):LK w' b cs t:=(a.block b h.lt).trans h
def LK.cell {w:World} {b o:Nat} {cs:Array Value} {t:TypeId} {v:Value} (h:LK w b cs t) (a:cs[o]? =some v):w.cell? ⟨b,o,none⟩=some v:=by
 unfold LK at h;simp[World.cell?,h,a]
def Q7.refl (w:World):Q7 w w:=⟨Below.refl _ _,trivial⟩
def Q7.trans {a b c:World} (h:Q7 a b) (k:Q7 b c):Q7 a c:=⟨Below.trans h.toBelow (Below.mono k.toBelow h.size),trivial⟩
def Q7.drew {a b:World} (h:Q7 a b):Q7 a b.drew:=⟨Below.drew h.toBelow,trivial⟩
def Q7.alloc (w:World) (o:Obj):Q7 w (w.alloc o):=⟨(Below.refl _ _).alloc (qT _) o,trivial⟩
section mem
variable {P:Program} {E:H6} {w:World} {ty:TypeId}
def Hq {t:TypeId} (h:Gh P t=true):(isAgg t).run P w= .ok false w:=by
 unfold Gh at h;cases a:P.underlying t with
 |none=>simp[a]at h
 |some d=>cases d<;>simp[a]at h<;>simp[isAgg,run_underlying a,go_sem]
def Ou {t:TypeId} {s:Nat} (h:jO P t s=true):(isAgg t).run P w= .ok true w/\(sizeOf t).run P w= .ok s w:=by
 unfold jO at h;simp only[qC]at h;obtain⟨d,a⟩:=h;constructor
 . cases c:P.underlying t with
   |none=>simp[c]at d
   |some f=>cases f<;>simp[c]at d<;>simp[isAgg,run_underlying c,go_sem]
 . cases b:P.info? t with
   |none=>simp[b]at a
   |some i=>simp[b]at a;simp[sizeOf,typeInfo,b,a,go_sem]
def Et {t:TypeId} {s:Nat} (h:Rq P t s=true):(sizeOf t).run P w= .ok s w:=by
 unfold Rq at h;cases a:P.info? t with
 |none=>simp[a]at h
 |some i=>simp[a]at h;simp[sizeOf,typeInfo,a,h,go_sem]
def iY {T:TypeId} {x:Operand} {a:Addr} {v:Value} (f:ev E x= .pointer (some a)) (d:Gh P T=true) (c:w.cell? a=some v):E7 P E ty (.load T x) w v w:=fun _ _ _ _=>by
 have b:=Hq (P:=P) (w:=w) d;simp[execOp,f,Instr.loadAt,Instr.sureAddr,loadVar,b,c,go_sem]
def J2 (w:World) (a:Addr) (cs:List Value):Prop:=∀j v,cs[j]? =some v->w.cell? (a.add j)=some v
def A2j {T:TypeId} {x:Operand} {a:Addr} {cs:List Value} {s:Nat} (h:ev E x= .pointer (some a)) (b:jO P T s=true) (g:cs.length=s) (f:J2 w a cs):E7 P E ty (.load T x) w (.agg cs.toArray) w:=fun _ _ _ _=>by
 obtain⟨c,d⟩:=Ou (P:=P) (w:=w) b;have b:=run_loadCells_list (P:=P) (w:=w) a cs f;rw[g]at b;unfold loadCells at b;simp[execOp,h,Instr.loadAt,Instr.sureAddr,loadVar,c,d,b,go_sem]
def LK.cellsAt {w:World} {b:Nat} {cs:Array Value} {t:TypeId} (h:LK w b cs t):J2 w ⟨b,0,none⟩ cs.toList:=fun j v a=>by
 have:(⟨b,0,none⟩:Addr).add j=⟨b,j,none⟩:=by unfold Addr.add;split<;>simp_all
 rw[this];exact h.cell (by simpa using a)
def K6 (b o n:Nat):(⟨b,o,none⟩:Addr).add n=⟨b,o+n,none⟩:=by unfold Addr.add;split<;>simp_all
def AI {T:TypeId} {x:Operand} {b o f off:Nat} (k:ev E x= .pointer (some ⟨b,o,none⟩)) (a:MK P T f off=true):E7 P E ty (.fieldAddr T x f) w (.pointer (some ⟨b,o+off,none⟩)) w:=fun _ _ _ _=>by
 unfold MK at a;split at a
 . rename_i r j;split at a
   . rename_i g i;simp only[qC,g1c]at a;obtain⟨h,c⟩:=a;cases d:P.info? g.type with
     |none=>simp[d]at c
     |some n=>
      simp[d]at c;have l:(sizeOf g.type).run P w= .ok n.size w:=by simp[sizeOf,typeInfo,d,go_sem]
      subst h;simp[execOp,k,Instr.fieldAt,Instr.sureAddr,run_underlying j,i,fieldPlace,l,c,K6,go_sem]
   . cases a
 . cases a
def C4i {T:TypeId} {x:Operand} {v:Value} (a:ev E x=v):E7 P E ty (.box T x) w (.pointer (some ⟨w.heap.size,0,none⟩)) (w.alloc (.cells v.cells T)):=fun _ _ _ _=>by
 subst a;simp[execOp,Instr.box,newVar,newRow,go_sem]
def A4q {T:TypeId} {z:Value} (a:Ee P T=some z):E7 P E ty (.alloc T) w (.pointer (some ⟨w.heap.size,0,none⟩)) (w.alloc (.cells z.cells T)):=fun _ _ _ _=>by
 unfold Ee at a;cases b:P.info? T with
 |none=>simp[b]at a
 |some i=>
  simp[b]at a;simp[execOp,Instr.alloc,zeroValue,typeInfo,b,a,newVar,newRow,go_sem]
def Eu (w:World) (cs:Array Value) (t:TypeId):LK (w.alloc (.cells cs t)) w.heap.size cs t:=heap_alloc_new w _
def LK.alloc {w:World} {b:Nat} {cs:Array Value} {t:TypeId} (h:LK w b cs t) (o:Obj):LK (w.alloc o) b cs t:=h.ext (Q7.alloc w o)
end mem
def Jz:∀u∈([]:List Value),u.oneCell'=true:=fun _ h=>by cases h
def Kv {v:Value} {l:List Value} (h:v.oneCell'=true) (t:∀u∈l,u.oneCell'=true):∀u∈v::l,u.oneCell'=true:=fun u a=>by
 rcases qS.1 a with a|a
 . rw[a];exact h
 . exact t u a
section frames
variable {P:Program} {n:Nat} {R:H6->World->Prop} {k:List Fr} {E:H6} {w:World} {all rest:List Oper} {d:Nat} {ty:TypeId} {pos:String} {aft:Array Edge} {g:Option (Nat×Bool)}
end frames
section tests
variable {P:Program} {n:Nat} {R:H6->World->Prop} {k:List Fr} {E:H6} {w:World} {all rest:List Oper} {d:Nat} {ty:TypeId} {pos:String} {aft:Array Edge} {g:Option (Nat×Bool)} {op:Op} {c:Prop} [Decidable c]
variable {S:World->Prop} {i:Nat} {p:eM} {tails:List Nat} {t:Bool}
end tests
def BH (P:Program) (t:TypeId):Option (List (Nat×Nat)):=
 match P.underlying t with
 |some (.struct a)=>a.toList.mapM fun f=>(P.info? f.type).map fun i=>(f.offset,i.size)
 | _=>none
def XI {P:Program} {w:World} :∀(a:List Field) (b:List (Nat×Nat)),a.mapM (fun f=>(P.info? f.type).map fun i=>(f.offset,i.size))=some b->
 (a.mapM fun f=>do pure (f.offset, <-sizeOf f.type):Sem (List (Nat×Nat))).run P w= .ok b w
 | [],b,h=>by simp at h;subst h;rfl
 |f::a,b,h=>by
  simp only[wU]at h;cases c:P.info? f.type with
  |none=>simp[c]at h
  |some i=>
   simp only[c,wI,qI,wB]at h;cases d:a.mapM (fun f=>(P.info? f.type).map fun i=>(f.offset,i.size))with
   |none=>rw[d]at h;simp at h
   |some j=>
    rw[d]at h;simp at h;subst h;have g:=XI (w:=w) a j d;rw[wU];simp[sizeOf,typeInfo,c,go_sem];simp[sizeOf,typeInfo,go_sem]at g;rw[g];rfl
def B7m {P:Program} {E:H6} {w:World} {ty:TypeId} {T:TypeId} {parts:List (Nat×Operand)} {z:Value} {c:List (Nat×Nat)} (cs:Array Value) (b:Ee P T=some z) (a:BH P T=some c)
 (l:Instr.fill (fun i=>c[i]?) z.cells (parts.map fun x=>(x.1,ev E x.2))=some cs):E7 P E ty (.build T parts.toArray) w (.agg cs) w:=fun _ _ _ _=>by
 unfold Ee at b;unfold BH at a;cases d:P.info? T with
 |none=>simp[d]at b
 |some i=>
  simp[d]at b;cases g:P.underlying T with
  |none=>simp[g]at a
  |some k=>
   cases k<;>simp[g]at a
   case struct fs=>
    have j:=XI (w:=w) fs.toList c a;have h:(fs.mapM fun f=>do pure (f.offset, <-sizeOf f.type):Sem (Array (Nat×Nat))).run P w= .ok c.toArray w:=by
     rw[yT];simp at j⊢;simp[j]
    simp only[execOp];unfold Instr.build;simp at h;simp[zeroValue,typeInfo,d,b,run_underlying g,h,l]
def oS {P:Program} {E:H6} {w:World} {ty:TypeId} {T e:TypeId} {len sz:Nat} {parts:List (Nat×Operand)} {z:Value} (cs:Array Value) (a:Ee P T=some z) (d:P.underlying T=some (.array len e)) (g:Rq P e sz=true)
 (f:Instr.fill (fun i=>some (i*sz,sz)) z.cells (parts.map fun x=>(x.1,ev E x.2))=some cs):E7 P E ty (.build T parts.toArray) w (.agg cs) w:=fun _ _ _ _=>by
 unfold Ee at a;have c:=Et (P:=P) (w:=w) g;cases b:P.info? T with
 |none=>simp[b]at a
 |some i=>
  simp[b]at a;simp only[execOp];unfold Instr.build;simp[zeroValue,typeInfo,b,a,run_underlying d,c,f]
def A8v {w w':World} (c:Q7 w w') {a:Addr} {v:Value} (h:w.cell? a=some v):w'.cell? a=some v:=by
 have b:a.block<w.heap.size:=block_lt_of_cell h;rw[c.cell b];exact h
def J2.ext {w w':World} {a:Addr} {cs:List Value} (h:J2 w a cs) (c:Q7 w w'):J2 w' a cs:=fun j v b=>A8v c (h j v b)
def SlR {α:Type} (w:World) (sz:Nat) (f:α->List Value) (v:Value) (l:List α):Prop:=
 (∃a b,v= .slice a 0 b/\l= [])\/∃c o b,v= .slice (some ⟨c,o,none⟩) l.length b/\l.length<=b/\∀i a,l[i]? =some a->J2 w ⟨c,o+i*sz,none⟩ (f a)
def SlR.ext {α:Type} {w w':World} {sz:Nat} {f:α->List Value} {v:Value} {l:List α} (h:SlR w sz f v l) (k:Q7 w w'):SlR w' sz f v l:=by
 rcases h with h| ⟨b,o,c,j,d,g⟩
 . exact .inl h
 . exact .inr ⟨b,o,c,j,d,fun n a i=>(g n a i).ext k⟩
def SlR.nil {α:Type} (w:World) (sz:Nat) (f:α->List Value):SlR w sz f (.slice none 0 0) []:= .inl ⟨_,_,rfl,rfl⟩
section sl
variable {P:Program} {E:H6} {w:World} {ty:TypeId} {α:Type} {sz:Nat} {f:α->List Value} {v:Value} {l:List α}
def Ir {t e:TypeId} {s:Nat} (a:Gi P t e s=true):P.underlying t=some (.slice e)/\Rq P e s=true:=by
 unfold Gi at a;simp only[qC]at a;obtain⟨a,b⟩:=a;refine⟨?_,b⟩;split at a
 . rename_i d c;simp at a;subst a;exact c
 . cases a
def B3m {x ix:Operand} {t e:TypeId} {n:IntKind} {i:Int} {a:Addr} {len b:Nat} (k:ev E x= .slice (some a) len b) (g:ev E ix= .int n i) (h:Gi P t e sz=true) (c:0<=i) (d:i<len):E7 P E ty (.indexAddr t x ix) w (.pointer (some (a.add (i.toNat*sz)))) w:=fun _ _ _ _=>by
 obtain⟨j,l⟩:=Ir h;have f:=Et (P:=P) (w:=w) l;simp[execOp,k,g,Instr.indexAt,asIntOf,run_underlying j,c,d,f,go_sem]
end sl
section owned
variable {w w':World} {base:Nat} {e:TypeId} {sz:Nat} {v:Value} {n:Nat} {xs:List Value}
def B6a (h:w.ownsRow base e sz v n xs) (a:Q7 w w'):w'.ownsRow base e sz v n xs:=
 h.kept (row:=none) ⟨a.os,a.tape,a.output,a.size,fun k b _=>a.block k b⟩ (by cases v.ownBlock<;>simp)
def LK.grown {b:Nat} {cs:Array Value} {t:TypeId} {row:Option Nat} (h:LK w b cs t) (a:w.grownBy w' row) (c:some b≠row):LK w' b cs t:=(a.block b h.lt c).trans h
def kI {a:World} (b:Q7 a w) (c:w.grownBy w' v.ownBlock) (h:w.ownsRow base e sz v n xs) (d:a.heap.size<=base) (f:w.drawn<=w'.drawn):Q7 a w':=
 ⟨b.toBelow.grown c b.size (fun k a=>by have:=(h.lt k a).1;omega),trivial⟩
end owned
section frames2
variable {P:Program} {n:Nat} {R:H6->World->Prop} {k:List Fr} {E:H6} {w:World} {all rest:List Oper} {d:Nat} {ty:TypeId} {pos:String} {aft:Array Edge} {g:Option (Nat×Bool)}
def iW {T e:TypeId} {sz len:Nat} {parts:List (Nat×Operand)} {z:Value} (cs:Array Value) (j:Gi P T e sz=true) (a:Ee P e=some z) (l:len*sz<=16777216)
 (f:Instr.fill (fun i=>some (i*sz,sz)) ((Array.range (len*sz)).map (z.cells[· %z.cells.size]!)) (parts.map fun x=>(x.1,ev E x.2))=some cs) (c:len*sz≠0):
 E7 P E ty (.buildSlice T len parts.toArray) w (.slice (some ⟨w.heap.size,0,none⟩) len len) (w.alloc (.cells cs e)):=fun _ _ _ _=>by
 obtain⟨k,h⟩:=Ir j;unfold Ee at a;have d:=Et (P:=P) (w:=w) h;cases b:P.info? e with
 |none=>simp[b]at a
 |some i=>
  simp[b]at a;have g:¬(16777216<len*sz):=by omega
  simp only[execOp];unfold Instr.buildSlice;simp[run_underlying k,d,g,c,zeroValue,typeInfo,b,a,f,newRow]
def TD (b:Nat) (w w':World):Prop:=w'.os=w.os/\w'.tape=w.tape/\(w'.output=w.output/\w.drawn<=w'.drawn)/\w'.heap.size=w.heap.size/\∀k,k≠b->w'.heap[k]? =w.heap[k]?
def LK.chg {w w':World} {b a:Nat} {cs:Array Value} {t:TypeId} (h:LK w b cs t) (c:TD a w w') (d:b≠a):LK w' b cs t:=(c.2.2.2.2 b d).trans h
def Q7.chg {c w w':World} {b:Nat} (h:Q7 c w) (a:TD b w w') (d:c.heap.size<=b):Q7 c w':=
 ⟨⟨a.1.trans h.os,a.2.1.trans h.tape,a.2.2.1.1.trans h.output,by rw[a.2.2.2.1];exact h.size,fun k c=>(a.2.2.2.2 k (by omega)).trans (h.block k c)⟩,trivial⟩
def A8u {w w':World} {b:Nat} (c:TD b w w') {a:Addr} (d:a.block≠b):w'.cell? a=w.cell? a:=World.cell?_of_block (w:=w) (c.2.2.2.2 _ d)
def B5z {w w':World} {b c e sz n:Nat} {v:Value} {xs:List Value} (h:w.ownsRow c e sz v n xs) (a:TD b w w') (d:some b≠v.ownBlock):w'.ownsRow c e sz v n xs:=
 h.kept (row:=some b) ⟨a.1,a.2.1,a.2.2.1.1,by rw[a.2.2.2.1];exact qT _,fun k _ c=>a.2.2.2.2 k (fun e=>c (by rw[e]))⟩ (.inr (Ne.symm d))
def SX {T d:TypeId} {x y:Operand} {b o s:Nat} {cs:Array Value} {v:Value} (vs:List Value) (n:ev E x= .pointer (some ⟨b,o,none⟩)) (r:ev E y=v) (c:v.cells.toList=vs) (l:Rq P T s=true) (k:vs.length=s) (i:LK w b cs d) (j:o+vs.length<=cs.size) (f:∀u∈vs,u.oneCell'=true):
 HT P E ty (.store T x y) w (w.setRow b (cs.toList.take o++vs++cs.toList.drop (o+vs.length)).toArray):=fun _ _ _ _=>by
 have g:=Et (P:=P) (w:=w) l;have a:=run_storeCells_at P b o d vs 0 cs w i (by simpa using j) f;have h:v.cells.size=s:=by rw[<-k, <-c];simp
 simp only[sU]at a;subst r;simp[execOp,n,Instr.storeAt,Instr.sureAddr,storeVar,g,h,c,a]
end frames2
section el
variable {P:Program} {E:H6} {w:World} {ty:TypeId}
def J2.get {w:World} {b o j:Nat} {cs:List Value} {v:Value} (h:J2 w ⟨b,o,none⟩ cs) (a:cs[j]? =some v):w.cell? ⟨b,o+j,none⟩=some v:=by
 have:=h j v a;rwa[K6]at this
def B4q {α:Type} {l:List α} {i:Nat} (h:i<l.length):∃a,l[i]? =some a:=⟨_,qP h⟩
def OL {α:Type} {l:List α} {i:Nat} {a:α} (h:l[i]? =some a):i<l.length:=(sP.1 h).1
end el
section frames
variable {P:Program} {n:Nat} {R:H6->World->Prop} {k:List Fr} {E:H6} {w:World} {all rest:List Oper} {d:Nat} {ty:TypeId} {pos:String} {aft:Array Edge} {g:Option (Nat×Bool)}
end frames
def two (a b:Int):Array Value:= #[.int .i64 a, .int .i64 b]
def Xe {a:Type} (kv:a->Value) (w:World) (b:Nat) (d:List a):Prop:=
 ∃a c,w.heap[b]? =some (.map a c)/\a.toList.map (·.key)=d.map kv/\∀x∈a.toList,x.val= .bool true
def Xe.lt {a:Type} {kv:a->Value} {w:World} {b:Nat} {c:List a} (h:Xe kv w b c):b<w.heap.size:=by
 obtain⟨d,c,a,_⟩:=h;exact(rU.1 a).1
def Xe.ext {c:Type} {kv:c->Value} {w w':World} {b:Nat} {a:List c} (h:Xe kv w b a) (g:Q7 w w'):Xe kv w' b a:=by
 have f:=h.lt;obtain⟨c,a,d,r⟩:=h;exact⟨c,a,(g.block b f).trans d,r⟩
def Xe.chg {d:Type} {kv:d->Value} {w w':World} {b a:Nat} {c:List d} (h:Xe kv w b c) (f:TD a w w') (g:b≠a):Xe kv w' b c:=by
 obtain⟨c,a,d,r⟩:=h;exact⟨c,a,(f.2.2.2.2 b g).trans d,r⟩
def Xe.grown {c:Type} {kv:c->Value} {w w':World} {b:Nat} {row:Option Nat} {a:List c} (h:Xe kv w b a) (f:w.grownBy w' row) (i:some b≠row):Xe kv w' b a:=by
 have g:=h.lt;obtain⟨c,a,d,r⟩:=h;exact⟨c,a,(f.block b g i).trans d,r⟩
def iv (i:Int):Value:= .int .i64 i
def sv (s:Int×Int):Value:= .agg (two s.1 s.2)
section maps
variable {P:Program} {E:H6} {w:World} {ty:TypeId} {κ:Type} {kv:κ->Value}
def A7x {t:TypeId} :E7 P E ty (.makeMap t none) w (.map (some w.heap.size)) (w.alloc (.map #[] 0)):=fun _ _ _ _=>by
 simp[execOp,Instr.makeMap]
end maps
section mframes
variable {P:Program} {n:Nat} {R:H6->World->Prop} {k:List Fr} {E:H6} {w:World} {all rest:List Oper} {d:Nat} {ty:TypeId} {pos:String} {aft:Array Edge} {g:Option (Nat×Bool)} {κ:Type}
end mframes
def jA {α:Type} (w:World) (a:Nat) (e:TypeId) (sz:Nat) (f:α->List Value) (v:Value) (l:List α):Prop:=w.ownsRow a e sz v l.length (l.flatMap f)
section own
variable {α:Type} {w w':World} {base:Nat} {e:TypeId} {sz:Nat} {f:α->List Value} {v:Value} {l:List α}
def jA.ext (h:jA w base e sz f v l) (a:Q7 w w'):jA w' base e sz f v l:=B6a h a
def jA.chg {b:Nat} (h:jA w base e sz f v l) (a:TD b w w') (c:some b≠v.ownBlock):jA w' base e sz f v l:=B5z h a c
def jA.nil (w:World) (base:Nat) (e:TypeId) (sz:Nat) (f:α->List Value):jA w base e sz f (.slice none 0 0) []:=World.ownsRow_nil w base e sz
def jA.below {a:World} (h:jA w base e sz f v l) (g:Q7 a w) (d:w.grownBy w' v.ownBlock) (b:a.heap.size<=base) (c:w.drawn<=w'.drawn):Q7 a w':=kI g d h b c
def jA.lit {b:Nat} {cs:Array Value} {a:α} (g:LK w b cs e) (d:cs.toList=f a) (c:(f a).length=sz) (h:base<=b):jA w base e sz f (.slice (some ⟨b,0,none⟩) 1 1) [a]:=by
 refine⟨by simp[c], .inr ⟨b,1,cs,rfl,h,g,by simp,by decide, ?_, ?_⟩⟩
 . rw[<-sO,d,c];simp
 . rw[d];simp[c,qR]
def jA.grown {g:Type} {a b f:Nat} {c:g->List Value} {v2:Value} {d:List g} (h:jA w a b f c v2 d) (i:w.grownBy w' v.ownBlock) (j:v2.ownBlock=none\/v2.ownBlock≠v.ownBlock):jA w' a b f c v2 d:=h.kept i j
end own
section frames
variable {P:Program} {n:Nat} {R:H6->World->Prop} {k:List Fr} {E:H6} {w:World} {all rest:List Oper} {d:Nat} {ty:TypeId} {pos:String} {aft:Array Edge} {g:Option (Nat×Bool)} {α:Type} {f:α->List Value}
def Uj (off:Nat):∀(l:List Value) (j:Nat) (cs:Array Value),off+j+l.length<=cs.size->
 ((l.zipIdx j).foldl (fun cs (x:Value×Nat)=>cs.setIfInBounds (off+x.2) x.1) cs).toList=cs.toList.take (off+j)++l++cs.toList.drop (off+j+l.length)
 | [],j,cs,_=>by simp
 |x::l,j,cs,h=>by
  simp only[g1q,List.foldl_cons];simp only[rF]at h;rw[Uj off l (j+1) _ (by simp;omega)];have a:off+j<cs.size:=by omega
  have b:off+j<cs.toList.length:=by simpa using a
  simp only[Array.toList_setIfInBounds];rw[List.take_set,yW (by omega),show off+(j+1)=(off+j)+1 from by omega,List.take_succ_eq_append_getElem b];rw[zX _ _ (by simp;omega)];simp[tD (vQ a),show off+j+1+l.length=off+j+(l.length+1)from by omega]
def lK (sz:Nat):∀(vs:List Value) (k:Nat) (cs:Array Value),(∀v∈vs,v.cells.size=sz)->(k+vs.length)*sz<=cs.size->
 ∃r,Instr.fill (fun i=>some (i*sz,sz)) cs ((vs.zipIdx k).map fun x=>(x.2,x.1))=some r/\r.toList=cs.toList.take (k*sz)++vs.flatMap (·.cells.toList)++cs.toList.drop ((k+vs.length)*sz)/\r.size=cs.size
 | [],k,cs,_,_=>⟨cs,by simp[Instr.fill],by simp,rfl⟩
 |v::vs,k,cs,l,h=>by
  have g:v.cells.size=sz:=l v (by simp);have f:(k+(vs.length+1))*sz=k*sz+vs.length*sz+sz:=by rw[uZ,uO];omega
  simp only[rF,f]at h;have A:k*sz+v.cells.size<=cs.size:=by omega
  have b:=Uj (k*sz) v.cells.toList 0 cs (by simp;omega);simp only[sU]at b;generalize t:(v.cells.toList.zipIdx 0).foldl (fun cs (x:Value×Nat)=>cs.setIfInBounds (k*sz+x.2) x.1) cs=d at b;have j:d.size=cs.size:=by
   have:=tA List.length b;simp only[sO,rR,qU,sQ]at this;omega
  have a:(k+1+vs.length)*sz=k*sz+vs.length*sz+sz:=by rw[uZ,uZ];omega
  obtain⟨r,u,w,y⟩:=lK sz vs (k+1) d (fun x hx=>l x (by simp[hx])) (by rw[a,j];exact h);refine⟨r, ?_, ?_,by rw[y,j]⟩
  . simp only[g1q,rV];unfold Instr.fill;simp only[g];rw[qH (by simp;omega)];rw[<-u, <-t, <-g3t];simp
  . rw[w,b];have o:(k+1)*sz=k*sz+sz:=uO k sz;have s:(k+(vs.length+1))*sz=(k+1+vs.length)*sz:=by rw[a,f]
    have z:(cs.toList.take (k*sz)).length=k*sz:=by simp;omega
    have n:v.cells.toList.length=sz:=by simpa using g
    rw[o,yK,rF,s];have c:(cs.toList.take (k*sz)++v.cells.toList).length=k*sz+sz:=by rw[rR,z,n]
    congr 1
    . rw[<-uJ,g0i c]
    . rw[g4k,sG (by rw[c,a];omega),wH,vV,c,n,a];congr 1;omega
end frames
def Frs (n:Nat) (v:Value):Prop:=∀g,v.ownBlock=some g->n<=g
def SlR.chg {α:Type} {w w':World} {sz b:Nat} {f:α->List Value} {v:Value} {l:List α} (h:SlR w sz f v l) (k:TD b w w') (s:∀g,v.ownBlock=some g->g≠b):SlR w' sz f v l:=by
 rcases h with h| ⟨a,y,i,c,n,o⟩
 . exact .inl h
 . refine .inr ⟨a,y,i,c,n,fun u d r x z t=> ?_⟩;have j:a≠b:=s a (by rw[c];rfl);have:=o u d r x z t;rw[K6]at this⊢;rw[A8u k j];exact this
def jA.frs {α:Type} {w:World} {a e sz n:Nat} {f:α->List Value} {v:Value} {l:List α} (h:jA w a e sz f v l) (b:n<=a):Frs n v:=fun g a=>by have:=(World.ownsRow.lt h g a).1;omega
def bD (v v2:Value):Prop:=∀g,v.ownBlock=some g->v2.ownBlock≠some g
def bD.symm {v v2:Value} (h:bD v v2):bD v2 v:=fun g a b=>h g b a
section
variable {α β:Type} {w w':World} {base e sz base2 e2 sz2:Nat} {f:α->List Value} {f2:β->List Value} {v v' v2:Value} {l:List α} {l2:List β}
def bD.append (d:bD v v2) (c:jA w base2 e2 sz2 f2 v2 l2) (h:v'.ownBlock=v.ownBlock\/v'.ownBlock=some w.heap.size):bD v' v2:=by
 intro g a b;rcases h with h|h
 . exact d g (h▸a) b
 . rw[a]at h;have:=(World.ownsRow.lt c g b).2;cases h;omega
end
inductive Pl where
 |done
 |q (i:Nat) (p:Pl)
 |p (i:Nat) (p:Pl)
 |e (i:Nat) (p:Pl)
 |or (i:Nat) (p:Pl) (q:Pl)
 |al (is js:List Nat) (p:Pl)
def Ff (all:List Oper) (i:Nat):Nat:=((all[i]?).bind (·.dst)).getD 0
def Ak (all:List Oper) (l:List Nat):List Nat:=l.map (Ff all)
def cZ (all:List Oper) (i:Nat):List Nat:=match all[i]? with
 |some o=>o.op.operands.toList.filterMap fun x=>match x with| .tmp t=>some t| _=>none
 |none=> []
def iE (all:List Oper) (i:Nat):Bool:=match all[i]? with
 |some o=>o.dst.isSome&&o.guard.isNone&&(match o.op with| .select _ _=>false| _=>true)
 |none=>false
def rm (i:Nat) (l:List Nat):List Nat:=l.filter fun k=> !Nat.beq k i
def B6t (l a:List Nat):Bool:=l.all fun x=> !a.contains x
def VZ:List Nat->Bool
 | []=>true
 |x::r=> !r.contains x&&VZ r
def A4v (all:List Oper) (a b:List Nat):Bool:=(a++b).all (iE all)&&VZ (a++b)&&VZ (Ak all (a++b))&&a.all fun i=>B6t (cZ all i) (Ak all (a++b))
def A4u (all:List Oper) (tails:List Nat) (b:Nat->Array Bool->Bool):Nat->List Nat->List Nat->Array Bool->Bool
 |0,ri,a,listed=>ri.isEmpty&&a.isEmpty&&b 0 listed
 |f+1,ri,a,listed=>match a.find? fun j=>(Region.ready .any all.toArray listed).contains j&&Region.free .any all.toArray listed j with
  |some j=> !tails.contains j&&B6t (cZ all j) (Ak all (ri++a))&&A4u all tails b f ri (rm j a) (listed.setIfInBounds j true)
  |none=>match ri with
   | []=>a.isEmpty&&b (f+1) listed
   |i0::c=>(Region.ready .any all.toArray listed==i0::c)&&(i0::c).all fun i=> !tails.contains i&&A4u all tails b f (rm i (i0::c)) a (listed.setIfInBounds i true)
def Fh (all:List Oper) (f:Nat->Nat->Value) (X:Nat->Obj):List Nat->H6->World->H6×World
 | [],E,w=>(E,w)
 |i::r,E,w=>Fh all f X r (upd E (Ff all i) (f i w.heap.size)) (w.alloc (X i))
def AlV (P:Program) (all:List Oper) (a:List Nat) (F:H6):Prop:=∀j∈a,∃o,all[j]? =some o/\∀w,(execOp (ev F) o).run P w= .ok (.value (F (Ff all j))) w
structure A8b (P:Program) (R:World->World->Prop) (all:List Oper) (is js:List Nat) (f:Nat->Nat->Value) (X:Nat->Obj) (nx:H6->World->Prop) (E:H6) (w:World):Prop where
 one:∀i∈is,∃o,all[i]? =some o/\∀w',(execOp (ev E) o).run P w'= .ok (.value (f i w'.heap.size)) (w'.alloc (X i))
 rel:∀i∈is,∀w',R w w'->R w' (w'.alloc (X i))
 fin:∀l,l.Perm is->∃F,(∀x,x∉Ak all js->F x=(Fh all f X l E w).1 x)/\AlV P all js F/\nx F (Fh all f X l E w).2
def Qr (all:List Oper) (a tails:List Nat):Pl->Nat->Array Bool->Option (List Nat)->Bool
 | .done,_,listed,al=>al.isNone&&(Region.ready .any all.toArray listed).isEmpty
 | .q i p,fuel,listed,al=>match fuel with
  |0=>false
  |fuel+1=>al.isNone&&a.contains i&& !tails.contains i&&Region.free .any all.toArray listed i&&(Region.ready .any all.toArray listed).contains i&&Qr all a tails p fuel (listed.setIfInBounds i true) none
 | .p i p,fuel,listed,al=>match fuel with
  |0=>false
  |fuel+1=>al.isNone&& !tails.contains i&&Region.free .any all.toArray listed i&&(Region.ready .any all.toArray listed).contains i&&Qr all a tails p fuel (listed.setIfInBounds i true) none
 | .e i p,fuel,listed,al=>match fuel with
  |0=>false
  |fuel+1=>(al.getD (Region.ready .any all.toArray listed)== [i])&&Qr all a tails p fuel (listed.setIfInBounds i true) none
 | .or i p q,fuel,listed,al=>match fuel with
  |0=>false
  |fuel+1=>match al.getD (Region.ready .any all.toArray listed)with
   | []=>false
   |j::b=>Nat.beq i j&&Qr all a tails p fuel (listed.setIfInBounds i true) none&&Qr all a tails q (fuel+1) listed (some b)
 | .al b c p,fuel,listed,al=>al.isNone&&A4v all b c&&A4u all tails (fun f l=>Qr all a tails p f l none) fuel b c listed
def B7y (all:List Oper) (a tails:List Nat) (p:Pl):Bool:=Region.noSelect all.toArray&&BN all a tails&&Qr all a tails p all.length (Array.replicate all.length false) none
def UM (P:Program) (R:World->World->Prop) (all:List Oper) (tails:List Nat) (next:H6->World->Prop):Pl->Bool->H6->World->Prop
 | .done,_=>next
 | .q i p,t=>fun E w=>∃o,all[i]? =some o/\GL P (R w) all o (UM P R all tails next p t) E w
 | .p i p,t=>fun E w=>∃o,all[i]? =some o/\GL P (fun _=>True) all o (UM P R all tails next p t) E w
 | .e i p,t=>fun E w=>∃o,all[i]? =some o/\M9 P all o (fun E' a=>((t||tails.contains i)=true\/R w a)/\UM P R all tails next p (t||tails.contains i) E' a) E w
 | .or i p q,t=>fun E w=>(∃o,all[i]? =some o/\M9 P all o (fun E' a=>((t||tails.contains i)=true\/R w a)/\UM P R all tails next p (t||tails.contains i) E' a) E w)/\UM P R all tails next q t E w
 | .al a b p,t=>fun E w=>∃f X,A8b P R all a b f X (UM P R all tails next p t) E w
section
variable {P:Program} {ops:Array Oper} {Q:Exit->Act->World->Prop} {S S':World->Prop} {tails:List Nat}
def Iy (c:∀w,S w->S' w):∀(fuel:Nat) (listed:Array Bool) (a:Act) (w:World),X0 P ops Q S tails fuel listed a w->X0 P ops Q S' tails fuel listed a w
 |0,_,_,_,h=>h
 |fuel+1,_,_,_,h=>⟨h.1,fun i g=>wpOp_mono (fun f d b=>⟨b.1.imp id (c d),Iy c fuel _ f d b.2⟩) (h.2 i g)⟩
def PU:∀(fuel:Nat) (listed:Array Bool) (a:Act) (w:World),G8 tails listed=true->X0 P ops Q S tails fuel listed a w->X0 P ops Q S' tails fuel listed a w
 |0,_,_,_,_,h=>h
 |fuel+1,_,_,_,b,h=>⟨h.1,fun i f=>wpOp_mono (fun c g d=>⟨.inl (Cq b),PU fuel _ c g (Cq b) d.2⟩) (h.2 i f)⟩
end
def Kp:∀ {l:List Nat},VZ l=true->l.Nodup
 | [],_=>zU
 |x::r,h=>by
  simp only[VZ,qC,rQ]at h;exact sI.2 ⟨T4 h.1,Kp h.2⟩
def gM {i k:Nat} {l:List Nat} :k∈rm i l↔k∈l/\k≠i:=by
 unfold rm;rw[zG];refine g2p fun _=>⟨fun h e=>by subst e;simp at h,fun h=>by rw[E6 h];rfl⟩
def A4g {i:Nat} :∀ {l:List Nat},l.Nodup->i∈l->(i::rm i l).Perm l
 | [],_,h=>by cases h
 |x::r,f,h=>by
  obtain⟨b,c⟩:=sI.1 f;by_cases a:x=i
  . subst a;have:rm x (x::r)=r:=by
     unfold rm;rw[g1p,qH (by simp)];exact g0m.2 fun k d=>by rw[E6 (show k≠x from fun e=>b (by rw[<-e];exact d))];rfl
    rw[this]
  . have:rm i (x::r)=x::rm i r:=by
     unfold rm;rw[g1p,qJ (by rw[E6 a];rfl)]
    rw[this];rcases qS.1 h with h|h
    . exact absurd h.symm a
    . exact(List.Perm.swap x i _).trans ((A4g c h).cons x)
def NT {l a:List Nat} (h:B6t l a=true):∀x∈l,x∉a:=fun x a=>by
 have:=tU.1 h x a;simp only[rQ]at this;exact T4 this
def Yl {all:List Oper} {i:Nat} {o:Oper} (h:iE all i=true) (c:all[i]? =some o):o.dst=some (Ff all i)/\o.guard=none/\∀cs b,o.op≠ .select cs b:=by
 unfold iE at h;rw[c]at h;simp only[qC,wK]at h;refine⟨?_,h.1.2,fun cs b e=>by rw[e]at h;simp at h⟩;cases a:o.dst with
 |none=>rw[a]at h;simp at h
 |some d=>simp[Ff,c,a]
def A6h {all:List Oper} {i:Nat} {o:Oper} {t:Nat} (a:all[i]? =some o) (h:Operand.tmp t∈o.op.operands):t∈cZ all i:=by
 unfold cZ;rw[a];exact List.mem_filterMap.2 ⟨.tmp t,by simpa using h,rfl⟩
def MG {all:List Oper} {i:Nat} {o:Oper} {E E':H6} (a:all[i]? =some o) (c:∀cs b,o.op≠ .select cs b) (h:∀t∈cZ all i,E t=E' t):execOp (ev E) o=execOp (ev E') o:=
 execOp_congr o c fun x d=>by
  cases x with
  |tmp t=>exact h t (A6h a d)
  | _=>rfl
def Yq {all:List Oper} {f:Nat->Nat->Value} {X:Nat->Obj} :∀(a b:List Nat) (E:H6) (w:World),Fh all f X (a++b) E w=Fh all f X b (Fh all f X a E w).1 (Fh all f X a E w).2
 | [],_,_,_=>rfl
 |i::a,b,E,w=>Yq a b _ _
def Hp {all:List Oper} {f:Nat->Nat->Value} {X:Nat->Obj} {x:Nat} :∀(l:List Nat) (E:H6) (w:World),x∉Ak all l->(Fh all f X l E w).1 x=E x
 | [],_,_,_=>rfl
 |i::l,E,w,h=>by
  simp only[Ak,rV,qS,g4x]at h;simp only[Fh];rw[Hp l _ _ h.2,C5 _ _ _ _ h.1]
def J6 {all:List Oper} {l:List Nat} {x:Nat} :x∈Ak all l↔∃i∈l,Ff all i=x:=by simp[Ak]
def fR {all:List Oper} :∀ {l:List Nat},(Ak all l).Nodup->∀ {i k:Nat},i∈l->k∈l->i≠k->Ff all i≠Ff all k
 | [],_,_,_,h,_,_=>by cases h
 |x::r,c,i,k,hi,a,d=>by
  simp only[Ak,rV]at c;obtain⟨b,f⟩:=sI.1 c;rcases qS.1 hi with hi|hi<;>rcases qS.1 a with a|a
  . exact absurd (hi.trans a.symm) d
  . rw[hi];exact fun e=>b (J6.2 ⟨k,a,e.symm⟩)
  . rw[a];exact fun e=>b (J6.2 ⟨i,hi,e⟩)
  . exact fR f hi a d
def B8h {P:Program} {R:World->World->Prop} (bq:∀w,R w w) (b2:∀ {a b c},R a b->R b c->R a c) {n:Nat} {all:List Oper} {a4 tails O s:List Nat} (av:lA n all=true) (bs:Region.noSelect all.toArray=true) (bw:BN all a4 tails=true) {Q:Exit->Act->World->Prop} (bg:∀(c:List PanicEntry) (a a1:Act) (w:World),Q (.panic c) a1 w->Q (.panic c) a w)
 {ap:Nat->Array Bool->Bool} {b8:H6->World->Prop} {t:Bool} {f:Nat->Nat->Value} {X:Nat->Obj} {E:H6} {w:World} (b1:A4v all O s=true) (a0:A8b P R all O s f X b8 E w)
 (bk:∀(l:Nat) (listed:Array Bool) (a:Act) (E':H6) (w':World),ap l listed=true->ZN all.toArray a4 tails listed->t=G8 tails listed->C7 n a E'->b8 E' w'->X0 P all.toArray Q (R w') tails l listed a w'):
 ∀(l:Nat) (ri I:List Nat) (listed:Array Bool),A4u all tails ap l ri I listed=true->ZN all.toArray a4 tails listed->t=G8 tails listed->∀(a:Act) (Ec:H6) (g:List Nat),C7 n a Ec->(g++ri).Perm O->(∀j∈I,j∈s)->
  (∀r,r.Perm ri->∀F,(∀x,x∉Ak all s->F x=(Fh all f X (g++r) E w).1 x)->AlV P all s F->∀x,x∉Ak all (ri++I)->F x=Ec x)->R w (Fh all f X g E w).2->
  X0 P all.toArray Q (R (Fh all f X g E w).2) tails l listed a (Fh all f X g E w).2:=by
 simp only[A4v,qC,tU]at b1;obtain⟨⟨⟨ba,a7⟩,a8⟩,bz⟩:=b1;have a7:=Kp a7;have a8:=Kp a8;have b3:=Yu bw;have fin:∀(l:Nat) (listed:Array Bool),ap l listed=true->ZN all.toArray a4 tails listed->t=G8 tails listed->∀(a:Act) (Ec:H6) (g:List Nat),C7 n a Ec->(g++ []).Perm O->(∀r,r.Perm []->∀F,(∀x,x∉Ak all s->F x=(Fh all f X (g++r) E w).1 x)->AlV P all s F->∀x,x∉Ak all ([]++ [])->F x=Ec x)->X0 P all.toArray Q (R (Fh all f X g E w).2) tails l listed a (Fh all f X g E w).2:=by
  intro l listed z o D a Ec g B A y;obtain⟨F,h,i,k⟩:=a0.fin g (by simpa using A);have:F=Ec:=funext fun x=>y [] (wT _) F (by simpa using h) i x (by simp[Ak])
  subst this;exact bk l listed a F _ z o D B k
 intro l
 induction l with
 |zero=>
  intro ri I listed h i z a Ec g y o _ k _;simp only[A4u,qC,g4n]at h;obtain⟨⟨rfl,rfl⟩,h⟩:=h;exact fin 0 listed h i z a Ec g y o k
 |succ l b7=>
  intro ri I listed z W ah a Ec g Z A T Y a9;simp only[A4u]at z;split at z
  . rename_i j ar;simp only[qC,rQ]at z;obtain⟨⟨an,ao⟩,bx⟩:=z;have ad:j∈I:=List.mem_of_find?_eq_some ar;have ae:=List.find?_some ar;simp only[qC]at ae;have ay:j∈Region.ready .any all.toArray listed:=by simpa using ae.1
    have a5:=T4 an;have bu:=NT ao;obtain⟨F0,a2,a3,_⟩:=a0.fin (g++ri) A;obtain⟨G,D,a6⟩:=a3 j (T j ad);obtain⟨aa,ac,af⟩:=Yl (ba j (tJ _ (T j ad))) D;have aw:all.toArray[j]? =some G:=by simpa using D
    have bb:∀r,r.Perm ri->∀F,(∀x,x∉Ak all s->F x=(Fh all f X (g++r) E w).1 x)->AlV P all s F->execOp (ev F) G=execOp (ev Ec) G:=fun r N F H J=>MG D af fun u hu=>Y r N F H J u (bu u hu)
    have aq:=bb ri (wT _) F0 a2 a3;have ai:t=G8 tails (listed.setIfInBounds j true):=by rw[I6 a5];exact ah
    have aj:D9 all G Ec=true:=by simp[D9,ac]
    refine AH (v:=F0 (Ff all j)) aw a5 (Region.noSelect_spec bs) (fun c a w B=>bg c a _ w B) l listed a _ (Region.free_spec aw ae.2) ay (.inl ⟨by rw[Z.wanted];exact aj,fun w' _=>by rw[Z.ev, <-aq];exact a6 w'⟩) (.inr (bq _)) ?_;refine b7 ri (rm j I) _ bx (W.set b3 ay) ai _ (upd Ec (Ff all j) (F0 (Ff all j))) g ?_ A (fun k h=>T k (gM.1 h).1) (fun r N F H J x U=> ?_) a9
    . have:=Z.put G.dst (F0 (Ff all j)) fun d W=>by
       have:=tU.1 av G (sX D);simpa[W]using this
      rw[aa]at this⊢;exact this
    . by_cases am:x=Ff all j
      . subst am;rw[C2];obtain⟨c0,ax,bv⟩:=J j (T j ad);rw[D]at ax;cases ax;have V:=bv w;rw[bb r N F H J, <-aq,a6 w]at V;simp only[Result.ok.injEq,Next.value.injEq,vR]at V;exact V.symm
      . rw[C5 _ _ _ _ am];refine Y r N F H J x fun o=>U ?_
        obtain⟨i,y,e⟩:=J6.1 o;refine J6.2 ⟨i, ?_,e⟩;rcases qZ.1 y with y|y
        . exact sN _ y
        . exact tJ _ (gM.2 ⟨y,fun B=>am (by rw[<-e,B])⟩)
  . split at z
    . simp only[qC,g4n]at z;obtain⟨rfl,z⟩:=z;exact fin _ listed z W ah a Ec g Z A Y
    . rename_i b6 b9;have bn:b6::b9≠ []:=by simp
      generalize b6::b9=ri at*;simp only[qC,tU,g1c,rQ]at z;obtain⟨az,bh⟩:=z;unfold X0;refine⟨fun bc=>absurd (az.symm.trans bc) bn,fun i y=> ?_⟩;have bl:=y;rw[az]at y;obtain⟨an,ao⟩:=bh i y;have a5:=T4 an;have M:i∈O:=A.subset (tJ _ y);have bm:(g++ri).Nodup:=A.nodup_iff.2 (tN.1 a7).1;obtain⟨G,D,a6⟩:=a0.one i M;obtain⟨aa,ac,af⟩:=Yl (ba i (sN _ M)) D;obtain⟨F0,a2,a3,_⟩:=a0.fin (g++ri) A;have bf:∀x,x∉Ak all (O++s)->Ec x=E x:=fun x U=>by
       have b4:x∉Ak all O:=fun o=>U (by obtain⟨k,h,e⟩:=J6.1 o;exact J6.2 ⟨k,sN _ h,e⟩)
       have b5:x∉Ak all s:=fun o=>U (by obtain⟨k,h,e⟩:=J6.1 o;exact J6.2 ⟨k,tJ _ h,e⟩)
       have V:=Y ri (wT _) F0 a2 a3 x fun o=>by
        obtain⟨k,h,e⟩:=J6.1 o;rcases qZ.1 h with h|h
        . exact b4 (J6.2 ⟨k,A.subset (tJ _ h),e⟩)
        . exact b5 (J6.2 ⟨k,T k h,e⟩)
       rw[<-V,a2 x b5];exact Hp _ _ _ fun o=>by
        obtain⟨k,h,e⟩:=J6.1 o;exact b4 (J6.2 ⟨k,A.subset h,e⟩)
      have bj:=MG (E:=Ec) (E':=E) D af fun u hu=>bf u (NT (bz i M) u hu)
      have ai:t=G8 tails (listed.setIfInBounds i true):=by rw[I6 a5];exact ah
      have aj:D9 all G Ec=true:=by simp[D9,ac]
      have bt:M9 P all G (fun E' w'=>E'=upd Ec (Ff all i) (f i (Fh all f X g E w).2.heap.size)/\w'=(Fh all f X g E w).2.alloc (X i)) Ec (Fh all f X g E w).2:=by
       unfold M9;rw[qJ aj,bj,a6,aa];exact⟨rfl,rfl⟩
      have ag:=a0.rel i M _ a9;refine GQ av D (fun a1 E' w' bp B=> ?_) Z bt;obtain⟨rfl,rfl⟩:=B;refine⟨.inr ag, ?_⟩;have ab:Fh all f X (g++ [i]) E w=(upd (Fh all f X g E w).1 (Ff all i) (f i (Fh all f X g E w).2.heap.size),(Fh all f X g E w).2.alloc (X i)):=by rw[Yq];rfl
      have b0:=A4g (tN.1 bm).2.1 y;have:=b7 (rm i ri) I _ ao (W.set b3 bl) ai a1 _ (g++ [i]) bp (by
       rw[uJ];exact(g2r g b0).trans A) T (fun r N F H J x U=> ?_) (by rw[ab];exact b2 a9 ag)
      . rw[ab]at this;exact Iy (fun c2 be=>b2 ag be) l _ a1 _ this
      . have bi:(i::r).Perm ri:=(N.cons i).trans b0;rw[uJ]at H;by_cases ak:x=Ff all i
        . subst ak;have bo:Ff all i∉Ak all s:=fun o=>by
           obtain⟨k,h,e⟩:=J6.1 o;exact fR a8 (tJ _ h) (sN _ M) (fun B=>by
            subst B;exact(tN.1 a7).2.2 k M k h rfl) e
          rw[H _ bo,C2,show g++([i]++r)=(g++ [i])++r from(uJ _ _ _).symm,Yq,ab];refine(Hp _ _ _ fun o=> ?_).trans (C2 _ _ _);obtain⟨k,h,e⟩:=J6.1 o;have au:=gM.1 (N.subset h);exact fR a8 (sN _ (A.subset (tJ _ au.1))) (sN _ M) au.2 e
        . rw[C5 _ _ _ _ ak];refine Y (i::r) bi F H J x fun o=>U ?_
          obtain⟨k,h,e⟩:=J6.1 o;refine J6.2 ⟨k, ?_,e⟩;rcases qZ.1 h with h|h
          . exact sN _ (gM.2 ⟨h,fun B=>ak (by rw[<-e,B])⟩)
          . exact tJ _ h
def A9j {P:Program} {R:World->World->Prop} (N:∀w,R w w) (a8:∀ {a b c},R a b->R b c->R a c) {n:Nat} {all:List Oper} {J tails:List Nat} (a1:lA n all=true) (U:Region.noSelect all.toArray=true) (I:BN all J tails=true) {Q:Exit->H6->World->Prop} (aa:∀c E w,¬Q (.panic c) E w):
 ∀(p:Pl) (f:Nat) (listed:Array Bool) (al:Option (List Nat)),Qr all J tails p f listed al=true->ZN all.toArray J tails listed->∀(t:Bool),t=G8 tails listed->∀(a:Act) (E:H6) (w:World),C7 n a E->(∀l,al=some l->∀i∈l,i∈Region.ready .any all.toArray listed)->UM P R all tails (Q .normal) p t E w->
  match al with
  |none=>X0 P all.toArray (FR n Q) (R w) tails f listed a w
  |some l=>∃D,f=D+1/\∀i∈l,wpOp P all.toArray (FR n Q) i (fun u o=>(G8 tails (listed.setIfInBounds i true)=true\/R w o)/\X0 P all.toArray (FR n Q) (R w) tails D (listed.setIfInBounds i true) u o) a w:=by
 have T:∀(c:List PanicEntry) (a u:Act) (w:World),FR n Q (.panic c) u w->FR n Q (.panic c) a w:=fun c a u w ⟨E,_,h⟩=>(aa c E w h).elim
 have V:∀(i:Nat) (y:Oper),all[i]? =some y->∀d,y.dst=some d->d<n:=fun i y B d s=>by
  have:=tU.1 a1 y (sX B);simpa[s]using this
 have M:=Yu I;have one:∀(i:Nat) (p:Pl) (f:Nat) (listed:Array Bool) (t:Bool) (a:Act) (E:H6) (w:World),(∀(f:Nat) (listed:Array Bool) (al:Option (List Nat)),Qr all J tails p f listed al=true->ZN all.toArray J tails listed->∀(t:Bool),t=G8 tails listed->∀(a:Act) (E:H6) (w:World),C7 n a E->(∀l,al=some l->∀i∈l,i∈Region.ready .any all.toArray listed)->UM P R all tails (Q .normal) p t E w->
  match al with
  |none=>X0 P all.toArray (FR n Q) (R w) tails f listed a w
  |some l=>∃D,f=D+1/\∀i∈l,wpOp P all.toArray (FR n Q) i (fun u o=>(G8 tails (listed.setIfInBounds i true)=true\/R w o)/\X0 P all.toArray (FR n Q) (R w) tails D (listed.setIfInBounds i true) u o) a w)->
  Qr all J tails p f (listed.setIfInBounds i true) none=true->ZN all.toArray J tails listed->t=G8 tails listed->C7 n a E->i∈Region.ready .any all.toArray listed->(∃y,all[i]? =some y/\M9 P all y (fun E' o=>((t||tails.contains i)=true\/R w o)/\UM P R all tails (Q .normal) p (t||tails.contains i) E' o) E w)->
  wpOp P all.toArray (FR n Q) i (fun u o=>(G8 tails (listed.setIfInBounds i true)=true\/R w o)/\X0 P all.toArray (FR n Q) (R w) tails f (listed.setIfInBounds i true) u o) a w:=by
  intro i p f listed t a E w A g s z k Z ⟨y,B,h⟩;have H:(t||tails.contains i)=G8 tails (listed.setIfInBounds i true):=by rw[kG (B2n Z),z]
  refine GQ a1 B (fun u E' o a2 j=>⟨H▸j.1, ?_⟩) k h;have:=A f _ none g (s.set M Z) _ H u E' o a2 (fun _ j=>by cases j) j.2;simp only at this;rcases j.1 with a0|a0
  . exact PU f _ u o (H▸a0) this
  . exact Iy (fun ah O=>a8 a0 O) f _ u o this
 intro p
 induction p with
 |done=>
  intro f listed al g _ t _ a E w k _ h;simp only[Qr,qC,wK]at g;obtain⟨rfl,g⟩:=g;have D:Region.ready .any all.toArray listed= []:=by simpa using g
  cases f with
  |zero=>exact⟨D,E,k,h⟩
  |succ f=>exact⟨fun _=>⟨E,k,h⟩,by rw[D];simp⟩
 |q i p A=>
  intro f listed al g s t z a E w k _ h;cases f with
  |zero=>simp[Qr]at g
  |succ f=>
   simp only[Qr,qC,rQ,wK]at g;obtain⟨⟨⟨⟨⟨rfl,Y⟩,G⟩,a3⟩,D⟩,g⟩:=g;have Y:i∈J:=by simpa using Y
   have G:=T4 G;have D:i∈Region.ready .any all.toArray listed:=by simpa using D
   obtain⟨y,B,h⟩:=h;have W:all.toArray[i]? =some y:=by simpa using B
   have H:t=G8 tails (listed.setIfInBounds i true):=by rw[I6 G];exact z
   rcases h with⟨I,v,a5,h⟩ | ⟨I,h⟩
   . refine LH (v:=v) W Y G (Region.noSelect_spec U) M (fun c a w j=>T c a _ w j) f listed a w s (Region.free_spec W a3) D (.inl ⟨by rw[k.wanted];exact I,fun o a4=>by rw[k.ev];exact a5 o a4⟩) (N w) ?_;exact A f _ none g (s.set M D) t H _ _ w (k.put _ _ (V i y B)) (fun _ j=>by cases j) h
   . refine LH (v:=undef) W Y G (Region.noSelect_spec U) M (fun c a w j=>T c a _ w j) f listed a w s (Region.free_spec W a3) D (.inr ⟨by rw[k.wanted];exact I,rfl⟩) (N w) ?_;exact A f _ none g (s.set M D) t H _ _ w (k.put _ _ (V i y B)) (fun _ j=>by cases j) h
 |p i p A=>
  intro f listed al g s t z a E w k _ h;cases f with
  |zero=>simp[Qr]at g
  |succ f=>
   simp only[Qr,qC,rQ,wK]at g;obtain⟨⟨⟨⟨rfl,G⟩,Y⟩,D⟩,g⟩:=g;have G:=T4 G;have D:i∈Region.ready .any all.toArray listed:=by simpa using D
   obtain⟨y,B,h⟩:=h;have W:all.toArray[i]? =some y:=by simpa using B
   have H:t=G8 tails (listed.setIfInBounds i true):=by rw[I6 G];exact z
   rcases h with⟨I,v,a4,h⟩ | ⟨I,h⟩
   . refine AH (v:=v) W G (Region.noSelect_spec U) (fun c a w j=>T c a _ w j) f listed a w (Region.free_spec W Y) D (.inl ⟨by rw[k.wanted];exact I,fun o a3=>by rw[k.ev];exact a4 o a3⟩) (.inr (N w)) ?_;exact A f _ none g (s.set M D) t H _ _ w (k.put _ _ (V i y B)) (fun _ j=>by cases j) h
   . refine AH (v:=undef) W G (Region.noSelect_spec U) (fun c a w j=>T c a _ w j) f listed a w (Region.free_spec W Y) D (.inr ⟨by rw[k.wanted];exact I,rfl⟩) (.inr (N w)) ?_;exact A f _ none g (s.set M D) t H _ _ w (k.put _ _ (V i y B)) (fun _ j=>by cases j) h
 |e i p A=>
  intro f listed al g s t z a E w k a3 h;cases f with
  |zero=>simp[Qr]at g
  |succ f=>
   simp only[Qr,qC,g1c]at g;obtain⟨D,g⟩:=g;cases al with
   |none=>
    simp only[g1y]at D;have Z:i∈Region.ready .any all.toArray listed:=by rw[D];simp
    refine⟨fun G=>by rw[D]at G;simp at G, ?_⟩;intro Y W;obtain rfl:Y=i:=by rw[D]at W;simpa using W
    exact one Y p f listed t a E w A g s z k Z h
   |some l=>
    simp only[vJ]at D;subst D;refine⟨f,rfl,fun G W=> ?_⟩;obtain rfl:G=i:=by simpa using W
    exact one G p f listed t a E w A g s z k (a3 _ rfl G (by simp)) h
 |or i p q ae af=>
  intro f listed al g s t z a E w k ab h;cases f with
  |zero=>simp[Qr]at g
  |succ f=>
   simp only[Qr]at g;cases D:al.getD (Region.ready .any all.toArray listed)with
   |nil=>rw[D]at g;simp at g
   |cons ag a3=>
    rw[D]at g;simp only[qC]at g;obtain⟨⟨Y,ac⟩,ad⟩:=g;have Y:=qD Y;subst Y;have a7:∀m∈i::a3,m∈Region.ready .any all.toArray listed:=fun m G=>by
     cases al with
     |none=>rw[g1y]at D;rw[D];exact G
     |some l=>rw[vJ]at D;exact ab l rfl m (by rw[D];exact G)
    have a9:=one i p f listed t a E w ae ac s z k (a7 i (by simp)) h.1;have O:=af (f+1) listed (some a3) ad s t z a E w k (fun l j m G=>by cases j;exact a7 m (by simp[G])) h.2;obtain⟨W,a6,O⟩:=O;have a6:W=f:=by omega
    subst a6;have a5:∀m∈i::a3,wpOp P all.toArray (FR n Q) m (fun u o=>(G8 tails (listed.setIfInBounds m true)=true\/R w o)/\X0 P all.toArray (FR n Q) (R w) tails W (listed.setIfInBounds m true) u o) a w:=fun m G=>by
     rcases qS.1 G with rfl|G
     . exact a9
     . exact O m G
    cases al with
    |none=>
     rw[g1y]at D;exact⟨fun a4=>by rw[D]at a4;simp at a4,fun m G=>a5 m (by rw[D]at G;exact G)⟩
    |some l=>
     rw[vJ]at D;subst D;exact⟨W,rfl,a5⟩
 |al ac a3 p A=>
  intro f listed al g s t z a E w k _ h;simp only[Qr,qC,wK]at g;obtain⟨⟨rfl,a9⟩,g⟩:=g;obtain⟨ae,X,a7⟩:=h;refine B8h N a8 a1 U I T (t:=t) a9 a7 (fun a4 ad u E' o a6 a5 H a2 D=>A a4 ad none a6 a5 t H u E' o a2 (fun _ j=>by cases j) D) f ac a3 listed g s z a E [] k (wT _) (fun _ j=>j) (fun r hrp F g1 g2 x D=> ?_) (N w);have ab:x∉Ak all a3:=fun W=>D (by obtain⟨Y,G,e⟩:=J6.1 W;exact J6.2 ⟨Y,tJ _ G,e⟩)
  rw[g1 x ab,wH];exact Hp _ _ _ fun W=>D (by obtain⟨Y,G,e⟩:=J6.1 W;exact J6.2 ⟨Y,sN _ (hrp.subset G),e⟩)
end Go.Gw
namespace Go.Vc
open Go Go.RowKit Go.Gw
open Go.IntKind (i64)
inductive Ty where
 |int (k:IntKind)
 |bool
 |str
 |unit
 |pair (a b:Ty)
 |sl (t:Ty)
 |ptr (t:Ty)
 |mp (ka:Bool) (kt:Ty) (va:Bool) (vt:Ty)
 deriving DecidableEq
@[reducible] def Ty.den:Ty->Type
 | .int _=>Int
 | .bool=>Bool
 | .str=>ByteArray
 | .unit=>Unit
 | .pair a b=>a.den×b.den
 | .sl t=>List t.den
 | .ptr t=>t.den
 | .mp _ a _ b=>List (a.den×b.den)
def Ty.size:Ty->Nat
 | .unit=>0
 | .pair a b=>a.size+b.size
 | _=>1
def Ty.dflt:(t:Ty)->t.den
 | .int _=>(0:Int)
 | .bool=>false
 | .str=>⟨#[]⟩
 | .unit=>()
 | .pair a b=>(a.dflt,b.dflt)
 | .sl _=> []
 | .ptr t=>t.dflt
 | .mp _ _ _ _=> []
def MO (k:IntKind) (n:Int):Prop:=k.min<=n/\n<=k.max
def Ty.wf:(t:Ty)->t.den->Prop
 | .int k,n=>MO k n
 | .bool,_=>True
 | .str,_=>True
 | .unit,_=>True
 | .pair a b,x=>a.wf x.1/\b.wf x.2
 | .sl t,l=>l.length<=9223372036854775807/\∀x∈l,t.wf x
 | .ptr t,x=>t.wf x
 | .mp _ a _ b,l=>∀x∈l,a.wf x.1/\b.wf x.2
def G2 {α:Type} (R:List Value->α->Prop):List Value->List α->Prop
 |a,[]=>a= []
 |b,x::l=>∃c1 a,b=c1++a/\R c1 x/\G2 R a l
def T3 {α:Type} (R:List Value->α->Prop):Bool->Value->α->Prop
 |true,v,x=>∃a:List Value,v= .agg a.toArray/\R a x
 |false,v,x=>R [v] x
def MOk (a:Array MapEntry) (b:Nat):Prop:=(∀x∈a.toList,x.born<b)/\(a.toList.map (·.born)).Nodup
def S4 {a b:Type} (Rk:Value->a->Prop) (Rv:Value->b->Prop):List MapEntry->List (a×b)->Prop
 |a,[]=>a= []
 |b,x::l=>∃e a,b=e::a/\Rk e.key x.1/\Rv e.val x.2/\S4 Rk Rv a l
def C7:(t:Ty)->World->(Nat->Prop)->List Value->t.den->Prop
 | .int k,_,_,a,n=>a= [.int k n]/\MO k n
 | .bool,_,_,a,b=>a= [.bool b]
 | .str,_,_,a,s=>a= [.string s]
 | .unit,_,_,a,_=>a= []
 | .pair b c,w,Z,d,x=>∃c1 a,d=c1++a/\C7 b w Z c1 x.1/\C7 c w Z a x.2
 | .sl t,w,Z,f,l=>∃b a,f= [.slice b l.length a]/\l.length<=a/\a<=maxLen/\(b=none->a=0)/\(l= []\/∃c o d,b=some ⟨c,o,none⟩/\Z c/\J2 w ⟨c,o,none⟩ d/\G2 (C7 t w Z) d l)
 | .ptr t,w,Z,c,x=>∃b o a,c= [.pointer (some ⟨b,o,none⟩)]/\Z b/\J2 w ⟨b,o,none⟩ a/\C7 t w Z a x
 | .mp f g h i,w,Z,d,l=>(d= [.map none]/\l= [])\/∃b a c,d= [.map (some b)]/\Z b/\w.heap[b]? =some (.map a c)/\MOk a c/\S4 (T3 (C7 g w Z) f) (T3 (C7 i w Z) h) a.toList l
def T3.mono {α:Type} {R R':List Value->α->Prop} (h:∀c x,R c x->R' c x):∀ {a:Bool} {v:Value} {x:α},T3 R a v x->T3 R' a v x
 |true,_,_,⟨b,e,d⟩=>⟨b,e,h _ _ d⟩
 |false,_,_,b=>h _ _ b
def S4.mono {b d:Type} {Rk Rk':Value->b->Prop} {Rv Rv':Value->d->Prop} (h:∀c x,Rk c x->Rk' c x) (a:∀c x,Rv c x->Rv' c x):∀ {l:List (b×d)} {es:List MapEntry},S4 Rk Rv es l->S4 Rk' Rv' es l
 | [],_,b=>b
 | _:: _,_,⟨e,b,i,d,f,g⟩=>⟨e,b,i,h _ _ d,a _ _ f,S4.mono h a g⟩
def S4.mem {b c:Type} {Rk:Value->b->Prop} {Rv:Value->c->Prop} :∀ {l:List (b×c)} {es:List MapEntry} {x:b×c},S4 Rk Rv es l->x∈l->∃e∈es,Rk e.key x.1/\Rv e.val x.2
 |y::l,_,x,⟨e,n,j,f,g,i⟩,a=>by
  rw[j];rcases qS.1 a with rfl|a
  . exact⟨e,by simp,f,g⟩
  . obtain⟨d,k,h⟩:=S4.mem i a;exact⟨d,by simp[k],h⟩
section each
variable {α:Type} {R R':List Value->α->Prop}
def G2.mono (h:∀c x,R c x->R' c x):∀ {l:List α} {cs:List Value},G2 R cs l->G2 R' cs l
 | [],_,a=>a
 | _:: _,_,⟨c1,a,e,b,d⟩=>⟨c1,a,e,h _ _ b,G2.mono h d⟩
def G2.append:∀ {l a:List α} {cs cs':List Value},G2 R cs l->G2 R cs' a->G2 R (cs++cs') (l++a)
 | [],_,cs,cs',h,b=>by cases h;simpa using b
 | _:: _,_,_,cs',⟨c1,b,e,d,f⟩,c=>⟨c1,b++cs',by simp[e],d,G2.append f c⟩
def G2.length {s:Nat} (a:∀c x,R c x->c.length=s):∀ {l:List α} {cs:List Value},G2 R cs l->cs.length=l.length*s
 | [],_,h=>by cases h;simp
 | _::l,_,⟨c1,f,e,b,d⟩=>by
  have:=G2.length a d;rw[e,rR,a _ _ b,this,rF,uO];omega
def G2.get {s:Nat} (f:∀c x,R c x->c.length=s):∀ {l:List α} {cs:List Value} {i:Nat} {x:α},G2 R cs l->l[i]? =some x->R ((cs.drop (i*s)).take s) x
 | [],_,_,_,_,a=>by simp at a
 |y::l,_,i,x,⟨c1,h,e,b,g⟩,a=>by
  have d:=f _ _ b;cases i with
  |zero=>
   simp at a;subst a;rw[e,xP,tZ,g0i d];exact b
  |succ i=>
   simp at a;have:=G2.get f g a;rw[e,uO,vY, <-vV,zF d];exact this
def G2.set {s:Nat} (g:∀c x,R c x->c.length=s):∀ {l:List α} {cs:List Value} {i:Nat} {x:α} {c:List Value},G2 R cs l->R c x->i<l.length->G2 R (cs.take (i*s)++c++cs.drop (i*s+s)) (l.set i x)
 | [],_,_,_,_,_,_,a=>by simp at a
 |y::l,_,i,x,c,⟨c1,h,e,b,d⟩,f,k=>by
  have a:=g _ _ b;cases i with
  |zero=>
   refine⟨c,h, ?_,f,d⟩;rw[e,xP,sB,g0z,wH,zF a]
  |succ i=>
   have n:i<l.length:=by simpa using k
   refine⟨c1,_, ?_,b,G2.set g d f n⟩;have j:(i+1)*s=s+i*s:=by rw[uO,vY]
   rw[e,j,g0a,qR (by omega),a,g1r,g4k,sG (by omega),a];simp[show s+i*s+s-s=i*s+s from by omega]
def G2.take {s:Nat} (b:∀c x,R c x->c.length=s):∀ {l:List α} {cs:List Value} (n:Nat),G2 R cs l->G2 R (cs.take (n*s)) (l.take n)
 | [],_,n,h=>by cases h;simp;rfl
 | _::l,_,n,⟨c1,g,e,a,d⟩=>by
  have f:=b _ _ a;cases n with
  |zero=>simp;rfl
  |succ n=>
   refine⟨c1,_, ?_,a,G2.take b n d⟩;rw[e,show(n+1)*s=s+n*s from by rw[uO,vY],g0a,qR (by omega),f,g1r]
def G2.drop {s:Nat} (d:∀c x,R c x->c.length=s):∀ {l:List α} {cs:List Value} (n:Nat),G2 R cs l->G2 R (cs.drop (n*s)) (l.drop n)
 | [],_,n,h=>by cases h;simp;rfl
 | _::l,_,n,⟨c1,f,e,a,b⟩=>by
  have g:=d _ _ a;cases n with
  |zero=>simp;exact⟨c1,f,e,a,b⟩
  |succ n=>
   have:=G2.drop d n b;rw[e,show(n+1)*s=s+n*s from by rw[uO,vY], <-vV,zF g];exact this
end each
def C7.length:∀ {t:Ty} {w:World} {Z:Nat->Prop} {cs:List Value} {x:t.den},C7 t w Z cs x->cs.length=t.size
 | .int _,_,_,_,_,h=>by rw[h.1];rfl
 | .bool,_,_,_,_,h=>by rw[show _= _ from h];rfl
 | .str,_,_,_,_,h=>by rw[show _= _ from h];rfl
 | .unit,_,_,_,_,h=>by rw[show _= _ from h];rfl
 | .pair c d,_,_,_,_,⟨c1,f,e,a,b⟩=>by rw[e,rR,C7.length a,C7.length b];rfl
 | .sl _,_,_,_,_,⟨_,_,e,_⟩=>by rw[e];rfl
 | .ptr _,_,_,_,_,⟨_,_,_,e,_⟩=>by rw[e];rfl
 | .mp _ _ _ _,_,_,_,_,h=>by
  rcases h with⟨e,_⟩ | ⟨_,_,_,e,_⟩<;>rw[e]<;>rfl
def N2 (Z:Nat->Prop) (w w':World):Prop:=∀b,Z b->w'.heap[b]? =w.heap[b]?
def Xn {Z:Nat->Prop} {w w':World} {b o:Nat} {a:List Value} (h:J2 w ⟨b,o,none⟩ a) (c:Z b) (d:N2 Z w w'):J2 w' ⟨b,o,none⟩ a:=fun j v a=>by
 have:=h j v a;rw[K6]at this⊢;rw[<-this];exact World.cell?_of_block (d b c)
def C7.mono:∀ {t:Ty} {w w':World} {Z Z':Nat->Prop} {cs:List Value} {x:t.den},(∀b,Z b->Z' b)->N2 Z w w'->C7 t w Z cs x->C7 t w' Z' cs x
 | .int _,_,_,_,_,_,_,_,_,h=>h
 | .bool,_,_,_,_,_,_,_,_,h=>h
 | .str,_,_,_,_,_,_,_,_,h=>h
 | .unit,_,_,_,_,_,_,_,_,h=>h
 | .pair h b,_,_,_,_,_,_,c,a,⟨c1,d,e,f,g⟩=>⟨c1,d,e,C7.mono c a f,C7.mono c a g⟩
 | .sl t,_,_,_,_,_,_,d,c,⟨f,g,e,j,n,o,i⟩=>⟨f,g,e,j,n,o,i.imp id fun⟨b,r,h,ha,a,k,l⟩=>⟨b,r,h,ha,d b a,Xn k a c,l.mono fun _ _=>C7.mono d c⟩⟩
 | .ptr t,_,_,_,_,_,_,d,c,⟨b,o,f,e,a,g,h⟩=>⟨b,o,f,e,d b a,Xn g a c,C7.mono d c h⟩
 | .mp d f g i,_,_,_,_,_,_,c,a,h=>h.imp id fun⟨b,es,cl,e,d,hh,g,f⟩=>⟨b,es,cl,e,c b d,by rw[a b d];exact hh,g,f.mono (fun _ _ h=>h.mono fun _ _=>C7.mono c a) (fun _ _ h=>h.mono fun _ _=>C7.mono c a)⟩
def T3.wf' {t:Ty} {R:List Value->t.den->Prop} (b:∀cs x,R cs x->t.wf x):∀ {a:Bool} {v:Value} {x:t.den},T3 R a v x->t.wf x
 |true,_,_,⟨_,_,h⟩=>b _ _ h
 |false,_,_,h=>b _ _ h
def C7.wf:∀ {t:Ty} {w:World} {Z:Nat->Prop} {cs:List Value} {x:t.den},C7 t w Z cs x->t.wf x
 | .int _,_,_,_,_,h=>h.2
 | .bool,_,_,_,_,_=>trivial
 | .str,_,_,_,_,_=>trivial
 | .unit,_,_,_,_,_=>trivial
 | .pair c d,_,_,_,_,⟨c1,f,e,a,b⟩=>⟨C7.wf a,C7.wf b⟩
 | .sl t,_,_,_,o,⟨g,k,e,n,d,_,h⟩=>⟨by simp only[maxLen]at d;omega,by
  rcases h with h| ⟨j,r,l,_,_,_,b⟩
  . intro x a;rw[h]at a;cases a
  . intro x a;obtain⟨i,c,f⟩:=g0n a;exact C7.wf (t:=t) (G2.get (R:=C7 t _ _) (s:=t.size) (fun _ _ h=>C7.length h) b (i:=i) (by rw[qP c,f]))⟩
 | .ptr t,_,_,_,_,⟨b,o,c,e,d,f,a⟩=>C7.wf (t:=t) a
 | .mp o r v y,_,_,_,u,h=>by
  rcases h with⟨_,e⟩ | ⟨f,j,g,e,k,l,n,d⟩
  . intro x a;rw[e]at a;cases a
  . intro x a;obtain⟨m,_,b,c⟩:=d.mem a;exact⟨T3.wf' (fun _ _=>C7.wf) b,T3.wf' (fun _ _=>C7.wf) c⟩
def C7.oneCell:∀ {t:Ty} {w:World} {Z:Nat->Prop} {cs:List Value} {x:t.den},C7 t w Z cs x->∀u∈cs,u.oneCell'=true
 | .int _,_,_,_,_,h=>by rw[h.1];exact Kv rfl Jz
 | .bool,_,_,_,_,h=>by rw[show _= _ from h];exact Kv rfl Jz
 | .str,_,_,_,_,h=>by rw[show _= _ from h];exact Kv rfl Jz
 | .unit,_,_,_,_,h=>by rw[show _= _ from h];exact Jz
 | .pair a d,_,_,_,_,⟨c1,f,e,b,c⟩=>by
  rw[e];intro u a;rcases qZ.1 a with a|a
  . exact C7.oneCell b u a
  . exact C7.oneCell c u a
 | .sl _,_,_,_,_,⟨_,_,e,_⟩=>by rw[e];exact Kv rfl Jz
 | .ptr _,_,_,_,_,⟨_,_,_,e,_⟩=>by rw[e];exact Kv rfl Jz
 | .mp _ _ _ _,_,_,_,_,h=>by
  rcases h with⟨e,_⟩ | ⟨_,_,_,e,_⟩<;>rw[e]<;>exact Kv rfl Jz
def G2.oneCell {t:Ty} {w:World} {Z:Nat->Prop} :∀ {l:List t.den} {cs:List Value},G2 (C7 t w Z) cs l->∀u∈cs,u.oneCell'=true
 | [],_,h=>by rw[show _= _ from h];exact Jz
 | _:: _,_,⟨c1,a,e,b,c⟩=>by
  rw[e];intro u a;rcases qZ.1 a with a|a
  . exact C7.oneCell b u a
  . exact G2.oneCell c u a
def S7 {w:World} {b o:Nat} {c:List Value} (h:J2 w ⟨b,o,none⟩ c) (i n:Nat):J2 w ⟨b,o+i,none⟩ ((c.drop i).take n):=fun j v a=>by
 rw[K6];rw[wN]at a;split at a
 . rw[wM]at a;have:=h (i+j) v a;rw[K6]at this;rw[uG];exact this
 . cases a
@[reducible] def Bl:List (Bool×Ty)->Type
 | []=>Unit
 | (_,t)::r=>t.den×Bl r
inductive C where
 |val (t:Ty) (x:t.den)
 |row (k:Nat)
 |box (k off:Nat)
 |elp (k sz i off:Nat)
 |win (k sz:Nat) (lo hi:Int)
 |pf (t:Ty) (x:t.den) (off:Nat)
 |mp (k:Nat)
 |fn (f:FuncId) (caps:List Nat)
 |fv (P:Program) (as:List (Bool×Ty)) (ra:Bool) (r:Ty) (ok:Bl as->Prop) (φ:Bl as->r.den)
 |raw (v:Value)
 |dead
structure SV where
 agg:Bool
 cs:List C
inductive DV where
 |one (v:SV)
 |tup (vs:List SV)
 |cnd (t:Tmp) (b:Bool) (v:SV)
 |dead
inductive LC where
 |none
 |box (ty:TypeId) (cs:List C)
 |row (t:Ty) (e:TypeId) (l:List t.den)
 |map (ka:Bool) (kt:Ty) (va:Bool) (vt:Ty) (es:List (kt.den×vt.den))
 |rows (t:Ty) (e e':TypeId) (ls:List (List t.den)) (al:List (Nat×Nat)) (ho:Option Nat)
 |al (k:Nat)
 |sbox (q:Nat) (t:Ty) (x:t.den)
 |mapE (ka:Bool) (kt:Ty) (va:Bool) (vt:Ty) (es:List (kt.den×vt.den)) (j q:Nat)
 |iter (ka:Bool) (kt:Ty) (va:Bool) (vt:Ty) (left:List (kt.den×vt.den)) (cur:Option (kt.den×vt.den))
 |nest (t:Ty) (e e':TypeId) (ls:List t.den) (bo:List (Nat×Nat)) (dd:List Nat)
 |itM (ka:Bool) (kt:Ty) (va:Bool) (vt:Ty) (es left:List (kt.den×vt.den)) (cur:Option (kt.den×vt.den)) (q:Nat)
structure St where
 sl:List (Nat×Nat×DV)
 lc:List (Nat×Nat×LC)
 nx:Nat
 ct:Nat
 nm:Nat:=0
 fr:List (List (Nat×Nat×DV)):= []
def JC:Option Prop->Prop
 |none=>True
 |some a=>a
def ZV (φ:Option Prop) (p:Prop):Prop:=match φ with
 |none=>p
 |some φ=>φ/\p
def E8 {φ:Option Prop} {p:Prop} :ZV φ p↔JC φ/\p:=by cases φ<;>simp[ZV,JC]
def B5d (c:Prop) (φ:Option Prop):Option Prop:=match φ with
 |none=>none
 |some φ=>some (c->φ)
def mE {c:Prop} {φ:Option Prop} :JC (B5d c φ)↔(c->JC φ):=by cases φ<;>simp[B5d,JC]
def I5 {α:Type} (e:Bool) (x y:α):α:=bif e then x else y
def find {α:Type} (d:α) (s:Nat):List (Nat×α)->α
 | []=>d
 | (t,x)::l=>bif Nat.beq t s then x else find d s l
def St.eS (a:St) (s:Nat):Nat×DV:=find (0, .dead) s a.sl
def St.eL (a:St) (k:Nat):Nat×LC:=find (0, .none) k a.lc
def St.S (a:St) (s:Nat):DV:=(a.eS s).2
def St.L (a:St) (k:Nat):LC:=(a.eL k).2
def put {α:Type} (s:Nat) (x:α):List (Nat×α)->List (Nat×α)
 | []=> [(s,x)]
 | (t,y)::l=>bif Nat.beq t s then(t,x)::l else(t,y)::put s x l
def Xx {α:Type} (d:α) (s:Nat) (x:α) (q:Nat):∀l:List (Nat×α),find d q (put s x l)=if q=s then x else find d q l
 | []=>by
  simp only[put,find];by_cases h:q=s
  . simp[h]
  . simp[h,E6 (Ne.symm h)]
 | (t,y)::l=>by
  have f:=Xx d s x q l;simp only[put];cases a:Nat.beq t s with
  |true=>
   have b:=qD a;subst b;simp only[qW,find];by_cases h:q=t
   . simp[h]
   . simp[h,E6 (Ne.symm h)]
  |false=>
   have g:t≠s:=vF a;simp only[rJ,find,f];cases c:Nat.beq t q with
   |true=>
    have b:=qD c;subst b;simp[g]
   |false=>simp
def DU (t:Nat):DV->Bool
 | .cnd a _ _=>Nat.beq a t
 | _=>false
def unc (t g:Nat):Nat×DV->Nat×DV
 | (n, .cnd a b v)=>bif Nat.beq a t then(g, .dead)else(n, .cnd a b v)
 | (n, .one v)=>(n, .one v)
 | (n, .tup v)=>(n, .tup v)
 | (n, .dead)=>(n, .dead)
def C1b (t g:Nat) (d:Nat×DV):unc t g d=bif DU t d.2 then(g, .dead)else d:=by
 obtain⟨n,d⟩:=d;cases d<;>rfl
def oM (t g:Nat):List (Nat×Nat×DV)->List (Nat×Nat×DV)
 | []=> []
 | (s,d)::l=>(s,unc t g d)::oM t g l
def UX (t g q:Nat):∀l:List (Nat×Nat×DV),find (0, .dead) q (oM t g l)=bif DU t (find (0, .dead) q l).2 then(g, .dead)else find (0, .dead) q l
 | []=>by simp[oM,find,DU]
 | (s,d)::l=>by
  have a:=UX t g q l;simp only[oM,find,C1b];cases Nat.beq s q<;>simp[a]
def St.setS (a:St) (d:Nat) (x:DV):St:=⟨put d (a.ct+1,x) (oM d (a.ct+1) a.sl),a.lc,a.nx,a.ct+1,a.nm,a.fr⟩
def St.setL (a:St) (k:Nat) (x:LC):St:=⟨a.sl,put k (a.ct+1,x) a.lc,a.nx,a.ct+1,a.nm,a.fr⟩
def St.newL (a:St) (x:LC):St:=⟨a.sl,put a.nx (a.ct+1,x) a.lc,a.nx+1,a.ct+1,a.nm,a.fr⟩
def St.eS_setS (a:St) (d s:Nat) (x:DV):(a.setS d x).eS s=if s=d then(a.ct+1,x)else bif DU d (a.S s)then(a.ct+1, .dead)else a.eS s:=by
 unfold St.eS St.setS;simp only;rw[Xx,UX];rfl
def St.S_setS (a:St) (d s:Nat) (x:DV):(a.setS d x).S s=if s=d then x else bif DU d (a.S s)then .dead else a.S s:=by
 show((a.setS d x).eS s).2= _;rw[St.eS_setS];split
 . rfl
 . cases DU d (a.S s)<;>rfl
def St.eL_setL (a:St) (k q:Nat) (x:LC):(a.setL k x).eL q=if q=k then(a.ct+1,x)else a.eL q:=Xx ..
def St.L_setL (a:St) (k q:Nat) (x:LC):(a.setL k x).L q=if q=k then x else a.L q:=by
 show((a.setL k x).eL q).2= _;rw[St.eL_setL];split<;>rfl
def St.eL_newL (a:St) (q:Nat) (x:LC):(a.newL x).eL q=if q=a.nx then(a.ct+1,x)else a.eL q:=Xx ..
def St.L_newL (a:St) (q:Nat) (x:LC):(a.newL x).L q=if q=a.nx then x else a.L q:=by
 show((a.newL x).eL q).2= _;rw[St.eL_newL];split<;>rfl
def O3 (n:Nat):List (Nat×Nat×DV)->List (Nat×Nat×DV)->Prop
 | [],[]=>True
 | (s,e)::l,(c,a)::b=>c=s/\(a.1<=n->a=e)/\O3 n l b
 | _,_=>False
def Z8 (n:Nat):List (List (Nat×Nat×DV))->List (List (Nat×Nat×DV))->Prop
 | [],[]=>True
 |f::l,a::b=>O3 n f a/\Z8 n l b
 | _,_=>False
def O3.refl (n:Nat):∀l,O3 n l l
 | []=>trivial
 | (_,_)::l=>⟨rfl,fun _=>rfl,O3.refl n l⟩
def Z8.refl (n:Nat):∀l,Z8 n l l
 | []=>trivial
 |f::l=>⟨O3.refl n f,Z8.refl n l⟩
def O3.trans {n m:Nat} (f:n<=m):∀ {a b c},O3 n a b->O3 m b c->O3 n a c
 | [],[],[],_,_=>trivial
 | (_,_):: _,(_,_):: _,(_,_):: _,⟨g,i,k⟩,⟨h,j,l⟩=>⟨h.trans g,fun d=>by
  have:=j (qY d f);rw[this]at d⊢;exact i d,O3.trans f k l⟩
 | [],[],_:: _,_,h=>h.elim
 | [],_:: _,_,h,_=>h.elim
 | _:: _,[],_,h,_=>h.elim
 | (_,_):: _,(_,_):: _,[],_,h=>h.elim
def Z8.trans {n m:Nat} (d:n<=m):∀ {a b c},Z8 n a b->Z8 m b c->Z8 n a c
 | [],[],[],_,_=>trivial
 | _:: _,_:: _,_:: _,h,k=>⟨h.1.trans d k.1,Z8.trans d h.2 k.2⟩
 | [],[],_:: _,_,h=>h.elim
 | [],_:: _,_,h,_=>h.elim
 | _:: _,[],_,h,_=>h.elim
 | _:: _,_:: _,[],_,h=>h.elim
def O3.le {n m:Nat} (c:n<=m) {a b} (h:O3 m a b):O3 n a b:=(O3.refl n a).trans c h
def Z8.le {n m:Nat} (c:n<=m) {a b} (h:Z8 m a b):Z8 n a b:=(Z8.refl n a).trans c h
def O3.find {n:Nat} {d:Nat×DV} (s:Nat):∀ {a b},O3 n a b->(Vc.find d s b).1<=n->Vc.find d s b=Vc.find d s a
 | [],[],_,_=>rfl
 | (t,e)::a,(j,k)::b,⟨f,g,i⟩,h=>by
  subst f;simp only[Vc.find]at h⊢;cases c:Nat.beq j s with
  |true=>rw[c]at h;exact g h
  |false=>rw[c]at h;exact O3.find s i h
 | [],_:: _,h,_=>h.elim
 | _:: _,[],h,_=>h.elim
def C0a (n:Nat) (a:List (List (Nat×Nat×DV))):Bool:=a.all fun f=>f.all fun e=>Nat.ble e.2.1 n
def O3.old {n:Nat} :∀ {a b},O3 n a b->(b.all fun e=>Nat.ble e.2.1 n)=true->b=a
 | [],[],_,_=>rfl
 | (t,e)::a,(i,g)::b,⟨c,d,f⟩,h=>by
  simp only[tI,qC]at h;rw[c,d (qQ h.1),O3.old f h.2]
 | [],_:: _,h,_=>h.elim
 | _:: _,[],h,_=>h.elim
def Z8.old {n:Nat} :∀ {a b},Z8 n a b->C0a n b=true->b=a
 | [],[],_,_=>rfl
 |f::a,g::b,⟨c,d⟩,h=>by
  simp only[C0a,tI,qC]at h;rw[c.old h.1,Z8.old d h.2]
 | [],_:: _,h,_=>h.elim
 | _:: _,[],h,_=>h.elim
structure C4 (st st':St):Prop where
 ct:st.ct<=st'.ct
 s:∀s,(st'.eS s).1≠0->(st'.eS s).1<=st.ct->st'.eS s=st.eS s
 l:∀k,(st'.eL k).1≠0->(st'.eL k).1<=st.ct->st'.eL k=st.eL k
 f:Z8 st.ct st.fr st'.fr
def C4.refl (a:St):C4 a a:=⟨qT _,fun _ _ _=>rfl,fun _ _ _=>rfl,Z8.refl _ _⟩
def Bf (a:Bool) (t:Ty) (w:World) (Z:Nat->Prop) (v:Value) (x:t.den):Prop:=T3 (C7 t w Z) a v x
def TF (w:World) (Z:Nat->Prop):(as:List (Bool×Ty))->List Value->Bl as->Prop
 | [],a,_=>a= []
 | (b,t)::r,c,x=>∃v a,c=v::a/\Bf b t w Z v x.1/\TF w Z r a x.2
def A4s (P:Program) (w:World) (Z:Nat->Prop) (v:Value) (as:List (Bool×Ty)) (h:Bool) (r:Ty) (c:Bl as->Prop) (φ:Bl as->r.den):Prop:=
 ∃g,∃d:List Value,v= .func (.func g) #[] d.toArray/\Fl P g=true/\∀(a:World) (Z':Nat->Prop) (f:List Value) (x:Bl as),N2 Z w a->(∀b,Z b->b<a.heap.size)->(∀b,Z' b->b<a.heap.size)->TF a Z' as f x->c x->
  Gw.pA P g (f++d) a fun u c=>Q7 a c/\∃Zn:Nat->Prop,(∀b,Zn b->(a.heap.size<=b/\b<c.heap.size)\/Z b\/Z' b)/\Bf h r c Zn u (φ x)
def RC (w:World) (Z:Nat->Prop) (B:Nat->Value):C->Value->Prop
 | .val t x,v=>C7 t w Z [v] x
 | .row k,v=>v=B k
 | .box k a,v=>∃b,B k= .pointer (some ⟨b,0,none⟩)/\v= .pointer (some ⟨b,a,none⟩)
 | .elp k sz i c,v=>∃b n a,B k= .slice (some ⟨b,0,none⟩) n a/\i<n/\v= .pointer (some ⟨b,i*sz+c,none⟩)
 | .win k sz b d,v=>∃c n a,B k= .slice c n a/\(∀x,c=some x->∃g,x=⟨g,0,none⟩)/\(c=none->a=0)/\0<=b/\b<=d/\d<=(n:Int)/\n<=a/\a<=maxLen/\v= .slice (if a=b.toNat then c else c.map (·.add (b.toNat*sz))) (d.toNat-b.toNat) (a-b.toNat)
 | .pf t x c,v=>∃b o a,v= .pointer (some ⟨b,o+c,none⟩)/\Z b/\J2 w ⟨b,o,none⟩ a/\C7 t w Z a x
 | .mp k,v=>v=B k
 | .fn f a,v=>v= .func (.func f) #[] (a.map B).toArray
 | .fv P as b r a c,v=>A4s P w Z v as b r a c
 | .raw a,v=>v=a/\a.oneCell'=true
 | .dead,_=>True
def Co (w:World) (Z:Nat->Prop) (B:Nat->Value):List C->List Value->Prop
 | [],a=>a= []
 |c::b,d=>∃v a,d=v::a/\RC w Z B c v/\Co w Z B b a
def RS (w:World) (Z:Nat->Prop) (B:Nat->Value):SV->Value->Prop
 | ⟨true,b⟩,v=>∃a:List Value,v= .agg a.toArray/\Co w Z B b a
 | ⟨false,a⟩,v=>Co w Z B a [v]
def Pm (w:World) (Z:Nat->Prop) (B:Nat->Value):List SV->List Value->Prop
 | [],a=>a= []
 |c::b,d=>∃v a,d=v::a/\RS w Z B c v/\Pm w Z B b a
def RD (w:World) (Z:Nat->Prop) (B:Nat->Value) (E:H6):DV->Value->Prop
 | .one s,v=>RS w Z B s v
 | .tup b,v=>∃a:List Value,v= .tuple a.toArray/\Pm w Z B b a
 | .cnd t b s,v=>(E t= .bool b/\RS w Z B s v)\/(E t≠ .bool b/\v=undef)
 | .dead,_=>True
def Pj (w:World) (Z:Nat->Prop) (c:Bool) (a:Ty) (d:Bool) (b:Ty) (es:List MapEntry) (l:List (a.den×b.den)):Prop:=S4 (T3 (C7 a w Z) c) (T3 (C7 b w Z) d) es l
def root:Value->Option Nat
 | .pointer (some a)=>some a.block
 | .slice (some a) _ _=>some a.block
 | .map r=>r
 | _=>none
def De:Option Nat->Nat->Bool
 |none,_=>false
 |some j,i=>Nat.beq j i
def Cs (a:List (Nat×Nat)) (dd:List Nat) (i:Nat):Bool:=(a.any fun p=>Nat.beq p.1 i) ||dd.any fun j=>Nat.beq j i
def R7 (w:World) (v:Value) (H:Nat->Bool) (b:Nat):Prop:=root v=some b\/∃g n c a e i x,v= .slice (some ⟨g,0,none⟩) n c/\w.heap[g]? =some (.cells a e (0,0))/\i<n/\H i=false/\a[i]? =some x/\root x=some b
def B4 (w:World) (v:Value):LC->Nat->Prop
 | .none,_=>False
 | .box _ _,b=>root v=some b
 | .row _ _ _,b=>root v=some b
 | .map _ _ _ _ _,b=>root v=some b
 | .iter _ _ _ _ _ _,b=>root v=some b
 | .mapE _ _ _ _ _ _ _,b=>root v=some b
 | .al _,_=>False
 | .sbox _ _ _,_=>False
 | .nest _ _ _ _ a c,b=>R7 w v (Cs a c) b
 | .itM _ _ _ _ _ _ _ _,b=>root v=some b\/∃r c s a,v= .pointer (some ⟨r,0,none⟩)/\w.heap[r]? =some (.mapIter (some b) c s a)
 | .rows _ _ _ _ _ d,b=>root v=some b\/∃g n c a e i x,v= .slice (some ⟨g,0,none⟩) n c/\w.heap[g]? =some (.cells a e (0,0))/\i<n/\De d i=false/\a[i]? =some x/\root x=some b
def AtV (xs:List Value) (i:Nat) (v:Value):Prop:=xs[i]? =some v\/(xs.length<=i/\v= .slice none 0 0)
def Inn (w:World) (Z:Nat->Prop) (B:Nat->Value) (t:Ty) (e':TypeId) (ls:List (List t.den)) (al:List (Nat×Nat)) (a:Option Nat) (xs:List Value):Prop:=
 (∀p∈al,AtV xs p.1 (B p.2))/\(∀i l x,De a i=false->ls[i]? =some l->xs[i]? =some x->∃b,w.ownsRow 0 e' t.size x l.length b/\G2 (C7 t w Z) b l)/\
  ∀i j x y b,i≠j->De a i=false->De a j=false->xs[i]? =some x->xs[j]? =some y->root x=some b->root y≠some b
def ItR (w:World) (Z:Nat->Prop) (f:Bool) (c:Ty) (g:Bool) (d:Ty) (r:Nat) (left:List (c.den×d.den)) (cur:Option (c.den×d.den)):Prop:=
 (w.heap[r]? =some (.mapIter none 0 #[] 0)/\left= []/\cur=none)\/
 ∃(m:Nat) (seen:Array Nat) (b:Array MapEntry) (a:Nat),w.heap[r]? =some (.mapIter (some m) a seen a)/\Z m/\w.heap[m]? =some (.map b a)/\MOk b a/\Pj w Z f c g d (leftOf b seen).toList left/\
  ∀x,cur=some x->∃e∈b.toList,(∃a:Array Nat,seen=a.push e.born)/\T3 (C7 c w Z) f e.key x.1/\T3 (C7 d w Z) g e.val x.2
def PV:(t:Ty)->TypeId->World->(Nat->Prop)->Value->t.den->Prop
 | .sl t,b,w,Z,v,l=>∃a:List Value,w.ownsRow 0 b t.size v (List.length l) a/\G2 (C7 t w Z) a l
 | .mp f g h i,_,w,Z,v,d=>∃b a c,v= .map (some b)/\w.heap[b]? =some (.map a c)/\MOk a c/\Pj w Z f g h i a.toList d
 | _,_,_,_,_,_=>False
structure jJ (w:World) (Z:Nat->Prop) (B:Nat->Value) (t:Ty) (e e':TypeId) (ls:List t.den) (bo:List (Nat×Nat)) (dd:List Nat) (v:Value) (xs:List Value):Prop where
 own:w.ownsRow 0 e 1 v ls.length xs
 out:∀p∈bo,xs[p.1]? =some (B p.2)
 elt:∀i l x,Cs bo dd i=false->ls[i]? =some l->xs[i]? =some x->PV t e' w Z x l
 dis:∀i j x y b,i≠j->Cs bo dd i=false->Cs bo dd j=false->xs[i]? =some x->xs[j]? =some y->root x=some b->root y≠some b
 top:∀i x b,Cs bo dd i=false->xs[i]? =some x->root x=some b->root v≠some b
structure C1l (w:World) (Z:Nat->Prop) (ka:Bool) (kt:Ty) (va:Bool) (vt:Ty) (es left:List (kt.den×vt.den)) (cur:Option (kt.den×vt.den)) (r m:Nat) (seen:Array Nat) (ents:Array MapEntry) (clock:Nat):Prop where
 it:w.heap[r]? =some (.mapIter (some m) clock seen clock)
 mp:w.heap[m]? =some (.map ents clock)
 ok:MOk ents clock
 all:Pj w Z ka kt va vt ents.toList es
 rest:Pj w Z ka kt va vt (leftOf ents seen).toList left
 cur:∀x,cur=some x->∃e∈ents.toList,(∃seen':Array Nat,seen=seen'.push e.born)/\T3 (C7 kt w Z) ka e.key x.1/\T3 (C7 vt w Z) va e.val x.2
def RL (U:Nat->Prop) (w:World) (Z:Nat->Prop) (B:Nat->Value) (k:Nat):LC->Prop
 | .none=>True
 | .box d c=>∃b a,B k= .pointer (some ⟨b,0,none⟩)/\U b/\¬Z b/\LK w b a d/\Co w Z B c a.toList
 | .row t e l=>∃a,w.ownsRow 0 e t.size (B k) l.length a/\G2 (C7 t w Z) a l/\∀b,(B k).ownBlock=some b->U b/\¬Z b
 | .map f g h i d=>∃b a c,B k= .map (some b)/\U b/\¬Z b/\w.heap[b]? =some (.map a c)/\MOk a c/\Pj w Z f g h i a.toList d
 | .al _=>True
 | .sbox q t x=>q=k/\C7 (.ptr t) w Z [B q] x/\∃b,B q= .pointer (some ⟨b,0,none⟩)
 | .mapE f g h i d j q=>∃b a c,B k= .map (some b)/\U b/\¬Z b/\w.heap[b]? =some (.map a c)/\(MOk a c/\Pj w Z f g h i a.toList d)/\∃e:MapEntry,a.toList[j]? =some e/\B q= .int .i64 e.born
 | .iter b c d f left a=>∃r,B k= .pointer (some ⟨r,0,none⟩)/\U r/\¬Z r/\ItR w Z b c d f r left a
 | .nest t e d f a c=>∃g,jJ w Z B t e d f a c (B k) g/\∀b,R7 w (B k) (Cs a c) b->U b/\¬Z b/\b<w.heap.size
 | .itM f g h i d left b q=>∃r m seen c a,B k= .pointer (some ⟨r,0,none⟩)/\B q= .map (some m)/\C1l w Z f g h i d left b r m seen c a/\U r/\¬Z r/\U m/\¬Z m
 | .rows t e f c al a=>∃d,w.ownsRow 0 e 1 (B k) c.length d/\Inn w Z B t f c al a d/\(∀i x b,De a i=false->d[i]? =some x->root x=some b->root (B k)≠some b)/\∀b,B4 w (B k) (.rows t e f c al a) b->U b/\¬Z b/\b<w.heap.size
def live:LC->Prop
 | .none=>False
 | .al _=>False
 | .sbox _ _ _=>False
 | _=>True
def Cb (n:Nat):C->Prop
 | .row k=>k<n
 | .box k _=>k<n
 | .elp k _ _ _=>k<n
 | .win k _ _ _=>k<n
 | .mp k=>k<n
 | .fn _ a=>∀k∈a,k<n
 | _=>True
def La (n:Nat) (s:SV):Prop:=∀c∈s.cs,Cb n c
def JS (n:Nat):DV->Prop
 | .one s=>La n s
 | .tup a=>∀s∈a,La n s
 | .cnd _ _ s=>La n s
 | .dead=>True
def CU (n:Nat):LC->Prop
 | .box _ a=>∀c∈a,Cb n c
 | .rows _ _ _ _ al _=>∀p∈al,p.2<n
 | .mapE _ _ _ _ _ _ q=>q<n
 | .sbox q _ _=>q<n
 | .nest _ _ _ _ a _=>∀p∈a,p.2<n
 | .itM _ _ _ _ _ _ _ q=>q<n
 | _=>True
structure Zn where
 z:Nat->Prop
 m:Nat->Prop
 n:Nat
 v:Nat->Value
 k0:Nat:=0
 b0:Nat:=0
 f:Nat->Nat->Prop
 fm:∀k b,f k b->m b
 es:List H6:= []
def RF (w:World) (Z:Nat->Prop) (B:Nat->Value):List H6->List (List (Nat×Nat×DV))->Prop
 | [],[]=>True
 |E::a,f::b=>(∀s,RD w Z B E (find (0, .dead) s f).2 (E s))/\RF w Z B a b
 | _,_=>False
def jK (n:Nat) (a:List (List (Nat×Nat×DV))):Prop:=∀f∈a,∀s,JS n (find (0, .dead) s f).2
structure Hg (m:Nat->Prop) (w w':World):Prop where
 os:w'.os=w.os
 tape:w'.tape=w.tape
 output:w'.output=w.output
 size:w.heap.size<=w'.heap.size
 block:∀k,k<w.heap.size->¬m k->w'.heap[k]? =w.heap[k]?
 drw:True
def Hg.of {m:Nat->Prop} {w w':World} (h:Q7 w w'):Hg m w w':=⟨h.os,h.tape,h.output,h.size,fun k a _=>h.block k a,h.drw⟩
def Hg.ext {m:Nat->Prop} {w w':World} (h:Hg m w w') (c:∀b,¬m b):Q7 w w':=⟨⟨h.os,h.tape,h.output,h.size,fun k a=>h.block k a (c k)⟩,h.drw⟩
def Hg.trans {m:Nat->Prop} {a b c:World} (h:Hg m a b) (k:Q7 b c):Hg m a c:=⟨k.os.trans h.os,k.tape.trans h.tape,k.output.trans h.output,qY h.size k.size,fun i d f=>(k.block i (rD d h.size)).trans (h.block i d f),trivial⟩
def Hg.chg {m:Nat->Prop} {d w w':World} {b:Nat} (h:Hg m d w) (a:TD b w w') (c:d.heap.size<=b\/m b):Hg m d w':=
 ⟨a.1.trans h.os,a.2.1.trans h.tape,a.2.2.1.1.trans h.output,by rw[a.2.2.2.1];exact h.size,fun k f g=>(a.2.2.2.2 k (fun e=>by subst e;rcases c with c|c;exact absurd f (by omega);exact g c)).trans (h.block k f g),trivial⟩
def Hg.grown {m:Nat->Prop} {d w w':World} {row:Option Nat} (h:Hg m d w) (a:w.grownBy w' row) (f:w.drawn<=w'.drawn) (c:∀b,row=some b->d.heap.size<=b\/m b):Hg m d w':=
 ⟨a.os.trans h.os,a.tape.trans h.tape,a.output.trans h.output,qY h.size a.size,fun k d f=>(a.block k (rD d h.size) (fun e=>by rcases c k e.symm with c|c;exact absurd d (by omega);exact f c)).trans (h.block k d f),trivial⟩
def up (a:Zn) (c:World) (k:Nat):Nat->Prop:=fun b=>(a.n<=k/\c.heap.size<=b)\/(k<a.n/\a.f k b)
def up.m {a:Zn} {c:World} {k b:Nat} (h:up a c k b):c.heap.size<=b\/a.m b:=h.imp And.right fun h=>a.fm k b h.2
structure C3 (za:Zn) (w0:World) (st:St) (E:H6) (w:World) (Z:Nat->Prop) (B:Nat->Value):Prop where
 ext:Hg za.m w0 w
 zlt:∀b,Z b->b<w.heap.size
 slots:∀s,RD w Z B E (st.S s) (E s)
 locs:∀k,RL (up za w0 k) w Z B k (st.L k)
 disj:∀k k' b,k≠k'->B4 w (B k) (st.L k) b->¬B4 w (B k') (st.L k') b
 refs:∀s,JS st.nx (st.S s)
 refl:∀k,CU st.nx (st.L k)
 fresh:∀k,st.nx<=k->st.L k= .none
 bone:∀k,(B k).oneCell'=true
 zin:∀b,Z b->za.z b\/w0.heap.size<=b
 nms:st.nm=za.n/\za.n<=st.nx
 bfix:∀k,k<za.n->B k=za.v k
 mrk:za.b0<=w.heap.size/\∀k b,za.k0<=k->B4 w (B k) (st.L k) b->za.b0<=b
 frs:RF w Z B za.es st.fr
 frf:jK st.nx st.fr
section mono
variable {w w':World} {Z Z':Nat->Prop} {B B':Nat->Value} {n:Nat}
def RC.mono (d:∀b,Z b->Z' b) (f:N2 Z w w') (a:∀k,k<n->B' k=B k):∀ {c:C} {v:Value},Cb n c->RC w Z B c v->RC w' Z' B' c v
 | .val _ _,_,_,h=>C7.mono d f h
 | .row k,_,g,h=>h.trans (a k g).symm
 | .box k i,_,g,⟨b,e,h⟩=>⟨b,(a k g).trans e,h⟩
 | .elp k sz j l,_,i,⟨b,m,g,e,h⟩=>⟨b,m,g,(a k i).trans e,h⟩
 | .win k sz o l,_,j,⟨g,m,h,e,i⟩=>⟨g,m,h,(a k j).trans e,i⟩
 | .pf t x l,_,_,⟨b,o,h,e,g,j,i⟩=>⟨b,o,h,e,d b g,Xn j g f,C7.mono d f i⟩
 | .mp k,_,g,h=>h.trans (a k g).symm
 | .fn j g,_,i,h=>by
  show _= _;rw[show _= _ from h];congr 2;exact g3o fun k g=>(a k (i k g)).symm
 | .fv P as j r i l,_,_,⟨g,a,e,s,h⟩=>⟨g,a,e,s,fun u Z2 t x i j l o r=>(h u Z2 t x (fun b a=>(i b (d b a)).trans (f b a)) (fun b a=>j b (d b a)) l o r).mono fun u g ⟨f,Zn,g2,g3⟩=>⟨f,Zn,fun b a=>(g2 b a).imp id (Or.imp (d b) id),g3⟩⟩
 | .raw _,_,_,h=>h
 | .dead,_,_,_=>trivial
def Co.mono (g:∀b,Z b->Z' b) (f:N2 Z w w') (a:∀k,k<n->B' k=B k):∀ {cs:List C} {vs:List Value},(∀c∈cs,Cb n c)->Co w Z B cs vs->Co w' Z' B' cs vs
 | [],_,_,h=>h
 |c::cs,_,d,⟨v,l,e,h,i⟩=>⟨v,l,e,RC.mono g f a (d c (by simp)) h,Co.mono g f a (fun c j=>d c (by simp[j])) i⟩
def RS.mono (d:∀b,Z b->Z' b) (c:N2 Z w w') (a:∀k,k<n->B' k=B k):∀ {s:SV} {v:Value},La n s->RS w Z B s v->RS w' Z' B' s v
 | ⟨true,cs⟩,_,f,⟨g,e,h⟩=>⟨g,e,Co.mono d c a f h⟩
 | ⟨false,cs⟩,_,f,h=>Co.mono (cs:=cs) d c a f h
def Pm.mono (g:∀b,Z b->Z' b) (f:N2 Z w w') (a:∀k,k<n->B' k=B k):∀ {cs:List SV} {vs:List Value},(∀c∈cs,La n c)->Pm w Z B cs vs->Pm w' Z' B' cs vs
 | [],_,_,h=>h
 |c::cs,_,d,⟨v,l,e,h,i⟩=>⟨v,l,e,RS.mono g f a (d c (by simp)) h,Pm.mono g f a (fun c j=>d c (by simp[j])) i⟩
def RD.mono {E:H6} (f:∀b,Z b->Z' b) (c:N2 Z w w') (a:∀k,k<n->B' k=B k):∀ {d:DV} {v:Value},JS n d->RD w Z B E d v->RD w' Z' B' E d v
 | .one _,_,g,h=>RS.mono f c a g h
 | .tup _,_,g,⟨i,e,h⟩=>⟨i,e,Pm.mono f c a g h⟩
 | .cnd _ _ _,_,i,h=>h.imp (fun⟨g,b⟩=>⟨g,RS.mono f c a i b⟩) id
 | .dead,_,_,_=>trivial
def RF.mono (f:∀b,Z b->Z' b) (d:N2 Z w w') (c:∀k,k<n->B' k=B k):∀ {es:List H6} {a:List (List (Nat×Nat×DV))},jK n a->RF w Z B es a->RF w' Z' B' es a
 | [],[],_,_=>trivial
 |E::es,g::h,a,⟨i,j⟩=>⟨fun s=>RD.mono f d c (a g (by simp) s) (i s),RF.mono f d c (fun h l=>a h (by simp[l])) j⟩
 | [],_:: _,_,h=>h.elim
 | _:: _,[],_,h=>h.elim
def Bf.mono {a:Bool} {t:Ty} {v:Value} {x:t.den} (d:∀b,Z b->Z' b) (c:N2 Z w w') (h:Bf a t w Z v x):Bf a t w' Z' v x:=T3.mono (fun _ _=>C7.mono d c) h
def TF.mono (c:∀b,Z b->Z' b) (a:N2 Z w w'):∀ {as:List (Bool×Ty)} {vs:List Value} {x:Bl as},TF w Z as vs x->TF w' Z' as vs x
 | [],_,_,h=>h
 | _:: _,_,_,⟨v,g,e,d,f⟩=>⟨v,g,e,d.mono c a,TF.mono c a f⟩
def Pj.mono {g i:Bool} {a c:Ty} (f:∀b,Z b->Z' b) (d:N2 Z w w') {l:List (a.den×c.den)} {es:List MapEntry} (h:Pj w Z g a i c es l):Pj w' Z' g a i c es l:=
 S4.mono (fun _ _ h=>h.mono fun _ _=>C7.mono f d) (fun _ _ h=>h.mono fun _ _=>C7.mono f d) h
def B4.live {v:Value} {l:LC} {b:Nat} (h:B4 w v l b):Vc.live l:=by cases l<;>first|exact h.elim|trivial
def B4.of {v:Value} {l:LC} {b:Nat} (a:Vc.live l) (h:Vc.root v=some b):B4 w v l b:=by
 cases l<;>first|exact a.elim|exact h|exact .inl h
def R7.iff {v:Value} {H:Nat->Bool} {b:Nat} (h:∀b,root v=some b->w'.heap[b]? =w.heap[b]?):R7 w' v H b↔R7 w v H b:=by
 refine g3l xS ⟨fun⟨g,n,cap,cur,e,i,x,hv,hg,r⟩=>⟨g,n,cap,cur,e,i,x,hv, ?_,r⟩,fun⟨g,n,cap,cur,e,i,x,hv,hg,r⟩=>⟨g,n,cap,cur,e,i,x,hv, ?_,r⟩⟩
 . rw[<-h g (by rw[hv];rfl)];exact hg
 . rw[h g (by rw[hv];rfl)];exact hg
def B4.iff {v:Value} {l:LC} {b:Nat} (h:∀b,B4 w v l b->w'.heap[b]? =w.heap[b]?):B4 w' v l b↔B4 w v l b:=by
 cases l with
 |rows t e d j al f=>
  refine g3l xS ⟨fun⟨g,n,cap,a,e,i,x,hv,hg,r⟩=>⟨g,n,cap,a,e,i,x,hv, ?_,r⟩,fun⟨g,n,cap,a,e,i,x,hv,hg,r⟩=>⟨g,n,cap,a,e,i,x,hv, ?_,r⟩⟩
  . rw[<-h g (.inl (by rw[hv];rfl))];exact hg
  . rw[h g (.inl (by rw[hv];rfl))];exact hg
 |nest t e g j d f=>exact R7.iff fun b a=>h b (.inl a)
 |itM f g j k d left a q=>
  refine g3l xS ⟨fun⟨r,c,s,c2,hv,hg⟩=>⟨r,c,s,c2,hv, ?_⟩,fun⟨r,c,s,c2,hv,hg⟩=>⟨r,c,s,c2,hv, ?_⟩⟩
  . rw[<-h r (.inl (by rw[hv];rfl))];exact hg
  . rw[h r (.inl (by rw[hv];rfl))];exact hg
 | _=>exact xS
def RL.root {U:Nat->Prop} {k:Nat} {l:LC} (h:RL U w Z B k l) {b:Nat} (a:B4 w (B k) l b):U b/\b<w.heap.size/\¬Z b:=by
 cases l with
 |none=>exact a.elim
 |al _=>exact a.elim
 |sbox _ _ _=>exact a.elim
 |mapE r s t u n o q=>
  obtain⟨g,j,i,e,c,d,f,_⟩:=h;have a:Vc.root (B k)=some b:=a;rw[e]at a;simp[Vc.root]at a;subst a;exact⟨c,(rU.1 f).1,d⟩
 |iter i j n o left g=>
  obtain⟨r,e,d,f,c⟩:=h;have a:Vc.root (B k)=some b:=a;rw[e]at a;simp[Vc.root]at a;subst a;refine⟨d, ?_,f⟩;rcases c with⟨c,_⟩ | ⟨_,_,_,_,c,_⟩<;>exact(rU.1 c).1
 |box j i=>
  obtain⟨g,n,e,c,d,f,_⟩:=h;have a:Vc.root (B k)=some b:=a;rw[e]at a;simp[Vc.root]at a;subst a;exact⟨c,f.lt,d⟩
 |row t e l=>
  obtain⟨r,f,o,g⟩:=h;have a:Vc.root (B k)=some b:=a;have c:(B k).ownBlock=some b:=by
   rcases f.2 with⟨d,_⟩ | ⟨n,i,j,d,_⟩
   . rw[d]at a;simp[Vc.root]at a
   . rw[d]at a⊢;simpa[Vc.root,Value.ownBlock]using a
  have:=World.ownsRow.lt f b c;exact⟨(g b c).1,this.2,(g b c).2⟩
 |map o r s t n=>
  obtain⟨g,j,i,e,c,d,f,_⟩:=h;have a:Vc.root (B k)=some b:=a;rw[e]at a;simp[Vc.root]at a;subst a;exact⟨c,(rU.1 f).1,d⟩
 |rows t e d g al f=>
  obtain⟨i,_,_,_,c⟩:=h;exact⟨(c b a).1,(c b a).2.2,(c b a).2.1⟩
 |nest t e g i d f=>
  obtain⟨j,_,c⟩:=h;exact⟨(c b a).1,(c b a).2.2,(c b a).2.1⟩
 |itM z A G H y left u q=>
  obtain⟨D,m,seen,x,t,d,v,c,i,j,n,o⟩:=h;rcases a with a| ⟨E,r,F,s,g,f⟩
  . rw[d]at a;simp[Vc.root]at a;subst a;exact⟨i,(rU.1 c.it).1,j⟩
  . rw[d]at g;cases g;rw[c.it]at f;cases f;exact⟨n,(rU.1 c.mp).1,o⟩
def E5 {a e sz m:Nat} {v:Value} {xs:List Value} (h:w.ownsRow a e sz v m xs):root v=v.ownBlock:=by
 rcases h.2 with⟨a,_⟩ | ⟨g,b,c,a,_⟩<;>rw[a]<;>rfl
def Ap {a e sz m:Nat} {v:Value} {xs:List Value} (h:w.ownsRow a e sz v m xs) (l:∀b,v.ownBlock=some b->w'.heap[b]? =w.heap[b]?):w'.ownsRow a e sz v m xs:=by
 refine⟨h.1, ?_⟩;rcases h.2 with h| ⟨g,d,f,c,i,j,k⟩
 . exact .inl h
 . exact .inr ⟨g,d,f,c,i,by rw[l g (by rw[c];rfl)];exact j,k⟩
def R7.own {f e n:Nat} {v:Value} {xs:List Value} {H:Nat->Bool} (c:w.ownsRow f e 1 v n xs) {i b:Nat} {x:Value} (o:H i=false) (a:xs[i]? =some x) (k:Vc.root x=some b):R7 w v H b:=by
 refine .inr ?_;rcases c.2 with⟨d,s⟩ | ⟨j,g,h,d,_,l,z,_,A,t⟩
 . have:=c.1;rw[s]at this;have u:xs= []:=qO (by omega);rw[u]at a;cases a
 . have r:i<n:=by have:=(sP.1 a).1;have y:=c.1;omega
   refine⟨j,_,g,h,e,i,x,d,l,r,o, ?_,k⟩;rw[<-t,rY (by omega)]at a;simpa using a
def R7.cases {base e n:Nat} {v:Value} {xs:List Value} {H:Nat->Bool} (h1:w.ownsRow base e 1 v n xs) {b:Nat} (hf:R7 w v H b):Vc.root v=some b\/∃(i:Nat) (x:Value),H i=false/\xs[i]? =some x/\Vc.root x=some b:=by
 rcases hf with c| ⟨u,m,l,r,t,i,x,f,h,z,g,k,c⟩
 . exact .inl c
 . refine .inr ⟨i,x,g, ?_,c⟩;rcases h1.2 with⟨a,_⟩ | ⟨y,o,s,a,_,d,A,_,B,j⟩
   . rw[f]at a;cases a
   . rw[f]at a;cases a;rw[h]at d;cases d;rw[<-j,rY (by omega)];simpa using k
def PV.mono (d:∀b,Z b->Z' b) (c:N2 Z w w'):∀ {t:Ty} {e':TypeId} {v:Value} {x:t.den},(∀b,Vc.root v=some b->w'.heap[b]? =w.heap[b]?)->PV t e' w Z v x->PV t e' w' Z' v x
 | .sl t,_,_,_,g,⟨i,a,f⟩=>⟨i,Ap a (fun b h=>g b ((E5 a).trans h)),f.mono fun _ _=>C7.mono d c⟩
 | .mp k l n o,_,_,_,j,⟨b,f,a,e,g,h,i⟩=>⟨b,f,a,e,by rw[j b (by rw[e];rfl)];exact g,h,i.mono d c⟩
 | .int _,_,_,_,_,h=>h.elim
 | .bool,_,_,_,_,h=>h.elim
 | .str,_,_,_,_,h=>h.elim
 | .unit,_,_,_,_,h=>h.elim
 | .pair _ _,_,_,_,_,h=>h.elim
 | .ptr _,_,_,_,_,h=>h.elim
def RL.mono {U:Nat->Prop} {k:Nat} {l:LC} (d:∀b,Z b->Z' b) (c:N2 Z w w') (s:∀k,k<n->B' k=B k) (g:live l->B' k=B k) (a:∀b,B4 w (B k) l b->w'.heap[b]? =w.heap[b]?) (i:∀b,B4 w (B k) l b->¬Z' b) (t:CU n l) (h:RL U w Z B k l):RL U w' Z' B' k l:=by
 cases l with
 |none=>trivial
 |al _=>trivial
 |sbox q u x=>
  obtain⟨j,o,b,r⟩:=h;have f:B' q=B q:=s q t;refine⟨j, ?_,b,f.trans r⟩;rw[f];exact C7.mono d c o
 |mapE G H I J D F q=>
  obtain⟨b,r,j,e,u,E,v,⟨A,x⟩,o,y,z⟩:=h;have f:Vc.root (B k)=some b:=by rw[e];rfl
  exact⟨b,r,j,(g trivial).trans e,u,i b f,by rw[a b f];exact v,⟨A,x.mono d c⟩,o,y,(s q t).trans z⟩
 |iter M N O P left I=>
  obtain⟨r,e,z,J,f⟩:=h;have u:Vc.root (B k)=some r:=by rw[e];rfl
  refine⟨r,(g trivial).trans e,z,i r u, ?_⟩;have v:=a r u;rcases f with⟨f,j⟩ | ⟨m,seen,y,x,f,j,A,D,E,F⟩
  . exact .inl ⟨v.trans f,j⟩
  . exact .inr ⟨m,seen,y,x,v.trans f,d m j,(c m j).trans A,D,E.mono d c,fun H G=>(F H G).imp fun e o=>⟨o.1,o.2.1,o.2.2.1.mono fun _ _=>C7.mono d c,o.2.2.2.mono fun _ _=>C7.mono d c⟩⟩
 |box y v=>
  obtain⟨b,u,e,j,x,o,r⟩:=h;have f:Vc.root (B k)=some b:=by rw[e];rfl
  refine⟨b,u,(g trivial).trans e,j,i b f, ?_,Co.mono d c s t r⟩;unfold LK;rw[a b f];exact o
 |row x e l=>
  obtain⟨v,j,r,u⟩:=h;have o:=E5 j;refine⟨v, ?_,r.mono fun _ _=>C7.mono d c,fun b f=> ?_⟩
  . rw[g trivial];exact Ap j fun b f=>a b (o.trans f)
  . rw[g trivial]at f;exact⟨(u b f).1,i b (o.trans f)⟩
 |map A D E F y=>
  obtain⟨b,o,j,e,r,z,u,x,v⟩:=h;have f:Vc.root (B k)=some b:=by rw[e];rfl
  exact⟨b,o,j,(g trivial).trans e,r,i b f,by rw[a b f];exact u,x,v.mono d c⟩
 |rows a3 e I F al A=>
  have T:=fun b=>B4.iff (b:=b) a
  obtain⟨y,r,⟨O,P,Q⟩,z,R⟩:=h;have a7:=E5 r;have X:∀o x b,De A o=false->y[o]? =some x->Vc.root x=some b->B4 w (B k) (.rows a3 e I F al A) b:=fun o x b v j f=>by
   refine .inr ?_;rcases r.2 with⟨E,a0⟩ | ⟨J,G,H,E,_,V,a6,_,a8,a1⟩
   . have:=r.1;rw[a0]at this;have a2:y= []:=qO (by omega);rw[a2]at j;cases j
   . have W:o<F.length:=by have:=(sP.1 j).1;have a5:=r.1;omega
     refine⟨J,_,G,H,e,o,x,E,V,W,v, ?_,f⟩;rw[<-a1,rY (by omega)]at j;simpa using j
  rw[<-g trivial]at r z;refine⟨y,Ap r fun b f=>a b (.inl (by rw[<-g trivial];exact(E5 r).trans f)),⟨fun p D=>by rw[s _ (t p D)];exact O p D,fun o l x v Y j=> ?_,Q⟩,z,fun b f=> ?_⟩
  . obtain⟨a4,u,M⟩:=P o l x v Y j;exact⟨a4,Ap u fun b f=>a b (X o x b v j ((E5 u).trans f)),M.mono fun _ _=>C7.mono d c⟩
  . rw[g trivial]at f;have f:=(T b).1 f;obtain⟨u,_,N⟩:=R b f;refine⟨u,i b f, ?_⟩;have:=a b f;rw[vC N]at this;exact(rU.1 this).1
 |nest D e v A o r=>
  obtain⟨u,j,G⟩:=h;have H:=g trivial;have I:∀b,R7 w' (B k) (Cs o r) b↔R7 w (B k) (Cs o r) b:=fun b=>R7.iff fun b f=>a b (.inl f)
  rw[show RL U w' Z' B' k (.nest D e v A o r)=∃u,jJ w' Z' B' D e v A o r (B k) u/\∀b,R7 w' (B k) (Cs o r) b->U b/\¬Z' b/\b<w'.heap.size from by rw[<-H];rfl];refine⟨u,⟨Ap j.own fun b f=>a b (.inl ((E5 j.own).trans f)),fun p y=>(j.out p y).trans (by rw[s _ (t p y)]),fun M l N x J z=> ?_,j.dis,j.top⟩,fun b f=> ?_⟩
  . exact(j.elt M l N x J z).mono d c fun b f=>a b (R7.own j.own x z f)
  . have f:=(I b).1 f;obtain⟨E,_,F⟩:=G b f;refine⟨E,i b f, ?_⟩;have:=a b f;rw[vC F]at this;exact(rU.1 this).1
 |itM z A D E v left u q=>
  obtain⟨r,m,seen,H,F,o,G,f,I,O,J,P⟩:=h;have x:B4 w (B k) (.itM z A D E v left u q) r:= .inl (by rw[o];rfl);have y:B4 w (B k) (.itM z A D E v left u q) m:= .inr ⟨r,_,_,_,o,f.it⟩;exact⟨r,m,seen,H,F,(g trivial).trans o,(s q t).trans G,⟨(a r x).trans f.it,(a m y).trans f.mp,f.ok,f.all.mono d c,f.rest.mono d c,fun N M=>(f.cur N M).imp fun e j=>⟨j.1,j.2.1,j.2.2.1.mono fun _ _=>C7.mono d c,j.2.2.2.mono fun _ _=>C7.mono d c⟩⟩,I,i r x,J,i m y⟩
def Cb.le {m:Nat} (a:n<=m):∀ {c:C},Cb n c->Cb m c
 | .val _ _,h=>h
 | .row _,h=>rD h a
 | .box _ _,h=>rD h a
 | .elp _ _ _ _,h=>rD h a
 | .win _ _ _ _,h=>rD h a
 | .pf _ _ _,h=>h
 | .mp _,h=>rD h a
 | .fn _ _,h=>fun k b=>rD (h k b) a
 | .fv _ _ _ _ _ _,h=>h
 | .raw _,h=>h
 | .dead,h=>h
def JS.le {m:Nat} (a:n<=m):∀ {d:DV},JS n d->JS m d
 | .one _,h=>fun c b=>(h c b).le a
 | .tup _,h=>fun s f c b=>(h s f c b).le a
 | .cnd _ _ _,h=>fun c b=>(h c b).le a
 | .dead,h=>h
def CU.le {m:Nat} (a:n<=m):∀ {d:LC},CU n d->CU m d
 | .none,h=>h
 | .box _ _,h=>fun c b=>(h c b).le a
 | .row _ _ _,h=>h
 | .map _ _ _ _ _,h=>h
 | .al _,h=>h
 | .sbox _ _ _,h=>rD h a
 | .iter _ _ _ _ _ _,h=>h
 | .mapE _ _ _ _ _ _ _,h=>rD h a
 | .rows _ _ _ _ _ _,h=>fun p b=>rD (h p b) a
 | .nest _ _ _ _ _ _,h=>fun p b=>rD (h p b) a
 | .itM _ _ _ _ _ _ _ _,h=>rD h a
def jK.le {n m:Nat} {a:List (List (Nat×Nat×DV))} (h:jK n a) (b:n<=m):jK m a:=fun f a s=>(h f a s).le b
def RD.upd {E:H6} {d:Nat} {u:Value} :∀ {x:DV} {v:Value},DU d x=false->RD w Z B E x v->RD w Z B (upd E d u) x v
 | .one _,_,_,h=>h
 | .tup _,_,_,h=>h
 | .cnd t b s,v,a,h=>by
  have b:t≠d:=vF a;show(Gw.upd E d u t= _ /\ _)\/(Gw.upd E d u t≠ _ /\ _);rw[C5 _ _ _ _ b];exact h
 | .dead,_,_,_=>trivial
end mono
section steps
variable {za:Zn} {w0 w w':World} {Z Z':Nat->Prop} {B:Nat->Value} {st:St} {E:H6}
def C3.setS (h:C3 za w0 st E w Z B) (d:Nat) {x:DV} {v:Value} (f:RD w Z B (upd E d v) x v) (c:JS st.nx x):C3 za w0 (st.setS d x) (upd E d v) w Z B:=by
 refine⟨h.ext,h.zlt,fun s=> ?_,h.locs,h.disj,fun s=> ?_,h.refl,h.fresh,h.bone,h.zin,h.nms,h.bfix,h.mrk,h.frs,h.frf⟩
 . rw[St.S_setS];by_cases a:s=d
   . subst a;simp only[wF,C2];exact f
   . rw[qH a,C5 _ _ _ _ a];cases b:DU d (st.S s)with
     |true=>trivial
     |false=>exact RD.upd b (h.slots s)
 . rw[St.S_setS];by_cases a:s=d
   . rw[qJ a];exact c
   . rw[qH a];cases b:DU d (st.S s)with
     |true=>trivial
     |false=>exact h.refs s
def C3.keep (h:C3 za w0 st E w Z B) (u:Hg za.m w0 w') (o:w.heap.size<=w'.heap.size) (f:∀b,(Z b\/∃k,B4 w (B k) (st.L k) b)->w'.heap[b]? =w.heap[b]?)
 (l:∀b,Z b->Z' b) (n:∀b,Z' b->Z b\/(b<w'.heap.size/\w0.heap.size<=b/\∀k,¬B4 w (B k) (st.L k) b)):C3 za w0 st E w' Z' B:=by
 have j:N2 Z w w':=fun b c=>f b (.inl c)
 have i:∀k b,B4 w' (B k) (st.L k) b↔B4 w (B k) (st.L k) b:=fun k b=>B4.iff fun b g=>f b (.inr ⟨k,g⟩)
 refine⟨u,fun b c=> ?_,fun s=>(h.slots s).mono l j (fun _ _=>rfl) (h.refs s),fun k=> ?_,fun k r b x a t=>h.disj k r b x ((i k b).1 a) ((i r b).1 t),h.refs,h.refl,h.fresh,h.bone,fun b c=> ?_,h.nms,h.bfix,⟨qY h.mrk.1 o,fun k b v g=>h.mrk.2 k b v ((i k b).1 g)⟩,h.frs.mono l j (fun _ _=>rfl) h.frf,h.frf⟩
 . rcases n b c with a|a
   . exact rD (h.zlt b a) o
   . exact a.1
 . refine(h.locs k).mono l j (fun _ _=>rfl) (fun _=>rfl) (fun b d=>f b (.inr ⟨k,d⟩)) (fun b d c=> ?_) (h.refl k);rcases n b c with a|a
   . exact((h.locs k).root d).2.2 a
   . exact a.2.2 k d
 . rcases n b c with a|a
   . exact h.zin b a
   . exact .inr a.2.1
def C3.ft (h:C3 za w0 st E w Z B) (f:Q7 w w') {k b:Nat} (d:B4 w' (B k) (st.L k) b):B4 w (B k) (st.L k) b:=(B4.iff fun c a=>f.block c ((h.locs k).root a).2.1).1 d
def C3.more (h:C3 za w0 st E w Z B) (c:Q7 w w') (d:∀b,Z b->Z' b) (f:∀b,Z' b->Z b\/(w.heap.size<=b/\b<w'.heap.size)):C3 za w0 st E w' Z' B:=by
 refine h.keep (h.ext.trans c) c.size (fun b a=>c.block b ?_) d (fun b a=> ?_)
 . rcases a with a| ⟨k,d⟩
   . exact h.zlt b a
   . exact((h.locs k).root d).2.1
 . rcases f b a with c|c
   . exact .inl c
   . exact .inr ⟨c.2,qY h.ext.size c.1,fun k d=>by have:=((h.locs k).root d).2.1;omega⟩
def C3.new (h:C3 za w0 st E w Z B) {v:Value} {lc:LC} (f:RL (up za w0 st.nx) w Z (upd B st.nx v) st.nx lc) (r:∀k b,B4 w v lc b->¬B4 w (B k) (st.L k) b) (D:CU (st.nx+1) lc) (F:v.oneCell'=true) (A:∀b,za.k0<=st.nx->B4 w v lc b->za.b0<=b):
 C3 za w0 (st.newL lc) E w Z (upd B st.nx v):=by
 have d:∀k,k<st.nx->(upd B st.nx v) k=B k:=fun k a=>C5 _ _ _ _ (uC a)
 have l:(upd B st.nx v) st.nx=v:=C2 _ _ _;have j:∀k,live (st.L k)->k<st.nx:=fun k a=>by
  by_cases z:k<st.nx
  . exact z
  . rw[h.fresh k (by omega)]at a;exact a.elim
 have o:N2 Z w w:=fun _ _=>rfl
 refine⟨h.ext,h.zlt,fun s=>(h.slots s).mono (fun _=>id) o d (h.refs s),fun k=> ?_, ?_,fun s=>(h.refs s).le (uW _),fun k=> ?_,fun k a=> ?_,fun k=> ?_,h.zin,⟨h.nms.1,xM h.nms.2⟩,fun k a=>(d k (rD a h.nms.2)).trans (h.bfix k a),⟨h.mrk.1,fun k b a f=> ?_⟩,h.frs.mono (fun _=>id) o d h.frf,h.frf.le (uW _)⟩
 . rw[St.L_newL];by_cases a:k=st.nx
   . subst a;rw[qJ rfl];exact f
   . rw[qH a];exact(h.locs k).mono (fun _=>id) o d (fun y=>d k (j k y)) (fun _ _=>rfl) (fun b x G=>((h.locs k).root x).2.2 G) (h.refl k)
 . intro k i b u g c;rw[St.L_newL]at g c;by_cases a:k=st.nx
   . subst a;rw[qH (Ne.symm u)]at c;rw[qJ rfl,l]at g;rw[d i (j i c.live)]at c;exact r i b g c
   . rw[qH a]at g;rw[d k (j k g.live)]at g;by_cases n:i=st.nx
     . subst n;rw[qJ rfl,l]at c;exact r k b c g
     . rw[qH n]at c;rw[d i (j i c.live)]at c;exact h.disj k i b u g c
 . rw[St.L_newL];by_cases a:k=st.nx
   . rw[qJ a];exact D
   . rw[qH a];exact(h.refl k).le (uW _)
 . rw[St.L_newL];have n:st.nx+1<=k:=a;rw[qH (by omega)];exact h.fresh k (by omega)
 . by_cases a:k=st.nx
   . rw[a,l];exact F
   . rw[C5 _ _ _ _ a];exact h.bone k
 . rw[St.L_newL]at f;by_cases t:k=st.nx
   . subst t;rw[qJ rfl,l]at f;exact A b a f
   . rw[qH t]at f;rw[d k (j k f.live)]at f;exact h.mrk.2 k b a f
def C3.drop (h:C3 za w0 st E w Z B) (k:Nat):C3 za w0 (st.setL k .none) E w Z B:=by
 refine⟨h.ext,h.zlt,h.slots,fun q=> ?_,fun q j d g a b=> ?_,h.refs,fun q=> ?_,fun q i=> ?_,h.bone,h.zin,h.nms,h.bfix,⟨h.mrk.1,fun q d f c=>(by rw[St.L_setL]at c;split at c;exact c.elim;exact h.mrk.2 q d f c)⟩,h.frs,h.frf⟩
 . rw[St.L_setL];split
   . trivial
   . exact h.locs q
 . rw[St.L_setL]at a b;split at a
   . exact a.elim
   . split at b
     . exact b.elim
     . exact h.disj q j d g a b
 . rw[St.L_setL];split
   . trivial
   . exact h.refl q
 . rw[St.L_setL];split
   . rfl
   . exact h.fresh q i
def C3.chg (h:C3 za w0 st E w Z B) {k b:Nat} {lc:LC} (n:live (st.L k)) (j:B4 w (B k) (st.L k) b) (g:TD b w w') (x:RL (up za w0 k) w' Z B k lc) (z:CU st.nx lc) (l:∀b,B4 w' (B k) lc b->root (B k)=some b\/B4 w (B k) (st.L k) b):C3 za w0 (st.setL k lc) E w' Z B:=by
 have s:=(h.locs k).root j;have l:∀b,B4 w' (B k) lc b->B4 w (B k) (st.L k) b:=fun b hh=>(l b hh).elim (B4.of n) id
 have c:C3 za w0 (st.setL k .none) E w' Z B:=by
  refine(h.drop k).keep (h.ext.chg g s.1.m) (by rw[g.2.2.2.1];exact qT _) (fun q a=>g.2.2.2.2 q ?_) (fun _=>id) (fun _=> .inl);rintro rfl;rcases a with a| ⟨t,d⟩
  . exact s.2.2 a
  . rw[St.L_setL]at d;by_cases o:t=k
    . rw[qJ o]at d;exact d.elim
    . rw[qH o]at d;exact h.disj t k q o d j
 have F:k<st.nx:=by
  by_cases o:k<st.nx
  . exact o
  . rw[h.fresh k (by omega)]at n;exact n.elim
 have i:∀q,(st.setL k lc).L q=if q=k then lc else(st.setL k .none).L q:=fun q=>by
  rw[St.L_setL,St.L_setL];split<;>simp_all
 have r:∀q b,B4 w' (B q) ((st.setL k lc).L q) b->B4 w (B q) (st.L q) b:=fun q f a=>by
  rw[St.L_setL]at a;split at a
  . rename_i e;rw[e]at a⊢;exact l f a
  . refine(B4.iff fun o t=>g.2.2.2.2 o ?_).1 a;rintro rfl;rename_i e;exact h.disj q k o e t j
 refine⟨c.ext,c.zlt,c.slots,fun q=> ?_,fun q u f y A D=> ?_,c.refs,fun q=> ?_,fun q a=> ?_,h.bone,h.zin,h.nms,h.bfix,⟨c.mrk.1,fun q b v d=>h.mrk.2 q b v (r q b d)⟩,c.frs,c.frf⟩
 . rw[i];split
   . rename_i a;rw[a];exact x
   . exact c.locs q
 . exact h.disj q u f y (r q f A) (r u f D)
 . rw[i];split
   . exact z
   . exact c.refl q
 . rw[i,qH (by have:st.nx<=q:=a;omega)];exact c.fresh q a
def C3.relc (h:C3 za w0 st E w Z B) {k:Nat} {lc:LC} (d:live (st.L k)) (i:RL (up za w0 k) w Z B k lc) (n:CU st.nx lc) (g:∀b,B4 w (B k) lc b->root (B k)=some b\/B4 w (B k) (st.L k) b):C3 za w0 (st.setL k lc) E w Z B:=by
 have a:k<st.nx:=by
  by_cases a:k<st.nx
  . exact a
  . rw[h.fresh k (by omega)]at d;exact d.elim
 have f:∀q b,B4 w (B q) ((st.setL k lc).L q) b->B4 w (B q) (st.L q) b:=fun q c a=>by
  rw[St.L_setL]at a;split at a
  . rename_i e;rw[e]at a⊢;exact(g c a).elim (B4.of d) id
  . exact a
 refine⟨h.ext,h.zlt,h.slots,fun q=> ?_,fun q d c l o r=> ?_,h.refs,fun q=> ?_,fun q a=> ?_,h.bone,h.zin,h.nms,h.bfix,⟨h.mrk.1,fun q b g j=>h.mrk.2 q b g (f q b j)⟩,h.frs,h.frf⟩
 . rw[St.L_setL];split
   . rename_i a;rw[a];exact i
   . exact h.locs q
 . exact h.disj q d c l (f q c o) (f d c r)
 . rw[St.L_setL];split
   . exact n
   . exact h.refl q
 . rw[St.L_setL,qH (by have:st.nx<=q:=a;omega)];exact h.fresh q a
def C3.addL (h:C3 za w0 st E w Z B) {k:Nat} {lc:LC} (v:k<st.nx) (s:RL (up za w0 k) w Z B k lc) (l:∀j b,j≠k->B4 w (B k) lc b->¬B4 w (B j) (st.L j) b) (u:CU st.nx lc) (t:∀b,za.k0<=k->B4 w (B k) lc b->za.b0<=b):C3 za w0 (st.setL k lc) E w Z B:=by
 refine⟨h.ext,h.zlt,h.slots,fun q=> ?_,fun q i b g d c=> ?_,h.refs,fun q=> ?_,fun q a=> ?_,h.bone,h.zin,h.nms,h.bfix,⟨h.mrk.1,fun q b n f=>(by
  rw[St.L_setL]at f;by_cases r:q=k
  . subst r;rw[qJ rfl]at f;exact t b n f
  . rw[qH r]at f;exact h.mrk.2 q b n f)⟩,h.frs,h.frf⟩
 . rw[St.L_setL];split
   . rename_i a;rw[a];exact s
   . exact h.locs q
 . rw[St.L_setL]at d c;by_cases a:q=k
   . subst a;rw[qH (Ne.symm g)]at c;rw[qJ rfl]at d;exact l i b (Ne.symm g) d c
   . rw[qH a]at d;by_cases o:i=k
     . subst o;rw[qJ rfl]at c;exact l q b a c d
     . rw[qH o]at c;exact h.disj q i b g d c
 . rw[St.L_setL];split
   . exact u
   . exact h.refl q
 . rw[St.L_setL,qH (by have:st.nx<=q:=a;omega)];exact h.fresh q a
def U7 {v:Value} {t c:Ty} {e e' d j b:Nat} {ls:List (List t.den)} {k:List (List c.den)} {al f:List (Nat×Nat)} {a:Option Nat} (h:∀g,root v=some g->w'.heap[g]? =w.heap[g]?):B4 w' v (.rows c d j k f a) b↔B4 w v (.rows t e e' ls al a) b:=by
 refine g3l xS ⟨fun⟨g,n,cap,cur,e,i,x,hv,hg,r⟩=>⟨g,n,cap,cur,e,i,x,hv, ?_,r⟩,fun⟨g,n,cap,cur,e,i,x,hv,hg,r⟩=>⟨g,n,cap,cur,e,i,x,hv, ?_,r⟩⟩
 . rw[<-h g (by rw[hv];rfl)];exact hg
 . rw[h g (by rw[hv];rfl)];exact hg
def B2p {U:Nat->Prop} {t:Ty} {k e e' i q b:Nat} {ls:List (List t.den)} {al:List (Nat×Nat)} {l:List t.den} {v:List Value} (h:RL U w Z B k (.rows t e e' ls al none)) (X:(i,q)∈al) (d:root (B q)=some b) (j:TD b w w') (a0:¬Z b) (W:w'.ownsRow 0 e' t.size (B q) l.length v) (T:G2 (C7 t w' Z) v l):
 RL U w' Z B k (.rows t e e' (ls.set i l) al none)/\B4 w (B k) (.rows t e e' ls al none) b/\root (B k)≠some b:=by
 obtain⟨a3,f,⟨y,Q,z⟩,A,R⟩:=h;have c:=(y _ X).resolve_right fun hh=>by rw[hh.2]at d;simp[Vc.root]at d
 have E:i<ls.length:=by have:=(sP.1 c).1;have a5:=f.1;omega
 have F:root (B k)≠some b:=A i _ b rfl c d;have G:N2 Z w w':=fun r hc'=>j.2.2.2.2 r (fun e=>a0 (e▸hc'))
 have D:∀g,root (B k)=some g->w'.heap[g]? =w.heap[g]?:=fun g a=>j.2.2.2.2 g (fun e=>F (e▸a))
 refine⟨⟨a3,by rw[qN];exact Ap f (fun g a=>D g ((E5 f).trans a)),⟨y,fun u a1 a2 _ n o=> ?_,z⟩,A,fun r V=> ?_⟩, ?_,F⟩
 . by_cases s:i=u
   . subst s;rw[sH E]at n;cases n;rw[c]at o;cases o;exact⟨v,W,T⟩
   . rw[sV s]at n;obtain⟨a4,x,P⟩:=Q u a1 a2 rfl n o;refine⟨a4,Ap x (fun g a=>j.2.2.2.2 g (fun e=> ?_)),P.mono fun _ _=>C7.mono (fun _=>id) G⟩;subst e;exact z i u _ _ g s rfl rfl c o d ((E5 x).trans a)
 . obtain⟨I,J,M⟩:=R r ((U7 D).1 V);exact⟨I,J,by rw[j.2.2.2.1];exact M⟩
 . refine .inr ?_;rcases f.2 with⟨H,a7⟩ | ⟨g,N,O,H,_,a,a6,_,G,Y⟩
   . omega
   . refine⟨g,_,N,O,e,i,_,H,a,E,rfl, ?_,d⟩;rw[<-Y,rY (by omega)]at c;simpa using c
def Bj (w:World) (Z:Nat->Prop) (t:Ty) (e e':TypeId) (v:Value) (ls:List (List t.den)):Prop:=
 ∃a:List Value,w.ownsRow 0 e 1 v ls.length a/\(∀(i:Nat) (l:List t.den) (x:Value),ls[i]? =some l->a[i]? =some x->∃b,w.ownsRow 0 e' t.size x l.length b/\G2 (C7 t w Z) b l)/\
  (∀(i j:Nat) (x y:Value) (b:Nat),i≠j->a[i]? =some x->a[j]? =some y->root x=some b->root y≠some b)/\∀(i:Nat) (x:Value) (b:Nat),a[i]? =some x->root x=some b->root v≠some b
def RL.rowsR {U:Nat->Prop} {t:Ty} {k e e':Nat} {ls:List (List t.den)} {al:List (Nat×Nat)} (h:RL U w Z B k (.rows t e e' ls al none)):Bj w Z t e e' (B k) ls:=by
 obtain⟨c,b,⟨a,d,f⟩,g,i⟩:=h;exact⟨c,b,fun i r x l a=>d i r x rfl l a,fun i o x y b j a n c=>f i o x y b j rfl rfl a n c,fun i x b a c=>g i x b rfl a c⟩
def Bj.rl {U:Nat->Prop} {t:Ty} {k e e':Nat} {ls:List (List t.den)} (h:Bj w Z t e e' (B k) ls) (g:∀b,B4 w (B k) (.rows t e e' ls [] none) b->U b/\¬Z b/\b<w.heap.size):RL U w Z B k (.rows t e e' ls [] none):=by
 obtain⟨o,a,c,d,f⟩:=h;exact⟨o,a,⟨fun p n=>(by cases n),fun i l x _ hl hx=>c i l x hl hx,fun i j x y b hij _ _ hx hy hb=>d i j x y b hij hx hy hb⟩,fun i x b _ hx hb=>f i x b hx hb,g⟩
def Bj.mono {t:Ty} {e e':Nat} {v:Value} {ls:List (List t.den)} (k:∀b,Z b->Z' b) (h:Bj w Z t e e' v ls):Bj w Z' t e e' v ls:=by
 obtain⟨o,c,d,f,g⟩:=h;exact⟨o,c,fun l n x i j=>(d l n x i j).imp fun r a=>⟨a.1,a.2.mono fun _ _=>C7.mono k (fun _ _=>rfl)⟩,f,g⟩
end steps
def gE (P:Program) (r:TypeId->Ty->Bool):List Field->Nat->Ty->Bool
 | [],_, .unit=>true
 | [f],b,a=>Nat.beq f.offset b&&r f.type a&&Nat.beq (P.cellsOf f.type) a.size
 |f::g::d,b, .pair a c=>Nat.beq f.offset b&&r f.type a&&Nat.beq (P.cellsOf f.type) a.size&&gE P r (g::d) (b+a.size) c
 | _,_,_=>false
def gC (r:Ty->Bool) (sz:Nat):Nat->Ty->Bool
 |0, .unit=>true
 |1,a=>r a&&Nat.beq a.size sz
 |n+2, .pair a b=>r a&&Nat.beq a.size sz&&gC r sz (n+1) b
 | _,_=>false
def lN (P:Program):Nat->TypeId->Ty->Bool
 |0,_,_=>false
 |n+1,T,a=>match P.underlying T with
  |some (.int k)=>(match a with| .int k'=>decide (k=k') | _=>false)
  |some .bool=>(match a with| .bool=>true| _=>false)
  |some (.struct b)=>gE P (lN P n) b.toList 0 a&&Nat.beq (P.cellsOf T) a.size&&b.all (·.name != "_")
  |some (.array m e)=>gC (lN P n e) (P.cellsOf e) m a&&Nat.beq (P.cellsOf T) a.size
  | _=>false
def Kn:(t:Ty)->t.den->List Lit
 | .int k,n=> [.int k n]
 | .bool,b=> [.bool b]
 | .pair a b,x=>Kn a x.1++Kn b x.2
 | _,_=> []
def Fz:Ty->Bool
 | .int _=>true
 | .bool=>true
 | .unit=>true
 | .pair a b=>Fz a&&Fz b
 | _=>false
def DR:(t:Ty)->t.den->t.den->Bool
 | .int _,a,b=>decide ((show Int from a)=b)
 | .bool,a,b=>(show Bool from a)==b
 | .pair a b,x,y=>DR a x.1 y.1&&DR b x.2 y.2
 | _,_,_=>true
def VK:∀ {t:Ty} {x y:t.den},(Kn t x).length=(Kn t y).length
 | .int _,_,_=>rfl
 | .bool,_,_=>rfl
 | .pair a b,x,y=>by simp only[Kn,rR];rw[VK (t:=a) (x:=x.1) (y:=y.1),VK (t:=b) (x:=x.2) (y:=y.2)]
 | .str,_,_=>rfl
 | .unit,_,_=>rfl
 | .sl _,_,_=>rfl
 | .ptr _,_,_=>rfl
 | .mp _ _ _ _,_,_=>rfl
def VJ:∀ {t:Ty} {x y:t.den},Fz t=true->(Kn t x=Kn t y↔x=y)
 | .int _,x,y,_=>by simp[Kn]
 | .bool,x,y,_=>by simp[Kn]
 | .unit,x,y,_=>by simp[Kn]
 | .pair a b,x,y,h=>by
  simp only[Fz,qC]at h;simp only[Kn];constructor
  . intro e;have:=List.append_inj e VK;exact Prod.ext ((VJ h.1).1 this.1) ((VJ h.2).1 this.2)
  . rintro rfl;rfl
 | .str,_,_,h=>by cases h
 | .sl _,_,_,h=>by cases h
 | .ptr _,_,_,h=>by cases h
 | .mp _ _ _ _,_,_,h=>by cases h
def SK:∀ {t:Ty} {x y:t.den},Fz t=true->(DR t x y=true↔x=y)
 | .int _,x,y,_=>by simp[DR]
 | .bool,x,y,_=>by simp[DR]
 | .unit,x,y,_=>by simp[DR]
 | .pair a b,x,y,h=>by
  simp only[Fz,qC]at h;simp only[DR,qC,SK h.1,SK h.2];exact⟨fun⟨a,b⟩=>Prod.ext a b,fun e=>by rw[e];exact⟨rfl,rfl⟩⟩
 | .str,_,_,h=>by cases h
 | .sl _,_,_,h=>by cases h
 | .ptr _,_,_,h=>by cases h
 | .mp _ _ _ _,_,_,h=>by cases h
def Nj:∀ {t:Ty} {w w':World} {Z Z':Nat->Prop} {cs cs':List Value} {x:t.den},Fz t=true->C7 t w Z cs x->C7 t w' Z' cs' x->cs=cs'
 | .int _,_,_,_,_,_,_,_,_,h,a=>h.1.trans a.1.symm
 | .bool,_,_,_,_,_,_,_,_,h,a=>(show _= _ from h).trans (show _= _ from a).symm
 | .unit,_,_,_,_,_,_,_,_,h,a=>(show _= _ from h).trans (show _= _ from a).symm
 | .pair h i,_,_,_,_,_,_,_,a,⟨c1,k,e,c,f⟩,⟨j,l,b,d,g⟩=>by
  simp only[Fz,qC]at a;rw[e,b,Nj a.1 c d,Nj a.2 f g]
 | .str,_,_,_,_,_,_,_,h,_,_=>by cases h
 | .sl _,_,_,_,_,_,_,_,h,_,_=>by cases h
 | .ptr _,_,_,_,_,_,_,_,h,_,_=>by cases h
 | .mp _ _ _ _,_,_,_,_,_,_,_,h,_,_=>by cases h
section
variable {P:Program} {w:World} {Z:Nat->Prop}
def bT {n:Nat} {r:TypeId->Ty->Bool} {cs:List Value} (c:∀ {T:TypeId} {ty:Ty} {cs:List Value} {x:ty.den},r T ty=true->C7 ty w Z cs x->P.keyLits n T cs=some (Kn ty x)):
 ∀ {b:List Field} {off:Nat} {ty:Ty} {x:ty.den},gE P r b off ty=true->C7 ty w Z (cs.drop off) x->∃ls,b.mapM (fun f=>P.keyLits n f.type ((cs.drop f.offset).take (P.cellsOf f.type)))=some ls/\ls.flatten=Kn ty x
 | [],off,ty,x,h,a=>by
  cases ty<;>simp[gE]at h;exact⟨[],rfl,rfl⟩
 | [f],off,ty,x,i,d=>by
  have a:(Nat.beq f.offset off&&r f.type ty&&Nat.beq (P.cellsOf f.type) ty.size)=true:=by cases ty<;>exact i
  simp only[qC]at a;have g:=qD a.1.1;have h:=qD a.2;have j:=C7.length d;refine⟨[Kn ty x], ?_,by simp⟩;rw[wU,g,h,qR (by omega),c a.1.2 d];rfl
 |f::B::b,off,ty,x,h,v=>by
  cases ty<;>simp only[gE]at h<;>try cases h
  rename_i a z;simp only[qC]at h;obtain⟨⟨⟨k,l⟩,o⟩,s⟩:=h;obtain⟨c1,A,e,g,y⟩:=v;have d:=C7.length g;have i:=qD k;have j:=qD o;obtain⟨ls,u,t⟩:=bT (cs:=cs) (off:=off+a.size) (x:=x.2) c s (by rw[<-vV,e,zF d];exact y);refine⟨Kn a x.1::ls, ?_,by simp[Kn,t]⟩;rw[wU,i,j,e,g0i d,c l g,u];rfl
def bS {n e sz:Nat} {r:Ty->Bool} (b:∀ {ty:Ty} {cs:List Value} {x:ty.den},r ty=true->C7 ty w Z cs x->P.keyLits n e cs=some (Kn ty x)):
 ∀ {m i:Nat} {ty:Ty} {cs:List Value} {x:ty.den},gC r sz m ty=true->C7 ty w Z (cs.drop (i*sz)) x->∃ls,(List.range' i m).mapM (fun i=>P.keyLits n e ((cs.drop (i*sz)).take sz))=some ls/\ls.flatten=Kn ty x
 |0,i,ty,cs,x,h,a=>by
  cases ty<;>simp[gC]at h;exact⟨[],rfl,rfl⟩
 |1,i,ty,cs,x,h,c=>by
  have a:(r ty&&Nat.beq ty.size sz)=true:=by cases ty<;>exact h
  simp only[qC]at a;have d:=qD a.2;have f:=C7.length c;refine⟨[Kn ty x], ?_,by simp⟩;rw[List.range'_one,wU,qR (by omega),b a.1 c];rfl
 |m+2,i,ty,cs,x,h,l=>by
  cases ty<;>simp only[gC]at h<;>try cases h
  rename_i c s;simp only[qC]at h;obtain⟨⟨d,f⟩,g⟩:=h;obtain⟨c1,t,e,a,o⟩:=l;have v:=C7.length a;have u:=qD f;obtain⟨ls,k,j⟩:=bS (cs:=cs) (i:=i+1) (x:=x.2) b g (by rw[uO, <-vV,e,zF (by omega)];exact o);refine⟨Kn c x.1::ls, ?_,by simp[Kn,j]⟩;rw[g4o,wU,e,g0i (by omega),b d a,k];rfl
def SL:∀ {n:Nat} {T:TypeId} {ty:Ty} {cs:List Value} {x:ty.den},lN P n T ty=true->C7 ty w Z cs x->P.keyLits n T cs=some (Kn ty x)
 |0,_,_,_,_,h,_=>by cases h
 |n+1,T,ty,cs,x,h,a=>by
  unfold lN at h;unfold Program.keyLits;split at h
  . rename_i l b;cases ty<;>simp only at h<;>try cases h
    have:=qA h;subst this;obtain⟨e,g⟩:=a;simp only[b,e];rw[qJ ⟨trivial,by simp only[Lit.wf,qC,rP];exact g⟩];rfl
  . rename_i b;cases ty<;>simp only at h<;>try cases h
    simp only[b,show cs= _ from a];rfl
  . rename_i k b;simp only[qC]at h;have f:=C7.length a;obtain⟨j,c,d⟩:=bT (n:=n) (cs:=cs) (off:=0) (fun hh a=>SL hh a) h.1.1 (by simpa using a);simp only[b];rw[qJ ⟨by rw[f,qD h.1.2],h.2⟩,c];simp[d]
  . rename_i m e b;simp only[qC]at h;have f:=C7.length a;obtain⟨j,c,d⟩:=bS (n:=n) (e:=e) (sz:=P.cellsOf e) (i:=0) (cs:=cs) (fun hh a=>SL hh a) h.1 (by simpa using a);simp only[b];rw[qJ (by rw[f,qD h.2]),g2y,c];simp[d]
  . cases h
def CP (P:Program) (T:TypeId) (a:Bool) (ty:Ty):Bool:=lN P 20 T ty&&P.keyTypeAt 20 T&&Fz ty&& !(P.eqGuardType P.depth T)&&(match P.underlying T with|some (.struct _)=>a|some (.array _ _)=>a| _=> !a)
def FP {T:TypeId} {a:Bool} {ty:Ty} {v:Value} {x:ty.den} (h:CP P T a ty=true) (i:T3 (C7 ty w Z) a v x):v.formed P T=true/\P.keyLits 20 T v.cells.toList=some (Kn ty x):=by
 simp only[CP,qC]at h;obtain⟨⟨⟨⟨b,l⟩,n⟩,_⟩,d⟩:=h;cases a with
 |true=>
  obtain⟨k,e,g⟩:=i;subst e;have j:=SL b g;have f:=C7.length g;refine⟨?_,j⟩;unfold lN at b;split at b
  . rename_i c;simp[c]at d
  . rename_i c;simp[c]at d
  . rename_i c;simp only[qC]at b;simp only[Value.formed,c];have:=qD b.1.2;simp[this,f]
  . rename_i c;simp only[qC]at b;simp only[Value.formed,c];have:=qD b.2;simp[this,f]
  . cases b
 |false=>
  have f:C7 ty w Z [v] x:=i;have g:=SL b f;unfold lN at b;split at b
  . rename_i k c;cases ty<;>simp only at b<;>try cases b
    have e:=f.1;simp only[sM,vR]at e;subst e;exact⟨by simp[Value.formed,c],g⟩
  . rename_i c;cases ty<;>simp only at b<;>try cases b
    have e: [v]= [.bool x]:=f;simp only[sM,vR]at e;subst e;exact⟨by simp[Value.formed,c],g⟩
  . rename_i c;simp[c]at d
  . rename_i c;simp[c]at d
  . cases b
def FO {T:TypeId} {a:Bool} {ty:Ty} (h:CP P T a ty=true):Fz ty=true:=by
 simp only[CP,qC]at h;exact h.1.1.2
def cE {T:TypeId} {a:Bool} {ty:Ty} {v b:Value} {x y:ty.den} (h:CP P T a ty=true) (j:T3 (C7 ty w Z) a v x) (k:T3 (C7 ty w Z) a b y) (w':World):(Op.equalIn 10000 T v b).run P w'= .ok (DR ty x y) w':=by
 obtain⟨d,l⟩:=FP h j;obtain⟨f,n⟩:=FP h k;have c:=FO h;simp only[CP,qC]at h;obtain⟨r,i,g⟩:=run_equalIn_deep (P:=P) 9980 20 T h.1.1.1.2 w' 20 20 v b _ _ d f l n;rw[i];have:r=DR ty x y:=by
  rw[VJ c, <-SK c]at g;cases r<;>cases o:DR ty x y<;>simp_all
 rw[this]
def Pz {T:TypeId} {a:Bool} {ty:Ty} {v:Value} {x:ty.den} (h:CP P T a ty=true) (d:T3 (C7 ty w Z) a v x) (w':World) (b:Bool):(Instr.checkKey b 10000 T v).run P w'= .ok () w':=by
 obtain⟨c,f⟩:=FP h d;simp only[CP,qC]at h;exact run_checkKey_deep (P:=P) b 9980 20 T h.1.1.1.2 w' 20 v _ c f
def O0 {α:Type} (t:Ty) (k:t.den):List (t.den×α)->Nat->Option Nat
 | [],_=>none
 |x::l,i=>bif DR t k x.1 then some i else O0 t k l (i+1)
def F5 {α:Type} (t:Ty) (k:t.den):List (t.den×α)->Option α
 | []=>none
 |x::l=>bif DR t k x.1 then some x.2 else F5 t k l
def Df {α:Type} (t:Ty) (k:t.den) (v:α):List (t.den×α)->List (t.den×α)
 | []=> [(k,v)]
 |x::l=>bif DR t k x.1 then(k,v)::l else x::Df t k v l
def Ya {T:TypeId} {g:Bool} {a:Ty} {n:Type} {Rv:Value->n->Prop} {v:Value} {k:a.den} (h:CP P T g a=true) (D:T3 (C7 a w Z) g v k) (w':World):
 ∀ {l:List (a.den×n)} {es:List MapEntry},S4 (T3 (C7 a w Z) g) Rv es l->(Instr.findKey T v es).run P w'= .ok ((O0 a k l 0).bind fun j=>(es[j]?).map fun e=>(j,e.val)) w':=by
 have J:∀ {l:List (a.den×n)} {es:List MapEntry} (i:Nat),S4 (T3 (C7 a w Z) g) Rv es l->(Instr.findAsking T v es i).run P w'= .ok ((O0 a k l i).bind fun j=>(es[j-i]?).map fun e=>(j,e.val)) w':=by
  intro l
  induction l with
  |nil=>intro es i b;rw[show es= []from b];rfl
  |cons x l u=>
   intro es i b;obtain⟨e,M,rfl,f,o,F⟩:=b;have I:=cE h D f w';unfold Instr.findAsking O0;simp only[Sem.run_bind,Op.equal,Op.maxDepth,I,Result.andThen_ok];cases DR a k x.1 with
   |true=>simp
   |false=>
    simp only[vZ,yR,rJ];rw[u (i+1) F];cases H:O0 a k l (i+1)with
    |none=>rfl
    |some j=>
     have N:i+1<=j:=by
      have:∀(l:List (a.den×n)) (i j:Nat),O0 a k l i=some j->i<=j:=by
       intro l
       induction l with
       |nil=>intro i j t;cases t
       |cons y l u=>
        intro i j t;unfold O0 at t;cases A:DR a k y.1 with
        |true=>simp[A]at t;omega
        |false=>simp[A]at t;have:=u _ _ t;omega
      exact this _ _ _ H
     simp only[wB];rw[show j-i=(j-(i+1))+1 from by omega];simp
 intro l es b;have G:=J 0 b;by_cases z:(match P.underlying T with|some (.array _ _) |some (.struct _)=>true| _=>false)=true
 . rw[run_findKey_eq w' z];exact G
 . have B:=h;simp only[CP,qC]at B;obtain⟨⟨⟨⟨d,_⟩,_⟩,_⟩,s⟩:=B;have E:∀(r:TypeDesc),P.underlying T=some r->(∀(v v':Value) (x y:a.den),T3 (C7 a w Z) g v x->T3 (C7 a w Z) g v' y->Instr.sameNow r v v'=some (DR a x y))->∀ {l:List (a.den×n)} {es:List MapEntry} (i:Nat),S4 (T3 (C7 a w Z) g) Rv es l->Instr.findNow r v es i=some ((O0 a k l i).bind fun j=>(es[j-i]?).map fun e=>(j,e.val)):=by
    intro r N I l
    induction l with
    |nil=>intro es i b;rw[show es= []from b];rfl
    |cons x l A=>
     intro es i b;obtain⟨e,M,rfl,f,o,F⟩:=b;unfold Instr.findNow O0;rw[I _ _ _ _ D f];cases u:DR a k x.1 with
     |true=>simp
     |false=>
      simp only[rJ];rw[A (i+1) F];cases H:O0 a k l (i+1)with
      |none=>rfl
      |some j=>
       have O:i+1<=j:=by
        have:∀(l:List (a.den×n)) (i j:Nat),O0 a k l i=some j->i<=j:=by
         intro l
         induction l with
         |nil=>intro i j t;cases t
         |cons y l A=>
          intro i j t;unfold O0 at t;cases u:DR a k y.1 with
          |true=>simp[u]at t;omega
          |false=>simp[u]at t;have:=A _ _ t;omega
        exact this _ _ _ H
       simp only[wB];rw[show j-i=(j-(i+1))+1 from by omega];simp
   unfold lN at d;split at d
   . rename_i q c;simp only[c,rQ]at s;subst s;cases a<;>simp only at d<;>try cases d
     have:=qA d;subst this;have:=E _ c (fun v v' x y f o=>by
      have t:=f.1;have u:=o.1;simp only[sM,vR]at t u;rw[t,u];simp[Instr.sameNow,DR,BEq.beq]) 0 b
     simp[Instr.findKey,run_underlying c,this]
   . rename_i c;simp only[c,rQ]at s;subst s;cases a<;>simp only at d<;>try cases d
     have:=E _ c (fun v v' x y f o=>by
      have t: [v]= [.bool x]:=f;have u: [v']= [.bool y]:=o;simp only[sM,vR]at t u;rw[t,u];simp[Instr.sameNow,DR]) 0 b
     simp[Instr.findKey,run_underlying c,this]
   . rename_i c;simp[c]at z
   . rename_i c;simp[c]at z
   . cases d
end
def Mi (k:IntKind) (n:Int):MO k (k.wrap n):=by
 unfold MO;cases k<;>simp only[IntKind.wrap,IntKind.min,IntKind.max,IntKind.signed,IntKind.bits]<;>simp<;>(try split)<;>omega
def mG (k:IntKind):MO k 0:=by unfold MO;cases k<;>decide
def B1h (k:IntKind):k.min<=0/\0<=k.max:=mG k
def B3d {k:IntKind} {a b:Int} (l:MO k a):MO k (a.tmod b):=by
 have j:=B1h k;unfold MO at*;rcases g4c 0 a with h|h
 . have d:=zE b h;have f:a.tmod b<=a:=by
    rw[uM h];by_cases g:b=0
    . subst g;simp
    . have i:=yG a b;rcases g4c 0 b with c|c
      . have:=tL c (g0h h c);omega
      . have:=zK c (zC h c);omega
   omega
 . have d:0<=(-a).tmod b:=zE b (by omega);have f:(-a).tmod b<= -a:=by
    rw[uM (by omega)];by_cases g:b=0
    . subst g;simp
    . have i:=yG (-a) b;rcases g4c 0 b with c|c
      . have:=tL c (g0h (show 0<= -a by omega) c);omega
      . have:=zK c (zC (show 0<= -a by omega) c);omega
   rw[Int.neg_tmod]at d f;omega
def A9t {k:IntKind} {a:Int} (n:Nat) (f:MO k a):MO k (a.fdiv (2^n)):=by
 have d:=B1h k;have b:(0:Int)<2^n:=Int.pow_pos (by decide);have c:(1:Int)<=2^n:=b;unfold MO at*;rw[sJ _ (by omega)];constructor
 . rw[g2c b];have:k.min*2^n<=k.min*1:=Int.mul_le_mul_of_nonpos_left d.1 c;omega
 . have:a/2^n<k.max+1:=by
    rw[g2b b];have:(k.max+1)*1<=(k.max+1)*2^n:=tY c (by omega);omega
   omega
structure TI where
 ty:Ty
 agg:Bool
 elem:TypeId:=0
 fields:List (Nat×Nat×Bool):= []
 arr:Nat:=0
 bytes:Nat:=0
 eq:Bool:=false
 key:TypeId:=0
 rows:Bool:=false
 nest:List Nat:= []
def zc (t:Ty) (vs:List Value):Option (List Value):=
 match t with
 | .int k=>(match vs with| .int k' n::r=>bif decide (k=k')&&decide (n=0)then some r else none| _=>none)
 | .bool=>(match vs with| .bool b::r=>bif b then none else some r| _=>none)
 | .str=>(match vs with| .string s::r=>bif s.data.isEmpty then some r else none| _=>none)
 | .unit=>some vs
 | .pair a b=>(zc a vs).bind (zc b)
 | .sl _=>(match vs with| .slice none 0 0::r=>some r| _=>none)
 | .ptr _=>(match vs with| .pointer none::r=>some r| _=>none)
 | .mp _ _ _ _=>(match vs with| .map none::r=>some r| _=>none)
def Dc:Ty->List Value
 | .int k=> [.int k 0]
 | .bool=> [.bool false]
 | .str=> [.string ⟨#[]⟩]
 | .unit=> []
 | .pair a b=>Dc a++Dc b
 | .sl _=> [.slice none 0 0]
 | .ptr _=> [.pointer none]
 | .mp _ _ _ _=> [.map none]
def iZ:∀ {t:Ty} {vs r:List Value},zc t vs=some r->vs=Dc t++r
 | .int k,vs,r,h=>by
  simp only[zc]at h;split at h
  . rename_i c n d;cases a:decide (k=c)<;>simp[a]at h;cases b:decide (n=0)<;>simp at b a<;>simp[b]at h;subst b a h;rfl
  . cases h
 | .bool,vs,r,h=>by
  simp only[zc]at h;split at h
  . rename_i b a;cases b<;>simp at h;subst h;rfl
  . cases h
 | .str,vs,r,h=>by
  simp only[zc]at h;split at h
  . rename_i s b;cases a:s.data.isEmpty<;>simp[a]at h;subst h;have:s=⟨#[]⟩:=by cases s;simp at a;simp[a]
    rw[this];rfl
  . cases h
 | .unit,vs,r,h=>by simp[zc]at h;subst h;rfl
 | .pair b c,vs,r,h=>by
  simp only[zc]at h;cases a:zc b vs with
  |none=>simp[a]at h
  |some d=>
   simp[a]at h;rw[iZ a,iZ h];simp[Dc]
 | .sl t,vs,r,h=>by
  simp only[zc]at h;split at h
  . cases h;rfl
  . cases h
 | .ptr t,vs,r,h=>by
  simp only[zc]at h;split at h
  . cases h;rfl
  . cases h
 | .mp _ _ _ _,vs,r,h=>by
  simp only[zc]at h;split at h
  . cases h;rfl
  . cases h
def isB (P:Program) (T:TypeId):Bool:=match P.underlying T with|some .bool=>true| _=>false
def A0e (P:Program) (T:TypeId) (f sz:Nat) (agg:Bool):Bool:=
 match P.underlying T with
 |some (.struct a)=>(match a[f]? with|some x=>bif agg then jO P x.type sz else(Gh P x.type&&Nat.beq sz 1) |none=>false)
 | _=>false
def Xu (P:Program) (T:TypeId):Nat->List (Nat×Nat×Bool)->Bool
 | _,[]=>true
 |f,(b,sz,a)::r=>MK P T f b&&A0e P T f sz a&&Xu P T (f+1) r
def Ph (P:Program) (T:TypeId) (t:Ty):Bool:=match Ee P T with|some z=>(match zc t z.cells.toList with|some []=>true| _=>false) |none=>false
def LI (P:Program) (T:TypeId) (a:Bool):Bool:=match Ee P T with|some (.agg _)=>a|some (.tuple _)=>false|some _=> !a|none=>false
def Um (P:Program) (T:TypeId) (ti:TI):Bool:=
 Rq P T ti.ty.size&&(bif ti.agg then jO P T ti.ty.size else(Gh P T&&Nat.beq ti.ty.size 1))&&Ph P T ti.ty&&
 (match ti.ty with
  | .bool=>isB P T
  | .str=>(match P.underlying T with|some .string=>true| _=>false)
  | .sl t=>Gi P T ti.elem t.size&&Ph P ti.elem t&&(match P.info? ti.elem with|some i=>Nat.beq i.bytes ti.bytes|none=>false)
  | .int k=>(match P.underlying T with|some (.int k')=>decide (k=k') | _=>false)
  | .mp a b c d=>(match P.underlying T with|some (.map k e)=>Nat.beq k ti.key&&Nat.beq e ti.elem| _=>false)&&CP P ti.key a b&&Ph P ti.elem d&&LI P ti.elem c
  | _=>true)&&
 (bif ti.fields.isEmpty then true else(Xu P T 0 ti.fields&&(match BH P T with|some pl=>decide (pl=ti.fields.map fun x=>(x.1,x.2.1)) |none=>false)))&&
 (bif Nat.beq ti.arr 0 then true else(match P.underlying T with|some (.array n e)=>Nat.beq n ti.arr&&Nat.beq e ti.elem| _=>false))&&
 (bif ti.eq then CP P T ti.agg ti.ty else true)
def Oh:Value->C
 | .int k n=>bif decide (k.min<=n)&&decide (n<=k.max)then .val (.int k) n else .raw (.int k n)
 | .bool b=> .val .bool b
 | .string s=> .val .str s
 |v=>bif v.oneCell' then .raw v else .dead
def fO:Value->SV
 | .agg a=>⟨true,a.toList.map Oh⟩
 |v=>⟨false,[Oh v]⟩
def AT {w:World} {Z:Nat->Prop} {B:Nat->Value} {n:Nat} (v:Value):RC w Z B (Oh v) v/\Cb n (Oh v):=by
 cases v with
 |int k m=>
  simp only[Oh];cases h:decide (k.min<=m)&&decide (m<=k.max)with
  |true=>simp at h;simp only[qW];exact⟨⟨rfl,h⟩,trivial⟩
  |false=>simp only[rJ];exact⟨⟨rfl,rfl⟩,trivial⟩
 | _=>exact⟨by first|rfl|exact⟨rfl,rfl⟩ |trivial,by first|trivial|rfl⟩
def Bt {w:World} {Z:Nat->Prop} {B:Nat->Value} {n:Nat} :∀vs:List Value,Co w Z B (vs.map Oh) vs/\∀c∈vs.map Oh,Cb n c
 | []=>⟨rfl,by simp⟩
 |v::vs=>⟨⟨v,vs,rfl,(AT (n:=n) v).1,(Bt (n:=n) vs).1⟩,fun c a=>by
  simp only[rV,qS]at a;rcases a with rfl|a
  . exact(AT (w:=w) (Z:=Z) (B:=B) v).2
  . exact(Bt (w:=w) (Z:=Z) (B:=B) vs).2 c a⟩
def pZ {w:World} {Z:Nat->Prop} {B:Nat->Value} {n:Nat} (v:Value):RS w Z B (fO v) v/\La n (fO v):=by
 have b:∀v,RS w Z B ⟨false,[Oh v]⟩ v/\La n ⟨false,[Oh v]⟩:=fun v=>⟨⟨v,[],rfl,(AT (n:=n) v).1,rfl⟩,fun c hc=>by simp at hc;rw[hc];exact(AT (w:=w) (Z:=Z) (B:=B) v).2⟩
 cases v with
 |agg a=>exact⟨⟨a.toList,by simp,(Bt (n:=n) a.toList).1⟩,(Bt (w:=w) (Z:=Z) (B:=B) a.toList).2⟩
 | _=>exact b _
abbrev Hy:=List (Tmp×Bool)
def mF (t:Tmp) (b:Bool):Hy->Bool
 | []=>false
 | (c,a)::r=>(Nat.beq c t&&(b==a)) ||mF t b r
def St.ev (a:St) (ctx:Hy):Operand->Option SV
 | .tmp t=>match a.S t with
  | .one v=>some v
  | .cnd a b v=>bif mF a b ctx then some v else none
  | _=>none
 | .const v=>some (fO v)
 | .func f=>some ⟨false,[.fn f []]⟩
 | .global _=>none
def gctx (a:St):Nat->Tmp->Bool->Hy
 |0,t,b=> [(t,b)]
 |n+1,t,b=>(t,b)::match a.S t with
  | .cnd c b _=>gctx a n c b
  | _=> []
def OG:SV->Option Bool
 | ⟨false,[.val .bool e]⟩=>some e
 | _=>none
def gval (a:St) (t:Tmp):Option Bool:=match a.S t with
 | .one v=>OG v
 | .cnd _ _ v=>OG v
 | _=>none
def ctxP (a:St):Hy->Prop
 | []=>True
 | (t,b)::r=>match gval a t with
  |some e=>match r with
   | []=>e=b
   |r=>e=b/\ctxP a r
  |none=>ctxP a r
def MC {a:St} {t:Tmp} {b e:Bool} {r:Hy} (c:gval a t=some e):ctxP a ((t,b)::r)↔e=b/\ctxP a r:=by
 simp only[ctxP,c];cases r with
 |nil=>simp[ctxP]
 |cons _ _=>rfl
def P5 (E:H6) (ctx:Hy):Prop:=∀t b,(t,b)∈ctx->E t= .bool b
def bY {t:Tmp} {b:Bool} :∀ {ctx:Hy},mF t b ctx=true->(t,b)∈ctx
 | (f,d)::r,h=>by
  simp only[mF,vA,qC]at h;rcases h with⟨c,a⟩ |h
  . have:=qD c;simp at a;subst this a;simp
  . simp[bY h]
def EJ (b:Bool):undef≠ .bool b:=by simp[undef]
section
variable {za:Zn} {w0 w:World} {Z:Nat->Prop} {B:Nat->Value} {st:St} {E:H6}
def C3.ev (h:C3 za w0 st E w Z B) {ctx:Hy} (c:P5 E ctx) {x:Operand} {v:SV} (a:st.ev ctx x=some v):RS w Z B v (Gw.ev E x)/\La st.nx v:=by
 cases x with
 |tmp t=>
  have b:=h.slots t;have f:=h.refs t;simp only[St.ev]at a;cases d:st.S t with
  |one u=>rw[d]at b f a;cases a;exact⟨b,f⟩
  |tup _=>rw[d]at a;cases a
  |dead=>rw[d]at a;cases a
  |cnd j i u=>
   rw[d]at b f a;cases g:mF j i ctx with
   |false=>simp[g]at a
   |true=>
    simp[g]at a;subst a;rcases b with⟨_,b⟩ | ⟨b,_⟩
    . exact⟨b,f⟩
    . exact absurd (c j i (bY g)) b
 |const u=>cases a;exact pZ u
 |func f=>cases a;exact⟨⟨_,[],rfl,by show _= _;rfl,rfl⟩,fun d c=>by simp at c;subst c;exact fun k b=>by cases b⟩
 |global g=>cases a
def C3.gctx (h:C3 za w0 st E w Z B):∀ {n:Nat} {t:Tmp} {b:Bool},E t= .bool b->P5 E (gctx st n t b)
 |0,t,b,c=>fun f d a=>by simp[Vc.gctx]at a;rw[a.1,a.2];exact c
 |n+1,t,b,f=>fun j i a=>by
  unfold Vc.gctx at a;rcases qS.1 a with a|a
  . cases a;exact f
  . have g:=h.slots t;cases d:st.S t with
    |cnd l k u=>
     rw[d]at g a;rcases g with⟨c,_⟩ | ⟨_,c⟩
     . exact h.gctx c j i a
     . rw[f]at c;exact absurd c.symm (EJ b)
    |one _=>rw[d]at a;cases a
    |tup _=>rw[d]at a;cases a
    |dead=>rw[d]at a;cases a
def Ps {v:SV} {e:Bool} {u:Value} (h:RS w Z B v u) (a:OG v=some e):u= .bool e:=by
 unfold OG at a;split at a
 . cases a;obtain⟨_,_,b,c,_⟩:=h;cases b;simpa[RC,C7]using c
 . cases a
def C3.gval (h:C3 za w0 st E w Z B) {t:Tmp} {b e:Bool} (f:E t= .bool b) (a:gval st t=some e):e=b:=by
 have c:=h.slots t;unfold Vc.gval at a;cases d:st.S t with
 |one u=>rw[d]at c a;have:=Ps c a;rw[f]at this;cases this;rfl
 |tup _=>rw[d]at a;cases a
 |dead=>rw[d]at a;cases a
 |cnd i g u=>
  rw[d]at c a;rcases c with⟨_,c⟩ | ⟨_,c⟩
  . have:=Ps c a;rw[f]at this;cases this;rfl
  . rw[f]at c;exact absurd c.symm (EJ b)
def C3.ctxP (h:C3 za w0 st E w Z B):∀ {ctx:Hy},P5 E ctx->ctxP st ctx
 | [],_=>trivial
 | (t,b)::r,c=>by
  have d:=h.ctxP (ctx:=r) fun t b hm=>c t b (qM _ hm)
  cases a:Vc.gval st t with
  |none=>simp only[Vc.ctxP,a];exact d
  |some e=>exact(MC a).2 ⟨h.gval (c t b (by simp)) a,d⟩
end
def explode:(t:Ty)->t.den->List C
 | .pair a b,x=>explode a x.1++explode b x.2
 | .unit,_=> []
 | .int k,x=> [.val (.int k) x]
 | .bool,x=> [.val .bool x]
 | .str,x=> [.val .str x]
 | .sl t,x=> [.val (.sl t) x]
 | .ptr t,x=> [.pf t x 0]
 | .mp a b c d,x=> [.val (.mp a b c d) x]
def UA (t:Ty):C->Option t.den
 | .val a x=>if h:a=t then some (h▸x)else none
 | .raw (.slice none 0 0)=>match t with
  | .sl _=>some []
  | _=>none
 | .raw (.map none)=>match t with
  | .mp _ _ _ _=>some []
  | _=>none
 | .pf a x 0=>if h:Ty.ptr a=t then some (h▸(show(Ty.ptr a).den from x))else none
 | _=>none
def Kx:(t:Ty)->List C->Option (t.den×List C)
 | .pair a b,c=>(Kx a c).bind fun x=>(Kx b x.2).map fun y=>((x.1,y.1),y.2)
 | .unit,a=>some ((),a)
 | .int k,c::r=>(UA (.int k) c).map fun x=>(x,r)
 | .bool,c::r=>(UA .bool c).map fun x=>(x,r)
 | .str,c::r=>(UA .str c).map fun x=>(x,r)
 | .sl t,c::r=>(UA (.sl t) c).map fun x=>(x,r)
 | .ptr t,c::r=>(UA (.ptr t) c).map fun x=>(x,r)
 | .mp a b d f,c::r=>(UA (.mp a b d f) c).map fun x=>(x,r)
 | _,_=>none
def Qq (agg:Bool) (t:Ty) (s:SV):Option t.den:=
 bif s.agg==agg then(match Kx t s.cs with|some (x,[])=>some x| _=>none)else none
section
variable {w:World} {Z:Nat->Prop} {B:Nat->Value} {n:Nat}
def Co.append:∀ {cs cs':List C} {vs a:List Value},Co w Z B cs vs->Co w Z B cs' a->Co w Z B (cs++cs') (vs++a)
 | [],_,_,_,h,b=>by rw[show _= _ from h];exact b
 | _:: _,_,_,a,⟨v,f,e,c,d⟩,b=>⟨v,f++a,by rw[e];rfl,c,Co.append d b⟩
def T5:∀ {t:Ty} {cs:List Value} {x:t.den},C7 t w Z cs x->Co w Z B (explode t x) cs
 | .int k,_,_,h=>⟨_,[],h.1,⟨rfl,h.2⟩,rfl⟩
 | .bool,_,_,h=>⟨_,[],h,rfl,rfl⟩
 | .str,_,_,h=>⟨_,[],h,rfl,rfl⟩
 | .unit,_,_,h=>h
 | .pair c d,_,_,⟨c1,f,e,a,b⟩=>by rw[e];exact(T5 a).append (T5 b)
 | .sl t,_,_,h=>by
  obtain⟨a,b,e,r⟩:=h;exact⟨_,[],e,⟨a,b,rfl,r⟩,rfl⟩
 | .ptr t,_,_,h=>by
  obtain⟨b,o,a,e,r⟩:=h;exact⟨_,[],e,⟨b,o,a,rfl,r⟩,rfl⟩
 | .mp d f g i,_,_,h=>by
  rcases h with⟨e,h⟩ | ⟨b,c,a,e,h⟩
  . exact⟨_,[],e, .inl ⟨rfl,h⟩,rfl⟩
  . exact⟨_,[],e, .inr ⟨b,c,a,rfl,h⟩,rfl⟩
def E9:∀ {t:Ty} {x:t.den},∀c∈explode t x,Cb n c
 | .int k,_,c,h=>by simp[explode]at h;subst h;trivial
 | .bool,_,c,h=>by simp[explode]at h;subst h;trivial
 | .str,_,c,h=>by simp[explode]at h;subst h;trivial
 | .unit,_,c,h=>by simp[explode]at h
 | .pair a b,x,c,h=>by
  simp only[explode,qZ]at h;rcases h with h|h
  . exact E9 c h
  . exact E9 c h
 | .sl t,_,c,h=>by simp[explode]at h;subst h;trivial
 | .ptr t,_,c,h=>by simp[explode]at h;subst h;trivial
 | .mp _ _ _ _,_,c,h=>by simp[explode]at h;subst h;trivial
def fA {t:Ty} {c:C} {x:t.den} {v:Value} (h:RC w Z B c v) (a:UA t c=some x):C7 t w Z [v] x:=by
 unfold UA at a;split at a
 . rename_i j k;split at a
   . rename_i e;subst e;cases a;exact h
   . cases a
 . split at a
   . cases a;rw[show v= _ from h.1];exact⟨none,0,rfl,qT _,rL _,fun _=>rfl, .inl rfl⟩
   . cases a
 . split at a
   . cases a;rw[show v= _ from h.1];exact .inl ⟨rfl,rfl⟩
   . cases a
 . rename_i j k;split at a
   . rename_i e;subst e;cases a;obtain⟨b,o,d,e,f,g,i⟩:=h;exact⟨b,o,d,by rw[e];rfl,f,g,i⟩
   . cases a
 . cases a
def B6b:∀ {t:Ty} {cs r:List C} {vs:List Value} {x:t.den},Co w Z B cs vs->Kx t cs=some (x,r)->∃v1 v2,vs=v1++v2/\C7 t w Z v1 x/\Co w Z B r v2:=by
 have one:∀(t:Ty) {cs r:List C} {vs:List Value} {x:t.den} (c:C),Co w Z B (c::cs) vs->(UA t c).map (fun x=>(x,cs))=some (x,r)->∃v1 v2,vs=v1++v2/\C7 t w Z v1 x/\Co w Z B r v2:=by
  intro t cs r vs x c h b;obtain⟨v,g,e,d,f⟩:=h;cases a:UA t c with
  |none=>simp[a]at b
  |some y=>
   simp[a]at b;obtain⟨rfl,rfl⟩:=b;exact⟨[v],g,e,fA d a,f⟩
 intro t
 induction t with
 |pair g h k l=>
  intro cs r vs x j a;simp only[Kx]at a;cases b:Kx g cs with
  |none=>simp[b]at a
  |some y=>
   simp only[b,wB]at a;cases d:Kx h y.2 with
   |none=>simp[d]at a
   |some z=>
    simp[d]at a;obtain⟨rfl,rfl⟩:=a;obtain⟨v1,v2,e,n,o⟩:=k j (by rw[b]);obtain⟨f,v,i,s,u⟩:=l o (by rw[d]);exact⟨v1++f,v,by rw[e,i];simp,⟨v1,f,rfl,n,s⟩,u⟩
 |unit=>intro cs r vs x h a;simp[Kx]at a;subst a;exact⟨[],vs,rfl,rfl,h⟩
 |int k=>intro cs r vs x h a;cases cs with
  |nil=>simp[Kx]at a
  |cons c cs=>exact one _ c h a
 |bool=>intro cs r vs x h a;cases cs with
  |nil=>simp[Kx]at a
  |cons c cs=>exact one _ c h a
 |str=>intro cs r vs x h a;cases cs with
  |nil=>simp[Kx]at a
  |cons c cs=>exact one _ c h a
 |sl t _=>intro cs r vs x h a;cases cs with
  |nil=>simp[Kx]at a
  |cons c cs=>exact one _ c h a
 |ptr t _=>intro cs r vs x h a;cases cs with
  |nil=>simp[Kx]at a
  |cons c cs=>exact one _ c h a
 |mp b d f g _ _=>intro cs r vs x h a;cases cs with
  |nil=>simp[Kx]at a
  |cons c cs=>exact one _ c h a
def Fy {t:Ty} {cs:List C} {vs:List Value} {x:t.den} (h:Co w Z B cs vs) (c:Kx t cs=some (x,[])):C7 t w Z vs x:=by
 obtain⟨f,d,e,a,b⟩:=B6b h c;rw[show d= []from b,vX]at e;rw[e];exact a
def Dl {a:Bool} {t:Ty} {s:SV} {v:Value} {x:t.den} (h:RS w Z B s v) (b:Qq a t s=some x):Bf a t w Z v x:=by
 obtain⟨d,g⟩:=s;unfold Qq at b;cases c:(d==a)with
 |false=>simp[c]at b
 |true=>
  simp only[c,qW]at b;have:d=a:=by simpa using c
  subst this;split at b
  . rename_i y f;cases b;cases d with
    |true=>obtain⟨vs,e,h⟩:=h;exact⟨vs,e,Fy h f⟩
    |false=>exact Fy (vs:= [v]) h f
  . cases b
def Bf.explode {a:Bool} {t:Ty} {v:Value} {x:t.den} (h:Bf a t w Z v x):RS w Z B ⟨a,explode t x⟩ v:=by
 cases a with
 |true=>obtain⟨cs,e,h⟩:=h;exact⟨cs,e,T5 h⟩
 |false=>exact T5 (cs:= [v]) h
def Co.len:∀ {cs:List C} {vs:List Value},Co w Z B cs vs->cs.length=vs.length
 | [],_,h=>by rw[show _= _ from h];rfl
 | _:: _,_,⟨v,b,e,_,a⟩=>by rw[e,rF,rF,Co.len a]
def Co.drop:∀ {cs:List C} {vs:List Value} (i:Nat),Co w Z B cs vs->Co w Z B (cs.drop i) (vs.drop i)
 |cs,vs,0,h=>h
 | [],_,i+1,h=>by rw[show _= _ from h];simp;rfl
 | _:: _,_,i+1,⟨v,b,e,_,a⟩=>by rw[e];simp only[List.drop_succ_cons];exact Co.drop i a
def Co.take:∀ {cs:List C} {vs:List Value} (i:Nat),Co w Z B cs vs->Co w Z B (cs.take i) (vs.take i)
 |cs,vs,0,h=>by simp;rfl
 | [],_,i+1,h=>by rw[show _= _ from h];simp;rfl
 | _:: _,_,i+1,⟨v,c,e,a,b⟩=>by rw[e];simp only[List.take_succ_cons];exact⟨v,_,rfl,a,Co.take i b⟩
end
def A0l (op:BinOp) (k:IntKind) (a b:Int):Option (Option Prop×C):=
 match op with
 | .add=>some (none, .val (.int k) (k.wrap (a+b)))
 | .sub=>some (none, .val (.int k) (k.wrap (a-b)))
 | .mul=>some (none, .val (.int k) (k.wrap (a*b)))
 | .quo=>some (some (b≠0), .val (.int k) (k.wrap (a.tdiv b)))
 | .rem=>some (some (b≠0), .val (.int k) (a.tmod b))
 | .and=>some (none, .val (.int k) (k.wrap (BitVec.ofInt k.bits a&&&BitVec.ofInt k.bits b).toNat))
 | .or=>some (none, .val (.int k) (k.wrap (BitVec.ofInt k.bits a|||BitVec.ofInt k.bits b).toNat))
 | .xor=>some (none, .val (.int k) (k.wrap (BitVec.ofInt k.bits a^^^BitVec.ofInt k.bits b).toNat))
 | .eql=>some (none, .val .bool (decide (a=b)))
 | .neq=>some (none, .val .bool (decide (a≠b)))
 | .lss=>some (none, .val .bool (decide (a<b)))
 | .leq=>some (none, .val .bool (decide (a<=b)))
 | .gtr=>some (none, .val .bool (decide (b<a)))
 | .geq=>some (none, .val .bool (decide (b<=a)))
 | _=>none
def B8n (op:BinOp):C->C->Option (Option Prop×C)
 | .val (.int k) a, .val (.int c) b=>
  match op with
  | .shl=>some (some (0<=b), .val (.int k) (k.wrap (a*2^(min b.toNat k.bits))))
  | .shr=>some (some (0<=b), .val (.int k) (a.fdiv (2^(min b.toNat k.bits))))
  |op=>bif decide (k=c)then A0l op k a b else none
 | .val .bool a, .val .bool b=>
  match op with
  | .eql=>some (none, .val .bool (a==b))
  | .neq=>some (none, .val .bool (a !=b))
  | _=>none
 | _,_=>none
section
variable {za:Zn} {w0 w:World} {Z:Nat->Prop} {B:Nat->Value} {P:Program} {E:H6}
def C4k {ty:TypeId} {T T':TypeId} {x y:Operand} {a b:Bool} (g:Gw.ev E x= .bool a) (h:Gw.ev E y= .bool b) (d:P.underlying T=some .bool):Gw.E7 P E ty (.binOp .eql T x y T') w (.bool (a==b)) w:=fun _ _ _ _=>by
 have c:=run_equalIn_bool' (P:=P) w 9999 T a b d;have f:(eqGuard .eql T x y (.bool a) (.bool b)).run P w= .ok () w:=rfl;have d:(binOp .eql T (.bool a) (.bool b)).run P w= .ok (.bool (a==b)) w:=by
  show((Op.equal T (.bool a) (.bool b))>>=fun r=>pure (Value.bool r)).run P w= _;unfold Op.equal Op.maxDepth;rw[Sem.run_bind,c];rfl
 simp only[execOp,g,h];simp[f,d]
def B0p {T:TypeId} (h:isB P T=true):P.underlying T=some .bool:=by
 unfold isB at h;split at h
 . assumption
 . cases h
def A5x {op:BinOp} {k:IntKind} {a b:Int} {φ:Option Prop} {c:C} (h:A0l op k a b=some (φ,c)) (d:JC φ) (f:MO k a):∃v,(∀(w':World) (T:TypeId),(binOp op T (.int k a) (.int k b)).run P w'= .ok v w')/\RC w Z B c v/\∀n,Cb n c:=by
 cases op<;>simp only[A0l,rB,Prod.mk.injEq,reduceCtorEq]at h<;>(try exact h.elim)<;>obtain⟨rfl,rfl⟩:=h
 case rem=>exact⟨_,fun w' T=>by simp[binOp,Op.intDiv,show b≠0 from d,go_sem],⟨rfl,B3d f⟩,fun _=>trivial⟩
 case quo=>exact⟨_,fun w' T=>by simp[binOp,Op.intDiv,show b≠0 from d,go_sem],⟨rfl,Mi _ _⟩,fun _=>trivial⟩
 case add|sub|mul=>exact⟨_,fun w' T=>by simp[binOp,Op.intArith,go_sem],⟨rfl,Mi _ _⟩,fun _=>trivial⟩
 case and|or|xor=>exact⟨_,fun w' T=>by simp[binOp,Op.intBits,go_sem],⟨rfl,Mi _ _⟩,fun _=>trivial⟩
 all_goals exact⟨.bool _,fun w' T=>by simp[binOp,Op.intCmp,go_sem];try rfl,rfl,fun _=>trivial⟩
def B4e {op:BinOp} {x y:Operand} {cx r c:C} {φ:Option Prop} {T T' ty:TypeId} (h:B8n op cx r=some (φ,c)) (o:JC φ) (a:RC w Z B cx (Gw.ev E x)) (b:RC w Z B r (Gw.ev E y)) (g:isB P T=true\/∀e,cx≠ .val .bool e):
 ∃v,(∀w',Gw.E7 P E ty (.binOp op T x y T') w' v w')/\RC w Z B c v/\∀n,Cb n c:=by
 unfold B8n at h;split at h
 . rename_i k f A d;obtain⟨a,s⟩:=a;obtain⟨b,D⟩:=b;simp only[sM,vR]at a b;split at h
   . cases h;have i:¬d<0:=Int.not_lt.2 o;have l:∀w',Gw.E7 P E ty (.binOp .shl T x y T') w' (.int k (k.wrap (f*2^(min d.toNat k.bits)))) w':=fun w'=>B3l a b (by simp[binOp,Op.shift,i,go_sem])
     exact⟨_,l,⟨rfl,Mi _ _⟩,fun _=>trivial⟩
   . cases h;have i:¬d<0:=Int.not_lt.2 o;have l:∀w',Gw.E7 P E ty (.binOp .shr T x y T') w' (.int k (f.fdiv (2^(min d.toNat k.bits)))) w':=fun w'=>B3l a b (by simp[binOp,Op.shift,i,go_sem])
     exact⟨_,l,⟨rfl,A9t _ s⟩,fun _=>trivial⟩
   . cases j:decide (k=A)with
     |false=>simp[j]at h
     |true=>
      simp only[j,qW]at h;have:=qA j;subst this;obtain⟨v,u,z⟩:=A5x (P:=P) (w:=w) (Z:=Z) (B:=B) h o s;exact⟨v,fun w'=>B3l a b (u w' T),z⟩
 . rename_i f d;have a:Gw.ev E x= .bool f:=by simpa[RC,C7]using a
   have b:Gw.ev E y= .bool d:=by simpa[RC,C7]using b
   have t:P.underlying T=some .bool:=by
    rcases g with g|g
    . exact B0p g
    . exact absurd rfl (g f)
   split at h
   . cases h;exact⟨_,fun w'=>C4k a b t,rfl,fun _=>trivial⟩
   . cases h;exact⟨_,fun w'=>C4n a b t,rfl,fun _=>trivial⟩
   . cases h
 . cases h
end
structure Cx where
 P:Program
 tys:List (Nat×TI)
def Fo {α:Type} (s:Nat):List (Nat×α)->Option α
 | []=>none
 | (t,x)::l=>bif Nat.beq t s then some x else Fo s l
def Cx.ti (cx:Cx) (T:TypeId):Option TI:=Fo T cx.tys
def G6 (P:Program):List (Nat×TI)->Bool
 | []=>true
 | (T,ti)::l=>Um P T ti&&G6 P l
def C1 {P:Program} :∀ {l:List (Nat×TI)},G6 P l=true->∀ {T:TypeId} {ti:TI},Fo T l=some ti->Um P T ti=true
 | (T',c)::l,h,T,ti,a=>by
  simp only[G6,qC]at h;simp only[Fo]at a;cases b:Nat.beq T' T with
  |true=>simp[b]at a;have:=qD b;subst a this;exact h.1
  |false=>simp[b]at a;exact C1 h.2 a
def c1:SV->Option C
 | ⟨false,[c]⟩=>some c
 | _=>none
def faC (off:Nat):C->Option C
 | .box k o=>some (.box k (o+off))
 | .elp k sz i o=>some (.elp k sz i (o+off))
 | .pf t x o=>some (.pf t x (o+off))
 | _=>none
def cut (off n:Nat) (cs:List C):Option (List C):=(fun s=>bif Nat.beq s.length n then some s else none) ((cs.drop off).take n)
def DW (q:Nat):List (Nat×Nat)->Option Nat
 | []=>none
 | (i,p)::r=>bif Nat.beq p q then some i else DW q r
def B6i (a:St) (k:Nat):Option ((t:Ty)×List t.den):=match a.L k with
 | .row t _ l=>some ⟨t,l⟩
 | .al j=>match a.L j with
  | .rows t _ _ a al none=>(DW k al).map fun i=>⟨t,a.getD i []⟩
  | _=>none
 | _=>none
def hdC (a:St) (k:Nat):Option ((t:Ty)×List t.den):=match a.L k with
 | .rows t _ _ b _ _=>some ⟨.sl t,b⟩
 | .nest t _ _ b _ _=>bif Nat.beq t.size 1 then some ⟨t,b⟩else none
 | _=>B6i a k
def B0z (b:St) (n:Nat):C->Option (List C)
 | .box k a=>match b.L k with
  | .box _ c=>cut a n c
  | .sbox q t x=>bif Nat.beq q k then cut a n (explode t x)else none
  | _=>none
 | .pf t x a=>cut a n (explode t x)
 | .elp k sz i a=>match B6i b k with
  |some ⟨t,l⟩=>bif Nat.beq sz t.size then cut a n (explode t (l.getD i t.dflt))else none
  |none=>none
 | _=>none
def gx {α:Type} (d:α) (l:List α) (i:Int):α:=l.getD i.toNat d
def B9l (a:St) (i:Int):C->Option (Option Prop×C)
 | .val (.sl t) l=>some (some (0<=i/\i<(l.length:Int)), .pf t (gx t.dflt l i) 0)
 | .row k=>match hdC a k with
  |some ⟨t,l⟩=>some (some (0<=i/\i<(l.length:Int)), .elp k t.size i.toNat 0)
  |none=>none
 | .win k sz a b=>some (some (0<=i/\i<b-a), .elp k sz (a+i).toNat 0)
 | _=>none
def B9s (a:St):C->Option Int
 | .val (.sl _) l=>some (l.length:Int)
 | .row k=>match hdC a k with
  |some ⟨_,l⟩=>some (l.length:Int)
  |none=>none
 | .mp k=>match a.L k with
  | .map _ _ _ _ a=>some (a.length:Int)
  | _=>none
 | .raw (.slice none 0 0)=>some 0
 | .win _ _ b a=>some (a-b)
 | _=>none
def gA:SV->Option Int
 | ⟨false,[.val (.int _) n]⟩=>some n
 | _=>none
def A1r (b:St) (lo a:Option Int):C->Option (Option Prop×C)
 | .val (.sl t) l=>some (some (0<=lo.getD 0/\lo.getD 0<=a.getD (l.length:Int)/\a.getD (l.length:Int)<=(l.length:Int)), .val (.sl t) ((l.take (a.getD (l.length:Int)).toNat).drop (lo.getD 0).toNat))
 | .row k=>match b.L k with
  | .row t _ l=>some (some (0<=lo.getD 0/\lo.getD 0<=a.getD (l.length:Int)/\a.getD (l.length:Int)<=(l.length:Int)), .win k t.size (lo.getD 0) (a.getD (l.length:Int)))
  | _=>none
 | _=>none
def B1g:Op->Bool
 | .load _ _=>true
 | .lookup _ _ _ _=>true
 | _=>false
section
variable {za:Zn} {w0 w:World} {Z:Nat->Prop} {B:Nat->Value} {st:St} {E:H6} {P:Program}
def Xd (P:Program) (st:St) (E:H6) (w:World) (Z:Nat->Prop) (B:Nat->Value) (ty:TypeId) (op:Op) (d:DV):Prop:=
 ∃v,(∀a,(B1g op=true->Q7 w a)->Gw.E7 P E ty op a v a)/\(∀E',RD w Z B E' d v)/\JS st.nx d
def Ho {ty:TypeId} {op:Op} {c:C} {v:Value} (f:∀w',(B1g op=true->Q7 w w')->Gw.E7 P E ty op w' v w') (b:RC w Z B c v) (d:Cb st.nx c):Xd P st E w Z B ty op (.one ⟨false,[c]⟩):=
 ⟨v,f,fun _=>⟨v,[],rfl,b,rfl⟩,fun g a=>by simp at a;subst a;exact d⟩
def kK {s:SV} {c:C} {v:Value} (h:RS w Z B s v) (d:La st.nx s) (a:c1 s=some c):RC w Z B c v/\Cb st.nx c:=by
 unfold c1 at a;split at a
 . cases a;obtain⟨_,_,e,b,_⟩:=h;cases e;exact⟨b,d _ (by simp)⟩
 . cases a
def B5g {s:SV} {n:Int} {v:Value} (h:RS w Z B s v) (b:gA s=some n):∃k,v= .int k n/\MO k n:=by
 unfold gA at b;split at b
 . cases b;obtain⟨_,_,e,a,_⟩:=h;cases e;obtain⟨a,c⟩:=a;simp only[sM,vR]at a;exact⟨_,a,c⟩
 . cases b
def C1v {T ty:TypeId} {x:Operand} {c j:C} {f off:Nat} (d:MK P T f off=true) (a:RC w Z B c (Gw.ev E x)) (g:Cb st.nx c) (h:faC off c=some j):Xd P st E w Z B ty (.fieldAddr T x f) (.one ⟨false,[j]⟩):=by
 unfold faC at h;split at h<;>cases h
 . obtain⟨b,e,i⟩:=a;exact Ho (fun k _=>AI i d) ⟨b,e,rfl⟩ g
 . obtain⟨b,m,l,e,r,i⟩:=a;exact Ho (fun k _=>AI i d) ⟨b,m,l,e,r,by rw[uG]⟩ g
 . obtain⟨b,t,n,e,s,o,a⟩:=a;exact Ho (fun k _=>AI e d) ⟨b,t,n,by rw[uG],s,o,a⟩ g
def UK {cs cs':List C} {vs:List Value} {off n:Nat} (h:Co w Z B cs vs) (a:cut off n cs=some cs'):Co w Z B cs' ((vs.drop off).take n)/\((vs.drop off).take n).length=n/\∀c∈cs',c∈cs:=by
 unfold cut at a;have d:=(h.drop off).take n;cases b:Nat.beq ((cs.drop off).take n).length n with
 |false=>simp only[b,rJ]at a;cases a
 |true=>
  simp only[b,qW,rB]at a;subst a;exact⟨d,by rw[<-d.len];exact qD b,fun c a=>vM (sC a)⟩
def IZ {T ty:TypeId} {x:Operand} {b o:Nat} {cs:List C} {vs:List Value} {agg:Bool} (k:Gw.ev E x= .pointer (some ⟨b,o,none⟩)) (l:b<w.heap.size) (n:J2 w ⟨b,o,none⟩ vs) (i:Co w Z B cs vs) (h:∀c∈cs,Cb st.nx c)
 (d:(agg=true/\jO P T vs.length=true)\/(agg=false/\Gh P T=true/\vs.length=1)):Xd P st E w Z B ty (.load T x) (.one ⟨agg,cs⟩):=by
 have g:∀a,Q7 w a->J2 a ⟨b,o,none⟩ vs:=fun a f j v hj=>by
  have:=n j v hj;rw[K6]at this⊢;rw[<-this];exact World.cell?_of_block (f.block b l)
 rcases d with⟨rfl,d⟩ | ⟨rfl,d,r⟩
 . exact⟨.agg vs.toArray,fun a f=>A2j k d rfl (g a (f rfl)),fun _=>⟨vs,rfl,i⟩,h⟩
 . match vs,r with
   | [v],_=>
    refine⟨v,fun a f=>iY k d ?_,fun _=>i,h⟩;have:=g a (f rfl) 0 v rfl;rwa[K6]at this
def Kc {q i:Nat} :∀ {al:List (Nat×Nat)},DW q al=some i->(i,q)∈al
 | [],h=>by cases h
 | (j,p)::r,h=>by
  simp only[DW]at h;cases a:Nat.beq p q with
  |true=>simp only[a,qW,rB]at h;have:=qD a;subst this;subst h;simp
  |false=>simp only[a,rJ]at h;exact qM _ (Kc h)
def iK {U:Nat->Prop} {t:Ty} {k e e' i q:Nat} {ls:List (List t.den)} {al:List (Nat×Nat)} (h:RL U w Z B k (.rows t e e' ls al none)) (u:DW q al=some i):
 ∃xs b,w.ownsRow 0 e 1 (B k) ls.length xs/\AtV xs i (B q)/\w.ownsRow 0 e' t.size (B q) (ls.getD i []).length b/\G2 (C7 t w Z) b (ls.getD i []):=by
 obtain⟨xs,a,⟨n,o,v⟩,x,y⟩:=h;rcases n _ (Kc u)with d| ⟨f,c⟩
 case inr=>
  have l:=a.1;rw[qE,rT (by simp only at f;omega)];refine⟨xs,[],a, .inr ⟨f,c⟩, ?_,rfl⟩;simp only at c;rw[c];exact World.ownsRow_nil _ _ _ _
 have r:i<ls.length:=by have:=(sP.1 d).1;have l:=a.1;omega
 have s:ls[i]? =some (ls.getD i []):=by rw[qE,qP r];rfl
 obtain⟨b,g,j⟩:=o i _ _ rfl s d;exact⟨xs,b,a, .inl d,g,j⟩
def A4h (h:C3 za w0 st E w Z B) {k:Nat} {t:Ty} {l:List t.den} (a:B6i st k=some ⟨t,l⟩):∃e xs,w.ownsRow 0 e t.size (B k) l.length xs/\G2 (C7 t w Z) xs l:=by
 unfold B6i at a;split at a
 . rename_i s e x c;cases a;have b:=h.locs k;rw[c]at b;obtain⟨xs,o,i,_⟩:=b;exact⟨e,xs,o,i⟩
 . rename_i r c;split at a
   . rename_i s e d y al n;simp only[qL]at a;obtain⟨v,j,a⟩:=a;cases a;have b:=h.locs r;rw[n]at b;obtain⟨_,u,_,_,f,g⟩:=iK b j;exact⟨d,u,f,g⟩
   . cases a
 . cases a
def B0g (h:C3 za w0 st E w Z B) {k:Nat} {t:Ty} {l:List t.den} (a:hdC st k=some ⟨t,l⟩):∃e xs,w.ownsRow 0 e t.size (B k) l.length xs:=by
 unfold hdC at a;split at a
 . rename_i g e i n al s d;cases a;have b:=h.locs k;rw[d]at b;obtain⟨xs,f,_⟩:=b;exact⟨e,xs,f⟩
 . rename_i g e i n o r d;cases c:Nat.beq g.size 1 with
   |false=>simp only[c,rJ]at a;cases a
   |true=>
    simp only[c,qW]at a;cases a;have b:=h.locs k;rw[d]at b;obtain⟨xs,j,_⟩:=b;exact⟨e,xs,by rw[qD c];exact j.own⟩
 . obtain⟨e,xs,f,_⟩:=A4h h a;exact⟨e,xs,f⟩
def B5o (h:C3 za w0 st E w Z B) {T ty:TypeId} {x:Operand} {c:C} {cs:List C} {n:Nat} {agg:Bool} (A:RC w Z B c (Gw.ev E x)) (a:B0z st n c=some cs)
 (z:(agg=true/\jO P T n=true)\/(agg=false/\Gh P T=true/\n=1)):Xd P st E w Z B ty (.load T x) (.one ⟨agg,cs⟩):=by
 unfold B0z at a;split at a
 . rename_i D l;split at a
   . rename_i ag ad s;have r:=h.locs D;have O:=h.refl D;rw[s]at r O;obtain⟨k,ah,e,_,_,Q,u⟩:=r;obtain⟨V,o,i⟩:=A;rw[e]at o;cases o;obtain⟨d,f,g⟩:=UK u a;have:=S7 Q.cellsAt l n;rw[sB]at this;exact IZ i Q.lt this d (fun c b=>O c (g c b)) (by rw[f];exact z)
   . rename_i q t aa s;cases G:Nat.beq q D with
     |false=>simp only[G,rJ]at a;cases a
     |true=>
      simp only[G,qW]at a;have:=qD G;subst this;have r:=h.locs q;rw[s]at r;obtain⟨_,⟨k,a8,W,y,J,b,H⟩,_⟩:=r;simp only[sM,vR]at y;obtain⟨V,o,i⟩:=A;rw[y]at o;cases o;obtain⟨d,f,g⟩:=UK (T5 (B:=B) H) a;have u:=S7 b l n;rw[sB]at u;exact IZ i (h.zlt _ J) u d (fun c b=>E9 c (g c b)) (by rw[f];exact z)
   . cases a
 . rename_i t aa l;obtain⟨k,a8,W,i,J,b,H⟩:=A;obtain⟨d,f,g⟩:=UK (T5 (B:=B) H) a;exact IZ i (h.zlt k J) (S7 b l n) d (fun c b=>E9 c (g c b)) (by rw[f];exact z)
 . rename_i D sz M l;split at a
   . rename_i t N s;cases I:Nat.beq sz t.size with
     |false=>simp[I]at a
     |true=>
      simp only[I,qW]at a;have a6:=qD I;subst a6;obtain⟨e,a9,y,a1⟩:=A4h h s;obtain⟨k,m,ab,X,R,i⟩:=A;rw[X]at y;have a5:m=N.length:=by
       rcases y.2 with⟨F,_⟩ | ⟨_,_,_,F,_⟩<;>cases F
       rfl
      subst a5;have a4:=G2.get (fun _ _ h=>C7.length h) a1 (qP R);have a3:N.getD M t.dflt=N[M]:=by rw[qE,qP R];rfl
      rw[a3]at a;obtain⟨d,f,g⟩:=UK (T5 (B:=B) a4) a;have Y:=(World.ownsRow.lt y k rfl).2;have a0:J2 w ⟨k,0,none⟩ a9:=fun j v hj=>by
       rcases y.2 with⟨F,_⟩ | ⟨af,ac,ae,F,_,a2,_,_,_,a7⟩
       . cases F
       . cases F;rw[K6,sB];simp only[World.cell?,a2];rw[<-a7,wN]at hj;split at hj
         . simpa using hj
         . cases hj
      have U:=S7 (S7 a0 (M*t.size) t.size) l n;rw[sB]at U;exact IZ i Y U d (fun c b=>E9 c (g c b)) (by rw[f];exact z)
   . cases a
 . cases a
def H5 {α:Type} {d:α} {l:List α} {i:Int} (a:0<=i) (b:i<(l.length:Int)):l[i.toNat]? =some (gx d l i):=by
 have a:i.toNat<l.length:=by omega
 rw[gx,qE,qP a];rfl
def B0k (h:C3 za w0 st E w Z B) {T ty e:TypeId} {x ix:Operand} {c u:C} {i:Int} {φ:Option Prop} {a9:IntKind} (H:RC w Z B c (Gw.ev E x)) (G:Gw.ev E ix= .int a9 i) (b:B9l st i c=some (φ,u)) (J:JC φ)
 (D:∀s,(∃t y,u= .pf t y 0/\s=t.size)\/(∃k j,u= .elp k s j 0)->Gi P T e s=true) (Q:Cb st.nx c):Xd P st E w Z B ty (.indexAddr T x ix) (.one ⟨false,[u]⟩):=by
 unfold B9l at b;split at b
 . rename_i t M;cases b;obtain⟨n,l⟩:=J;have o:=D t.size (.inl ⟨t,_,rfl,rfl⟩);obtain⟨A,f,O,aj,ak,am,F⟩:=H;simp only[sM,vR]at O;have a1:=H5 (d:=t.dflt) n l;rcases F with F| ⟨N,U,ad,X,a8,Y,a0⟩
   . subst F;simp at l;omega
   . subst X;have a2:=G2.get (fun _ _ h=>C7.length h) a0 a1;refine Ho (v:= .pointer (some ⟨N,U+i.toNat*t.size+0,none⟩)) (fun r _=> ?_) ⟨N,U+i.toNat*t.size,_,rfl,a8,S7 Y _ t.size,a2⟩ trivial;have:=B3m (P:=P) (w:=r) (ty:=ty) (sz:=t.size) O G o n l;rwa[K6]at this
 . rename_i k;split at b
   . rename_i t M a4;cases b;obtain⟨n,l⟩:=J;have o:=D t.size (.inr ⟨_,_,rfl⟩);obtain⟨ac,an,a7⟩:=B0g h a4;rcases a7.2 with⟨_,a5⟩ | ⟨g,f,ab,z,_⟩
     . rw[a5]at l;omega
     . have I:Gw.ev E x= .slice (some ⟨g,0,none⟩) M.length f:=(show Gw.ev E x=B k from H).trans z;refine Ho (v:= .pointer (some ⟨g,i.toNat*t.size+0,none⟩)) (fun r _=> ?_) ⟨g,M.length,f,z,by omega,rfl⟩ Q;have:=B3m (P:=P) (w:=r) (ty:=ty) (sz:=t.size) I G o n l;rwa[K6,sB]at this
   . cases b
 . rename_i k sz a a3;cases b;obtain⟨n,l⟩:=J;have o:=D sz (.inr ⟨_,_,rfl⟩);obtain⟨A,aa,f,z,V,W,ae,af,ag,ah,ai,R⟩:=H;have a6:¬f=a.toNat:=by omega
   rw[qH a6]at R;obtain⟨g,rfl⟩:∃g,A=some ⟨g,0,none⟩:=by
    cases A with
    |none=>have:=W rfl;omega
    |some x=>obtain⟨g,rfl⟩:=V x rfl;exact⟨g,rfl⟩
   have I:Gw.ev E x= .slice (some ⟨g,a.toNat*sz,none⟩) (a3.toNat-a.toNat) (f-a.toNat):=by
    rw[R,wI,K6,sB]
   refine Ho (v:= .pointer (some ⟨g,(a+i).toNat*sz+0,none⟩)) (fun r _=> ?_) ⟨g,aa,f,z,by omega,rfl⟩ Q;have:=B3m (P:=P) (w:=r) (ty:=ty) (sz:=sz) I G o n (by omega);rw[K6]at this;rw[show(a+i).toNat*sz+0=a.toNat*sz+i.toNat*sz by rw[<-uZ,show(a+i).toNat=a.toNat+i.toNat by omega,sU]];exact this
 . cases b
def B9t (h:C3 za w0 st E w Z B) {T ty e:TypeId} {s:Nat} {x:Operand} {c:C} {n:Int} (d:RC w Z B c (Gw.ev E x)) (a:B9s st c=some n) (D:Gi P T e s=true) (z:∀k,c≠ .mp k):
 Xd P st E w Z B ty (.call ⟨.builtin .len, #[x], #[T]⟩) (.one ⟨false,[.val (.int .i64) n]⟩):=by
 have mk:∀(f:Option Addr) (m b:Nat),Gw.ev E x= .slice f m b->m<=maxLen->Xd P st E w Z B ty (.call ⟨.builtin .len, #[x], #[T]⟩) (.one ⟨false,[.val (.int .i64) (m:Int)]⟩):=fun f m b g hm=>
  Ho (fun Y _=>C4l g D) ⟨rfl,by
   unfold MO;have U:i64.min= -9223372036854775808:=by decide
   have V:i64.max=9223372036854775807:=by decide
   simp only[maxLen]at hm;omega⟩ trivial
 unfold B9s at a;split at a
 . cases a;obtain⟨f,b,j,u,y,_⟩:=d;simp only[sM,vR]at j;exact mk f _ b j (qY u y)
 . rename_i k;split at a
   . rename_i X W v;cases a;obtain⟨G,a0,A⟩:=B0g h v;have d:Gw.ev E x=B k:=d;rcases A.2 with⟨g,a⟩ | ⟨H,b,F,i,_,_,r,t,_⟩
     . rw[a];exact mk none 0 0 (d.trans g) (rL _)
     . exact mk _ _ b (d.trans i) (qY r t)
   . cases a
 . exact absurd rfl (z _)
 . cases a;exact mk none 0 0 (show _= _ from d.1) (rL _)
 . rename_i k sz o l;cases a;obtain⟨f,n,b,i,Q,R,I,J,M,N,O,g⟩:=d;have:=mk _ _ _ g (by omega);rwa[show((l.toNat-o.toNat:Nat):Int)=l-o by omega]at this
 . cases a
end
section
variable {za:Zn} {w0 w:World} {Z:Nat->Prop} {B:Nat->Value} {st:St} {E:H6} {P:Program}
def A4r {T e ty:TypeId} {x:Operand} {lo d:Option Operand} {a:Option Addr} {len b size l h:Nat} (u:Gw.ev E x= .slice a len b) (s:Gi P T e size=true)
 (c:match lo with|none=>l=0|some o=>∃k,Gw.ev E o= .int k (l:Int)) (hhi:match d with|none=>h=len|some o=>∃k,Gw.ev E o= .int k (h:Int)) (hlh:l<=h) (hhc:h<=b) (w:World):
 Gw.E7 P E ty (.slice T x lo d none) w (.slice (if b=l then a else a.map (·.add (l*size))) (h-l) (b-l)) w:=fun _ _ _ _=>by
 obtain⟨t,v⟩:=Ir s;have j:=Gw.Et (P:=P) (w:=w) v;have f:(l:Int)<=(h:Int):=by omega
 have g:(h:Int)<=(b:Int):=by omega
 have n:(Instr.sliceBounds true len b (lo.map (Gw.ev E)) (d.map (Gw.ev E)) none).run P w= .ok (l,h,b) w:=by
  unfold Instr.sliceBounds;cases d with
  |none=>
   simp only at hhi;subst hhi;cases lo with
   |none=>simp only at c;subst c;simp[go_sem]
   |some o=>obtain⟨k,i⟩:=c;simp[Instr.sliceBound,asIntOf,i,f,hlh,go_sem]
  |some z=>
   obtain⟨y,i⟩:=hhi;cases lo with
   |none=>simp only at c;subst c;simp[Instr.sliceBound,asIntOf,i,g,hhc,go_sem]
   |some o=>obtain⟨k,r⟩:=c;simp[Instr.sliceBound,asIntOf,r,i,f,g,hlh,hhc,go_sem]
 simp only[execOp,u];unfold Instr.sliceAt Instr.slice;simp only[Sem.run_bind,run_underlying t,Result.andThen_ok,Option.map_none,n,j,Sem.run_pure]
def A8f (E:H6):Option Operand->Option Int->Prop
 |none,i=>i=none
 |some o,i=>∃k j,i=some j/\Gw.ev E o= .int k j
def A4d {t:Ty} {a:Option Addr} {n c:Nat} {l:List t.den} {L H:Int} (h:C7 (.sl t) w Z [.slice a n c] l) (D:0<=L) (E:L<=H) (r:H<=(n:Int)):
 C7 (.sl t) w Z [.slice (if c=L.toNat then a else a.map (·.add (L.toNat*t.size))) (H.toNat-L.toNat) (c-L.toNat)] ((l.take H.toNat).drop L.toNat):=by
 obtain⟨A,B,i,F,I,x,d⟩:=h;simp only[sM,vR,Value.slice.injEq]at i;obtain⟨rfl,rfl,rfl⟩:=i;have f:((l.take H.toNat).drop L.toNat).length=H.toNat-L.toNat:=by simp;omega
 refine⟨_,_,by rw[f],by rw[f];omega,by omega,fun b=> ?_, ?_⟩
 . split at b
   . omega
   . have:=x (by simpa using b);omega
 by_cases G:H.toNat=L.toNat
 . left;exact qO (by rw[f];omega)
 . right;rcases d with d| ⟨k,z,g,s,b,u,v⟩
   . subst d;simp at r;omega
   . subst s;have o:=G2.drop (fun _ _ h=>C7.length h) L.toNat (G2.take (fun _ _ h=>C7.length h) H.toNat v);refine⟨k,z+L.toNat*t.size,(g.take (H.toNat*t.size)).drop (L.toNat*t.size), ?_,b, ?_,o⟩
     . rw[qH (by omega),wI,K6]
     . have j:=S7 u 0 (H.toNat*t.size);rw[tZ,sU]at j;have y:=S7 j (L.toNat*t.size) ((g.take (H.toNat*t.size)).drop (L.toNat*t.size)).length;rwa[uS]at y
def oB (h:C3 za w0 st E w Z B) {T ty e:TypeId} {x:Operand} {lo j:Option Operand} {o n:Option Int} {c u:C} {φ:Option Prop} (d:RC w Z B c (Gw.ev E x)) (g:A1r st o n c=some (φ,u)) (ai:Cb st.nx c) (a2:JC φ)
 (G:A8f E lo o) (F:A8f E j n)
 (a0:∀s,(∃t y,u= .val (.sl t) y/\s=t.size)\/(∃k lo j,u= .win k s lo j)->Gi P T e s=true):Xd P st E w Z B ty (.slice T x lo j none) (.one ⟨false,[u]⟩):=by
 unfold A1r at g;split at g
 . rename_i t l;cases g;have O:=a0 t.size (.inl ⟨t,_,rfl,rfl⟩);obtain⟨V,W,J⟩:=a2;obtain⟨i,a,Y,an,ap,ag,M⟩:=d;simp only[sM,vR]at Y;generalize f:o.getD 0=L at*;generalize z:n.getD (l.length:Int)=H at*;have N:((l.take H.toNat).drop L.toNat).length=H.toNat-L.toNat:=by simp;omega
   refine Ho (fun R _=>A4r (l:=L.toNat) (h:=H.toNat) Y O ?_ ?_ (by omega) (by omega) R) ?_ trivial
   . cases lo with
     |none=>rw[show o=none from G]at f;simp at f;simp only;omega
     |some r=>obtain⟨k,ab,b,Q⟩:=G;subst b;simp at f;subst f;exact⟨k,by rw[Q];congr 1;omega⟩
   . cases j with
     |none=>rw[show n=none from F]at z;simp at z;simp only;omega
     |some r=>obtain⟨k,ab,b,Q⟩:=F;subst b;simp at z;subst z;exact⟨k,by rw[Q];congr 1;omega⟩
   . refine⟨_,_,by rw[N],by rw[N];omega,by omega,fun I=> ?_, ?_⟩
     . split at I
       . omega
       . have:=ag (by simpa using I);omega
     by_cases ao:H.toNat=L.toNat
     . left;exact qO (by rw[N];omega)
     . right;rcases M with M| ⟨a3,r,U,a9,I,aa,ac⟩
       . subst M;simp at J;omega
       . subst a9;have b:=G2.drop (fun _ _ h=>C7.length h) L.toNat (G2.take (fun _ _ h=>C7.length h) H.toNat ac);refine⟨a3,r+L.toNat*t.size,(U.take (H.toNat*t.size)).drop (L.toNat*t.size), ?_,I, ?_,b⟩
         . rw[qH (by omega),wI,K6]
         . have a1:=S7 aa 0 (H.toNat*t.size);rw[tZ,sU]at a1;have aj:=S7 a1 (L.toNat*t.size) ((U.take (H.toNat*t.size)).drop (L.toNat*t.size)).length;rwa[uS]at aj
 . rename_i k;split at g
   . rename_i t am l ad;cases g;have O:=a0 t.size (.inr ⟨_,_,_,rfl⟩);obtain⟨V,W,J⟩:=a2;have f:=h.locs k;rw[ad]at f;obtain⟨aq,ah,_,_⟩:=f;have a8:Gw.ev E x=B k:=d;generalize D:o.getD 0=L at*;generalize A:n.getD (l.length:Int)=H at*;obtain⟨i,a,X,a4,a7,a5,a6⟩:∃i a,B k= .slice i l.length a/\(∀x,i=some x->∃v,x=⟨v,0,none⟩)/\(i=none->a=0)/\l.length<=a/\a<=maxLen:=by
      rcases ah.2 with⟨Q,ae⟩ | ⟨v,a,ak,Q,_,_,af,ab,_⟩
      . exact⟨none,0,by rw[Q,ae],fun x d=>(by cases d),fun _=>rfl,by omega,rL _⟩
      . exact⟨some ⟨v,0,none⟩,a,Q,fun x d=>⟨v,by cases d;rfl⟩,fun d=>(by cases d),af,ab⟩
     refine Ho (fun R _=>A4r (l:=L.toNat) (h:=H.toNat) (a8.trans X) O ?_ ?_ (by omega) (by omega) R) ⟨i,l.length,a,X,a4,a7,V,W,J,a5,a6,rfl⟩ ai
     . cases lo with
       |none=>rw[show o=none from G]at D;simp at D;simp only;omega
       |some r=>obtain⟨k,ab,b,Q⟩:=G;subst b;simp at D;subst D;exact⟨k,by rw[Q];congr 1;omega⟩
     . cases j with
       |none=>rw[show n=none from F]at A;simp at A;simp only;omega
       |some r=>obtain⟨k,ab,b,Q⟩:=F;subst b;simp at A;subst A;exact⟨k,by rw[Q];congr 1;omega⟩
   . cases g
 . cases g
def B5h (P:Program) (T:TypeId) (k:IntKind):Bool:=match P.underlying T with|some (.int k')=>decide (k=k') | _=>false
def bZ {T:TypeId} {k:IntKind} (h:B5h P T k=true):P.underlying T=some (.int k):=by
 unfold B5h at h;split at h
 . rename_i b a;have:=qA h;subst this;exact a
 . cases h
def B4j {T T' ty:TypeId} {x:Operand} {k k':IntKind} {a:Int} (b:RC w Z B (.val (.int k) a) (Gw.ev E x)) (c:∃d,P.underlying T=some d) (f:B5h P T' k'=true):Xd P st E w Z B ty (.convert T T' x) (.one ⟨false,[.val (.int k') (k'.wrap a)]⟩):=by
 obtain⟨b,_⟩:=b;simp only[sM,vR]at b;obtain⟨d,g⟩:=c;have h:=bZ f;refine Ho (v:= .int k' (k'.wrap a)) (fun i _=> ?_) ⟨rfl,Mi _ _⟩ trivial;intro _ _ _ _;simp[execOp,convert,b,run_underlying g,run_underlying h,Conv.intToInt,go_sem]
def unC (op:UnOp):C->Option C
 | .val .bool b=>match op with
  | .not=>some (.val .bool (!b))
  | _=>none
 | .val (.int k) a=>match op with
  | .neg=>some (.val (.int k) (k.wrap (-a)))
  | .xor=>some (.val (.int k) (k.wrap (BitVec.ofInt k.bits (if k.signed then -1 else k.max)^^^BitVec.ofInt k.bits a).toNat))
  | _=>none
 | _=>none
def C4h {op:UnOp} {T ty:TypeId} {x:Operand} {c b:C} (a:RC w Z B c (Gw.ev E x)) (h:unC op c=some b):Xd P st E w Z B ty (.unOp op T x) (.one ⟨false,[b]⟩):=by
 unfold unC at h;split at h
 . split at h
   . cases h;rename_i f _;have a:Gw.ev E x= .bool f:=by simpa[RC,C7]using a
     exact Ho (fun d _=>C4p a) rfl trivial
   . cases h
 . obtain⟨a,_⟩:=a;simp only[sM,vR]at a;split at h
   . cases h;exact Ho (fun d _=>C4o a) ⟨rfl,Mi _ _⟩ trivial
   . cases h;refine Ho (v:= .int _ _) (fun d _ _ _ _ _=>by simp[execOp,a,Op.unary,Op.intBits,go_sem]) ⟨rfl,Mi _ _⟩ trivial
   . cases h
 . cases h
def Xv (place:Nat->Option (Nat×Nat)):List C->List (Nat×List C)->Option (List C)
 |a,[]=>some a
 |a,(i,c)::r=>match place i with
  |none=>none
  |some (b,sz)=>bif Nat.beq c.length sz&&Nat.ble (b+sz) a.length then Xv place (a.take b++c++a.drop (b+sz)) r else none
def Ei:C->Bool
 | .dead=>false
 | _=>true
def C7.one1 {t:Ty} {v:Value} {x:t.den} (h:C7 t w Z [v] x):v.oneCell'=true:=C7.oneCell h v (by simp)
def RC.one (h:C3 za w0 st E w Z B) {c:C} {v:Value} (b:Ei c=true) (a:RC w Z B c v):v.oneCell'=true:=by
 cases c with
 |val t x=>exact C7.one1 a
 |row k=>rw[show v= _ from a];exact h.bone k
 |box k f=>obtain⟨d,_,e⟩:=a;rw[e];rfl
 |elp k sz i f=>obtain⟨d,_,_,_,_,e⟩:=a;rw[e];rfl
 |win k sz f d=>obtain⟨_,_,_,_,_,_,_,_,_,_,_,e⟩:=a;rw[e];rfl
 |pf t x f=>obtain⟨d,_,_,e,_⟩:=a;rw[e];rfl
 |mp k=>rw[show v= _ from a];exact h.bone k
 |fn f d=>rw[show v= _ from a];rfl
 |fv _ _ _ _ _ _=>obtain⟨_,_,e,_⟩:=a;rw[e];rfl
 |raw d=>rw[a.1];exact a.2
 |dead=>cases b
end
end Go.Vc
