/- Part. -/
import Derived.Orders
import Derived.OrdersHeld
import Derived.Below
import Derived.KernelRfl
import Derived.Deep.LoopGhost
import Derived.WalkKit
import Derived.OwnWalk
import Derived.Maps.RangeRun
import Derived.DeepKeys3
set_option linter.all false
namespace Go
def qA:=@of_decide_eq_true
def qB:=@of_decide_eq_false
def qC:=@Bool.and_eq_true
def qD:=@Nat.eq_of_beq_eq_true
def qE:=@Int.natCast_nonneg
def qF:=@List.getD_eq_getElem?_getD
def qG:=@List.mem_cons
def qH:=@Option.bind_eq_bind
def qI:=@Int.le_refl
def qJ:=@List.mem_cons_of_mem
def qK:=@Option.map_eq_some_iff
def qL:=@if_neg
def qM:=@Int.toNat_natCast
def qN:=@List.length_set
def qO:=@List.eq_nil_of_length_eq_zero
def qP:=@Nat.le_of_ble_eq_true
def qQ:=@cond_true
def qR:=@List.mem_singleton
def qS:=@List.getElem?_eq_getElem
def qT:=@if_pos
def qU:=@Decidable.byContradiction
def qV:=@List.take_of_length_le
def qW:=@List.length_take
def qZ:=@Nat.le_trans
def rA:=@List.mem_append
def rB:=@Nat.le_refl
def rC:=@List.mem_cons_self
def rD:=@Nat.lt_of_lt_of_le
def rE:=@Option.some.injEq
def rF:=@cond_false
def rG:=@List.length_singleton
def rH:=@List.length_cons
def rI:=@List.length_replicate
def rJ:=@decide_eq_false
def rK:=@decide_eq_true
def rL:=@Bool.or_eq_false_iff
def rM:=@Nat.mul_le_mul_right
def rN:=@Nat.zero_le
def rO:=@Rat.add_zero
def rP:=@List.length_append
def rQ:=@Bool.not_eq_true'
def rR:=@List.take_add_one
def rS:=@decide_eq_false_iff_not
def rT:=@List.getElem?_take_of_lt
def rU:=@Array.getElem?_eq_some_iff
def rV:=@Nat.lt_succ_self
def rW:=@List.getElem?_eq_none
def rX:=@Nat.pow_le_pow_right
def rY:=@decide_eq_true_eq
def rZ:=@List.mem_of_mem_take
def sA:=@List.not_mem_nil
def sB:=@List.map_cons
def sC:=@Nat.pow_succ
def sD:=@List.getElem?_eq_some_iff
def sE:=@List.drop_of_length_le
def sF:=@Nat.lt_or_ge
def sG:=@Nat.zero_add
def sH:=@List.nodup_cons
def sI:=@Int.fdiv_eq_ediv_of_nonneg
def sJ:=@Int.mul_le_mul_of_nonneg_right
def sL:=@List.cons.injEq
def sM:=@List.mem_append_left
def sN:=@List.length_drop
def sO:=@Nat.mul_assoc
def sP:=@Int.toNat_of_nonneg
def sQ:=@Int.ofNat_lt
def sR:=@Array.length_toList
def sS:=@Nat.mul_le_mul_left
def sU:=@List.mem_of_getElem?
def sV:=@Nat.pos_of_ne_zero
def sW:=@Nat.min_eq_left
def sX:=@List.nodup_append
def sY:=@List.all_cons
def sZ:=@Nat.mul_add
def tA:=@Array.getElem?_setIfInBounds
def tB:=@List.getElem?_set_self
def tC:=@List.mem_map
def tD:=@Nat.add_zero
def tF:=@List.getElem?_set_ne
def tG:=@Nat.mul_comm
def tH:=@Rat.zero_add
def tI:=@List.mem_append_right
def tJ:=@Int.mul_nonneg
def tK:=@Rat.sub_eq_add_neg
def tL:=@Rat.zero_mul
def tN:=@List.length_map
def tO:=@Nat.div_lt_iff_lt_mul
def tP:=@Nat.pow_pos
def tR:=@List.all_eq_true
def tS:=@Nat.mod_eq_of_lt
def tT:=@congrArg
def tU:=@Nat.ne_of_lt
def tV:=@Int.mul_le_mul_of_nonneg_left
def tW:=@Int.tmod_eq_emod_of_nonneg
def tX:=@List.drop_zero
def tY:=@List.pairwise_append
def tZ:=@Array.getElem?_eq_getElem
def uA:=@List.pairwise_iff_getElem
def uB:=@Nat.div_eq_of_lt
def uC:=@List.append_assoc
def uD:=@List.getElem?_append_right
def uE:=@List.take_append_drop
def uF:=@Int.eq_ofNat_of_zero_le
def uG:=@List.getElem?_cons_succ
def uH:=@Nat.add_assoc
def uI:=@Bool.or_eq_true
def uJ:=@Int.natCast_mul
def uK:=@Int.sign_eq_one_of_pos
def uL:=@Nat.succ_mul
def uM:=@Int.dvd_mul_of_dvd_right
def uN:=@Int.natAbs_natCast
def uO:=@Array.getD_eq_getD_getElem?
def uP:=@Nat.add_mul
def uQ:=@List.getElem?_replicate
def uR:=@List.take_length
def uS:=@Array.toArray_toList
def uT:=@List.mem_iff_getElem
def uU:=@Nat.le_succ
def uV:=@Nat.pow_add
def uW:=@Nat.ne_of_beq_eq_false
def uX:=@Rat.mul_zero
def uY:=@List.map_append
def uZ:=@Nat.not_lt_zero
def vA:=@Option.getD_some
def vB:=@List.length_pos_iff
def vC:=@List.mem_map_of_mem
def vD:=@Nat.le_div_iff_mul_le
def vE:=@Decidable.not_not
def vF:=@List.mem_of_mem_drop
def vG:=@Nat.eq_zero_or_pos
def vH:=@or_false
def vJ:=@List.nil_append
def vK:=@Nat.div_div_eq_div_mul
def vM:=@and_true
def vN:=@List.pairwise_map
def vO:=@Nat.lt_succ_of_lt
def vP:=@List.getElem?_toArray
def vQ:=@Int.natAbs_mul
def vR:=@List.drop_drop
def vS:=@List.append_nil
def vT:=@Option.map_some
def vV:=@Bool.false_eq_true
def vW:=@Option.bind_some
def vX:=@Bool.false_or
def vY:=@Nat.add_comm
def vZ:=@Nat.le_of_lt
def wA:=@Nat.mod_lt
def wB:=@beq_eq_false_iff_ne
def wC:=@List.mem_filter
def wD:=@List.getElem?_append_left
def wE:=@Option.isNone_iff_eq_none
def wF:=@Array.getElem?_toList
def wG:=@List.cons_append
def wH:=@List.getElem?_take
def wI:=@List.getElem_inj
def wJ:=@decide_eq_decide
def wK:=@Nat.mul_zero
def wL:=@Rat.mul_assoc
def wM:=@Rat.neg_zero
def wN:=@List.Perm.refl
def wO:=@List.mapM_cons
def wP:=@List.any_eq_false
def wQ:=@List.ext_getElem?
def wR:=@List.getElem?_map
def wS:=@Int.natCast_add
def wT:=@Nat.div_add_mod
def wU:=@Nat.div_le_self
def wV:=@Nat.gcd_comm
def wW:=@Nat.mul_lt_mul_of_pos_right
def wX:=@Rat.div_def
def wY:=@List.getElem_mem
def wZ:=@Int.sign_eq_neg_one_of_neg
def xA:=@List.getElem?_drop
def xB:=@List.mem_range
def xC:=@Nat.lt_of_mul_lt_mul_right
def xD:=@Bool.and_eq_false_iff
def xE:=@Array.mapM_eq_mapM_toList
def xF:=@Int.natAbs_ediv_le_natAbs
def xG:=@List.drop_eq_getElem_cons
def xH:=@Int.natCast_pow
def xI:=@List.length_nil
def xJ:=@Option.some.inj
def xK:=@Int.le_of_lt
def xL:=@List.getElem?_set
def xM:=@Nat.beq_refl
def xN:=@Nat.one_mul
def xO:=@Nat.sub_self
def xP:=@Array.getElem?_replicate
def xQ:=@Int.mul_ediv_cancel_left
def xR:=@Nat.lt_irrefl
def xS:=@if_true
def xT:=@List.any_eq_true
def xU:=@List.nodup_nil
def xV:=@Nat.mul_div_cancel_left
def xW:=@Rat.one_mul
def xX:=@BitVec.toNat_ofInt
def xY:=@Int.ofNat_dvd_left
def xZ:=@Nat.lt_of_le_of_lt
def yA:=@Nat.zero_mul
def yB:=@Rat.num_divInt_den
def yC:=@List.foldl_cons
def yD:=@if_false
def yE:=@List.any_cons
def yF:=@Rat.add_assoc
def yG:=@Int.mul_ediv_add_emod
def yH:=@Nat.add_mul_div_right
def yI:=@Iff.rfl
def yJ:=@List.flatMap_cons
def yK:=@List.idxOf_lt_length_of_mem
def yL:=@Nat.gcd_dvd_right
def yM:=@Nat.le_succ_of_le
def yN:=@Int.tdiv_eq_ediv_of_nonneg
def yO:=@Nat.mul_le_mul
def yP:=@Nat.mul_one
def yQ:=@Rat.mkRat_zero
def yR:=@Int.mul_neg_of_pos_of_neg
def yS:=@Int.sign_eq_zero_iff_zero
def yT:=@Nat.add_mul_mod_self_left
def yU:=@List.drop_set_of_lt
def yV:=@List.take_set_of_le
def yW:=@Nat.div_mul_le_self
def yX:=@Array.setIfInBounds_comm
def yY:=@Int.ediv_nonpos_of_nonneg_of_nonpos
def yZ:=@List.length_erase_of_mem
def zA:=@Int.tmod_nonneg
def zB:=@List.drop_left'
def zC:=@Nat.mul_ne_zero
def zD:=@Int.emod_lt_of_pos
def zF:=@Int.mul_nonneg_of_nonpos_of_nonpos
def zG:=@List.mem_replicate
def zH:=@Nat.mul_right_comm
def zI:=@List.pairwise_singleton
def zJ:=@List.findIdx?_eq_some_iff_getElem
def zK:=@Array.getElem?_eq_none
def zM:=@Int.gcd_dvd_right
def zN:=@Int.lt_trichotomy
def zO:=@Int.natAbs_neg
def zP:=@List.length_pos_of_mem
def zQ:=@List.size_toArray
def zR:=@Nat.mul_left_comm
def zS:=@Nat.mul_div_mul_right
def zT:=@Array.toList_inj
def zU:=@Int.gcd_dvd_left
def zV:=@List.take_append
def zW:=@Rat.divInt_ofNat
def zX:=@Rat.mkRat_eq_div
def zY:=@Bool.not_true
def zZ:=@Bool.true_and
def g0a:=@Prod.mk.injEq
def g0b:=@List.mem_erase_of_ne
def g0c:=@Nat.shiftLeft_add_eq_or_of_lt
def g0d:=@Int.ediv_nonneg
def g0e:=@List.range_succ
def g0f:=@List.take_left'
def g0g:=@Rat.mul_eq_zero
def g0h:=@Rat.num_eq_zero
def g0i:=@Array.toList_filter
def g0j:=@Array.toList_modify
def g0k:=@List.filter_eq_self
def g0l:=@List.getElem?_range
def g0m:=@List.toList_toArray
def g0n:=@Rat.mkRat_mul_mkRat
def g0o:=@decide_false
def g0p:=@getElem!_pos
def g0q:=@Bool.false_and
def g0r:=@Bool.not_eq_false'
def g0s:=@Int.natAbs_sign_of_ne_zero
def g0t:=@List.Pairwise.take
def g0u:=@List.drop_take
def g0v:=@List.getElem_idxOf
def g0w:=@List.take_take
def g0x:=@List.take_zero
def g0y:=@Nat.gcd_zero_right
def g0z:=@Option.toList_some
def g1a:=@Rat.inv_mul_cancel
def g1b:=@Rat.mul_inv_cancel
def g1c:=@beq_iff_eq
def g1d:=@List.findIdx?_eq_none_iff
def g1e:=@List.mem_or_eq_of_mem_set
def g1f:=@Array.toList_push
def g1g:=@Int.natAbs_add_le
def g1h:=@List.getElem_take
def g1i:=@List.length_range
def g1j:=@Int.ofNat.inj
def g1k:=@Nat.gcd_pos_of_pos_right
def g1l:=@Option.isSome_iff_exists
def g1m:=@Array.toList_map
def g1n:=@List.ext_getElem
def g1o:=@List.filter_cons
def g1p:=@List.getElem?_cons_zero
def g1q:=@List.zipIdx_cons
def g1r:=@Nat.add_sub_cancel_left
def g1s:=@Nat.gcd_pos_of_pos_left
def g1t:=@Option.bind_eq_some_iff
def g1u:=@Option.bind_none
def g1v:=@Option.getD_none
def g1w:=@Bool.true_or
def g1x:=@Int.ediv_lt_iff_lt_mul
def g1y:=@Int.le_ediv_iff_mul_le
def g1z:=@Int.mul_comm
def g2a:=@List.length_eq_one_iff
def g2b:=@List.map_nil
def g2c:=@Nat.sub_zero
def g2d:=@Int.emod_nonneg
def g2e:=@Nat.min_le_left
def g2f:=@Nat.mul_add_div
def g2g:=@Nat.mul_add_mod
def g2h:=@Rat.den_intCast
def g2i:=@Rat.natCast_pos
def g2j:=@Rat.num_intCast
def g2k:=@Array.getElem?_modify
def g2l:=@List.Perm.append_left
def g2m:=@List.set_append_right
def g2n:=@Array.mem_toList_iff
def g2o:=@Array.toList_extract
def g2p:=@Bool.not_false
def g2q:=@Decidable.of_not_not
def g2r:=@Int.dvd_add
def g2s:=@Int.ediv_emod_unique
def g2t:=@List.drop_left
def g2u:=@List.range_eq_range'
def g2v:=@List.take_left
def g2w:=@Nat.add_mul_div_left
def g2x:=@Nat.div_one
def g2y:=@Nat.gcd_rec
def g2z:=@Rat.add_mul
def g3a:=@Rat.den_pos
def g3b:=@Rat.mkRat_self
def g3c:=@Rat.mul_nonneg
def g3d:=@Rat.mul_one
def g3e:=@Rat.neg_num
def g3f:=@decide_true
def g3g:=@or_congr
def g3h:=@Int.natCast_eq_zero
def g3i:=@Int.neg_ediv_of_dvd
def g3j:=@List.getElem_of_mem
def g3k:=@List.map_congr_left
def g3l:=@Int.toNat_mul
def g3m:=@Rat.lt_irrefl
def g3n:=@Array.foldl_toList
def g3o:=@List.Pairwise.imp₂
def g3p:=@List.filter_append
def g3q:=@List.pairwise_cons
def g3r:=@Nat.mul_div_cancel
def g3s:=@Rat.add_neg_cancel
def g3t:=@Bool.or_true
def g3u:=@Decidable.em
def g3v:=@Int.emod_eq_of_lt
def g3w:=@Int.le_total
def g3x:=@Int.lt_or_le
def g3y:=@Int.sign_mul
def g3z:=@List.Pairwise.imp
def g4a:=@List.set_set
def g4b:=@Nat.pow_zero
def g4c:=@Nat.zero_div
def g4d:=@Rat.add_comm
def g4e:=@Rat.mul_comm
def g4f:=@Int.natCast_ediv
def g4g:=@List.drop_append
def g4h:=@List.getElem_set
def g4i:=@List.isEmpty_iff
def g4j:=@List.range'_succ
def g4k:=@Nat.gcd_dvd_left
def g4l:=@Nat.le_max_right
def g4m:=@Nat.le_of_not_lt
def g4n:=@Nat.shiftLeft_eq
def g4o:=@Nat.mod_one
def g4p:=@Nat.mul_pos
def g4q:=@Rat.neg_den
def g4r:=@ne_eq
def g4s:=@not_or
def g4t:=@and_congr
def g4u:=@not_congr
end Go
namespace Go.Gw
open Go Go.RowKit
open Go.IntKind (i64)
abbrev F8:=Nat->Value
def upd (E:F8) (d:Nat) (v:Value):F8:=fun t=>bif Nat.beq t d then v else E t
def eW (E:F8):Option Tmp->Value->F8
 |some d,v=>upd E d v
 |none,_=>E
def ev (E:F8):Operand->Value
 | .tmp t=>E t
 | .const v=>v
 | .global g=> .pointer (some ⟨g,0,none⟩)
 | .func f=> .func (.func f) #[] #[]
def C8 {t d:Nat} (h:t≠d):Nat.beq t d=false:=by
 cases hb:Nat.beq t d with
 |false=>rfl
 |true=>exact absurd (qD hb) h
def C2 (E:F8) (d:Nat) (v:Value):upd E d v d=v:=by simp[upd]
def C3 (E:F8) (d t:Nat) (v:Value) (h:t≠d):upd E d v t=E t:=by
 have:Nat.beq t d=false:=C8 h;simp[upd,this]
structure C4 (n:Nat) (a:Act) (E:F8):Prop where
 size:a.tmps.size=n
 get:∀t,a.tmps.getD t undef=E t
 defers:a.defers= []
def C4.ev {n:Nat} {a:Act} {E:F8} (h:C4 n a E):a.eval=Gw.ev E:=by
 funext x;cases x with
 |tmp t=>exact h.get t
 | _=>rfl
def ZE (n:Nat) (l:List Oper):Bool:=l.all fun o=>match o.dst with|some d=>decide (d<n) |none=>true
def C4.put {n:Nat} {a:Act} {E:F8} (h:C4 n a E) (o:Option Tmp) (v:Value) (ho:∀d,o=some d->d<n):C4 n (a.put o v) (eW E o v):=by
 cases o with
 |none=>exact h
 |some d=>
  have hd:=ho d rfl;refine⟨by simp[Act.put,h.size],fun t=> ?_,h.defers⟩;have hs:=h.size;have hg:=h.get t;by_cases u:t=d
  . subst u;simp[Act.put,eW,C2,tA,hs,hd]
  . simp only[eW,C3 _ _ _ _ u];rw[<-hg];simp[Act.put,tA,Ne.symm u]
def Df (all:List Oper) (E:F8) (j:Nat):Option Bool:=
 match(all[j]?).bind (·.dst)with
 |some t=>match E t with| .bool b=>some b| _=>none
 |none=>none
def E2 (all:List Oper) (o:Oper) (E:F8):Bool:=
 match o.guard with
 |none=>true
 |some (j,u)=>Df all E j==some u
def C4.yielded {n:Nat} {a:Act} {E:F8} (h:C4 n a E) (all:List Oper) (j:Nat):yielded all.toArray a.tmps j=Df all E j:=by
 unfold Go.yielded Df;rw[vP];cases hq:(all[j]?).bind (·.dst)with
 |none=>simp
 |some t=>
  simp only[vW];have u:=h.get t;cases ht:a.tmps[t]? with
  |none=>
   have:a.tmps.getD t undef=undef:=by simp[ht]
   rw[this]at u;simp[<-u,undef]
  |some v=>
   have:a.tmps.getD t undef=v:=by simp[ht]
   rw[this]at u;rw[<-u];cases v<;>rfl
def C4.wanted {n:Nat} {a:Act} {E:F8} (h:C4 n a E) (all:List Oper) (o:Oper):Region.wanted o (Go.yielded all.toArray a.tmps)=E2 all o E:=by
 unfold Region.wanted E2;cases o.guard with
 |none=>rfl
 |some g=>simp only[h.yielded]
def I0 (P:Program) (all:List Oper) (o:Oper) (next:F8->World->Prop) (E:F8) (w:World):Prop:=
 if E2 all o E=true then
  match(execOp (ev E) o).run P w with
  | .ok (.value v) w'=>next (eW E o.dst v) w'
  | .ok .skip w'=>next (eW E o.dst undef) w'
  | .ok (.enter f args) w'=>Calls P f args w' fun e u=>∃v,e= .returned v/\next (eW E o.dst v) u
  | _=>False
 else next (eW E o.dst undef) w
def B2w (P:Program) (all:List Oper) (next:F8->World->Prop):List Oper->F8->World->Prop
 | []=>next
 |o::r=>I0 P all o (B2w P all next r)
def DL (n:Nat) (Q:Exit->F8->World->Prop):Exit->Act->World->Prop:=fun e a w=>∃E,C4 n a E/\Q e E w
def C0 {P:Program} {all:List Oper} {o:Oper} {next u:F8->World->Prop} (h:∀E w,next E w->u E w) {E:F8} {w:World} (hs:I0 P all o next E w):I0 P all o u E w:=by
 unfold I0 at*;split
 . rename_i hw;simp only[hw,xS]at hs;generalize (execOp (ev E) o).run P w=r at*;cases r with
   |ok m w'=>
    cases m<;>simp only at hs⊢
    case value v=>exact h _ _ hs
    case skip=>exact h _ _ hs
    case enter f args=>exact hs.mono fun e a0 ⟨v,he,hn⟩=>⟨v,he,h _ _ hn⟩
   |halt x w'=>exact hs
 . rename_i hw;simp only[hw]at hs;exact h _ _ hs
def Vh {P:Program} {n:Nat} {all:List Oper} (hn:ZE n all=true) {i:Nat} {o:Oper} (hi:all[i]? =some o) {Q:Exit->Act->World->Prop} {K:Act->World->Prop} {next:F8->World->Prop}
 (hK:∀a E w,C4 n a E->next E w->K a w) {a:Act} {E:F8} {w:World} (hr:C4 n a E) (h:I0 P all o next E w):wpOp P all.toArray Q i K a w:=by
 have u:∀d,o.dst=some d->d<n:=fun d u=>by
  have:=tR.1 hn o (sU hi);simpa[u]using this
 unfold wpOp;simp only[vP,hi];rw[hr.wanted];unfold I0 at h;split
 . rename_i hw;simp only[hw,xS]at h;refine .inl ?_;unfold Oper.wp;rw[hr.ev];generalize (execOp (ev E) o).run P w=r at*;cases r with
   |ok m w'=>
    cases m<;>simp only at h
    case value v=>exact hK _ _ _ (hr.put _ _ u) h
    case skip=>exact hK _ _ _ (hr.put _ _ u) h
    case enter f args=>
     refine h.mono fun e a0 ⟨v,he,hn⟩=> ?_
     subst he;exact hK _ _ _ (hr.put _ _ u) hn
   |halt x w'=>exact h.elim
 . rename_i hw;simp only[hw]at h;exact hK _ _ _ (hr.put _ _ u) h
def UQ {P:Program} {n:Nat} {all:List Oper} (hn:ZE n all=true) {Q:Exit->F8->World->Prop} :
 ∀(rest:List Oper) (k:Nat),(∀j,rest[j]? =all[k+j]?)->∀(a:Act) (E:F8) (w:World),C4 n a E->B2w P all (Q .normal) rest E w->
  wpOps P all.toArray (DL n Q) (List.range' k rest.length) a w
 | [],_,_,a,E,w,u,h=>⟨E,u,h⟩
 |o::rest,k,hl,a,E,w,u,h=>by
  have h0:all[k]? =some o:=by simpa using(hl 0).symm
  rw[rH,g4j,wpOps_cons];refine Vh hn h0 (fun a' E' w' hr' hh=> ?_) u h;exact UQ hn rest (k+1) (fun j=>by have:=hl (j+1);simpa[uH,vY 1 j]using this) a' E' w' hr' hh
inductive bK where
 |done
 |q (i:Nat) (p:bK)
 |p (i:Nat) (p:bK)
 |e (i:Nat) (p:bK)
 |br (i:Nat) (p:bK) (j:Nat) (p':bK)
def G1 (tails:List Nat) (listed:Array Bool):Bool:=tails.any fun i=>listed.getD i false
inductive Reach (ops:Array Oper) (j:Nat):Nat->Prop
 |one {oj:Oper} {e:Edge} :ops[j]? =some oj->e∈oj.after->Region.binds .any e=true->Reach ops j e.on
 |more {i:Nat} {oi:Oper} {e:Edge} :Reach ops j i->ops[i]? =some oi->e∈oi.after->Region.binds .any e=true->Reach ops j e.on
def pB (all:List Oper) (i:Nat):List Nat:=match all[i]? with
 |some o=>(o.after.toList.filter fun e=>Region.binds .any e).map (·.on)
 |none=> []
def oB (all:List Oper):List Nat->List Nat->List Nat
 | [],s=>s
 |i::r,s=>oB all r (bif s.contains i then s++(pB all i).filter (fun x=> !(s.contains x))else s)
def CS (all:List Oper) (heads tails:List Nat):Bool:=
 tails.all fun j=>(fun s=>heads.all fun i=>s.contains i) (oB all (List.range j).reverse (pB all j))
def fL {all:List Oper} {i x:Nat} (h:x∈pB all i):∃oi e,all.toArray[i]? =some oi/\e∈oi.after/\Region.binds .any e=true/\e.on=x:=by
 unfold pB at h;split at h
 . rename_i o ho;obtain⟨e,he,rfl⟩:=tC.1 h;obtain⟨h1,u⟩:=wC.1 he;exact⟨o,e,by rw[vP];exact ho,by simpa using h1,u,rfl⟩
 . cases h
def aS {all:List Oper} {j:Nat} :∀ {r s:List Nat},(∀x∈s,Reach all.toArray j x)->∀x∈oB all r s,Reach all.toArray j x
 | [],_,h,x,hx=>h x hx
 |i::r,s,h,x,hx=>by
  refine aS (r:=r) (fun y u=> ?_) x hx;cases hc:s.contains i with
  |false=>rw[hc]at u;exact h y u
  |true=>
   rw[hc]at u;simp only[qQ,rA]at u;rcases u with u|u
   . exact h y u
   . obtain⟨oi,e,h1,h2,h3,rfl⟩:=fL (wC.1 u).1;exact .more (h i (by simpa using hc)) h1 h2 h3
def AA {all:List Oper} {heads tails:List Nat} (hw:CS all heads tails=true):∀(j:Nat) (oj:Oper),all.toArray[j]? =some oj->j∈tails->∀h∈heads,Reach all.toArray j h:=by
 intro j oj hj u h hh;have h1:=tR.1 hw j u;have h2:=tR.1 h1 h hh;refine aS (fun x hx=> ?_) h (by simpa using h2);obtain⟨oi,e,q1,q2,q3,rfl⟩:=fL hx;exact .one q1 q2 q3
def GQ (P:Program) (S:World->Prop) (all:List Oper) (o:Oper) (next:F8->World->Prop) (E:F8) (w:World):Prop:=
 (E2 all o E=true/\∃v,(∀w',S w'->(execOp (ev E) o).run P w'= .ok (.value v) w')/\next (eW E o.dst v) w)\/
 (E2 all o E=false/\next (eW E o.dst undef) w)
def ZD (P:Program) (S:World->Prop) (all:List Oper) (tails:List Nat) (next:F8->World->Prop):bK->Bool->F8->World->Prop
 | .done,_=>next
 | .q i p,t=>fun E w=>∃o,all[i]? =some o/\GQ P S all o (ZD P S all tails next p t) E w
 | .p i p,t=>fun E w=>∃o,all[i]? =some o/\GQ P (fun _=>True) all o (ZD P S all tails next p t) E w
 | .e i p,t=>fun E w=>∃o,all[i]? =some o/\I0 P all o (fun E' w'=>((t||tails.contains i)=true\/S w')/\ZD P S all tails next p (t||tails.contains i) E' w') E w
 | .br i p j p',t=>fun E w=>(∃o,all[i]? =some o/\I0 P all o (fun E' w'=>((t||tails.contains i)=true\/S w')/\ZD P S all tails next p (t||tails.contains i) E' w') E w)/\
  (∃o,all[j]? =some o/\I0 P all o (fun E' w'=>((t||tails.contains j)=true\/S w')/\ZD P S all tails next p' (t||tails.contains j) E' w') E w)
section held
variable {P:Program} {ops:Array Oper} {Q:Exit->Act->World->Prop} {S:World->Prop} {heads tails:List Nat}
def X5 (P:Program) (ops:Array Oper) (Q:Exit->Act->World->Prop) (S:World->Prop) (tails:List Nat):Nat->Array Bool->Act->World->Prop
 |0,listed,a,w=>Region.ready .any ops listed= []/\Q .normal a w
 |fuel+1,listed,a,w=>
  (Region.ready .any ops listed= []->Q .normal a w)/\∀i∈Region.ready .any ops listed,wpOp P ops Q i (fun u w'=>(G1 tails (listed.setIfInBounds i true)=true\/S w')/\X5 P ops Q S tails fuel (listed.setIfInBounds i true) u w') a w
def WY:∀(fuel:Nat) (listed:Array Bool) (a:Act) (w:World),X5 P ops Q S tails fuel listed a w->wpAny P .any ops Q fuel listed a w
 |0,_,_,_,h=>h
 |fuel+1,_,_,_,h=>⟨h.1,fun i hi=>wpOp_mono (fun u w' h'=>WY fuel _ u w' h'.2) (h.2 i hi)⟩
def lD (ops:Array Oper) (listed:Array Bool):Prop:=∀(i:Nat) (oi:Oper),ops[i]? =some oi->listed.getD i false=true->∀e∈oi.after,Region.binds .any e=true->listed.getD e.on false=true
def XD (ops:Array Oper) (heads tails:List Nat) (listed:Array Bool):Prop:=lD ops listed/\(G1 tails listed=true->∀h∈heads,listed.getD h false=true)
def gJ (ops:Array Oper) (n:Nat):lD ops (Array.replicate n false):=fun i oi _ hl=>by
 simp only[uO,xP]at hl;split at hl<;>cases hl
def Reach.listed {ops:Array Oper} {listed:Array Bool} {j h:Nat} (hc:lD ops listed) (hj:j∈Region.ready .any ops listed) (hr:Reach ops j h):listed.getD h false=true:=by
 induction hr with
 |one ho he hb=>
  obtain⟨_,oj,a0,u⟩:=mem_ready.1 hj;rw[ho]at a0;cases a0;exact u _ he hb
 |more _ ho he hb ih=>exact hc _ _ ho ih _ he hb
def EO {listed:Array Bool} {i:Nat} (h:listed.getD i true=false):listed.getD i false=false:=by
 rcases sF i listed.size with u|u
 . simp[u]at h⊢;exact h
 . simp[zK u]
def H4 {listed:Array Bool} {i:Nat} (hi:i∉tails):G1 tails (listed.setIfInBounds i true)=G1 tails listed:=by
 unfold G1;rw[Bool.eq_iff_iff,xT,xT];constructor
 . rintro⟨x,hx,h⟩;have u:i≠x:=fun e=>hi (by rw[e];exact hx)
   exact⟨x,hx,by rw[getD_set_ne false u]at h;exact h⟩
 . rintro⟨x,hx,h⟩;have u:i≠x:=fun e=>hi (by rw[e];exact hx)
   exact⟨x,hx,by rw[getD_set_ne false u];exact h⟩
def Dl {listed:Array Bool} {i:Nat} (h:G1 tails listed=true):G1 tails (listed.setIfInBounds i true)=true:=by
 unfold G1 at*;rw[xT]at*;obtain⟨x,hx,h⟩:=h;exact⟨x,hx,getD_set_true h⟩
def XD.set (u:∀(j:Nat) (oj:Oper),ops[j]? =some oj->j∈tails->∀h∈heads,Reach ops j h) {listed:Array Bool} {j:Nat} (hd:XD ops heads tails listed) (hj:j∈Region.ready .any ops listed):XD ops heads tails (listed.setIfInBounds j true):=by
 obtain⟨_,oj,a3,a0⟩:=mem_ready.1 hj;refine⟨fun i oi hi hl e he hb=> ?_,fun ht h hh=> ?_⟩
 . by_cases a1:i=j
   . subst a1;rw[a3]at hi;cases hi;exact getD_set_true (a0 e he hb)
   . rw[getD_set_ne false (Ne.symm a1)]at hl;exact getD_set_true (hd.1 i oi hi hl e he hb)
 . by_cases a2:j∈tails
   . exact getD_set_true ((u j oj a3 a2 h hh).listed hd.1 hj)
   . rw[H4 a2]at ht;exact getD_set_true (hd.2 ht h hh)
def KL {i:Nat} {oi:Oper} {v:Value} (hi:ops[i]? =some oi) (aa:i∈heads) (ae:i∉tails) (a6:∀(j:Nat) (o:Oper) cs b,ops[j]? =some o->o.op≠ .select cs b)
 (a1:∀(j:Nat) (oj:Oper),ops[j]? =some oj->j∈tails->∀h∈heads,Reach ops j h)
 (hQ:∀c a w,Q (.panic c) (a.put oi.dst v) w->Q (.panic c) a w):
 ∀(fuel:Nat) (listed:Array Bool) (a:Act) (w:World),XD ops heads tails listed->
  (∀j oj,ops[j]? =some oj->j≠i->listed.getD j true=false->(∀e∈oj.after,Region.binds .any e=true->e.on≠i)->oi.apart ops oj=true)->
  i∈Region.ready .any ops listed->YieldsIf P ops S oi v a->S w->
  X5 P ops Q S tails fuel (listed.setIfInBounds i true) (a.put oi.dst v) w->X5 P ops Q S tails (fuel+1) listed a w:=by
 intro fuel
 induction fuel with
 |zero=>
  intro listed a w _ _ hr hy hS H;refine⟨fun h=>(by rw[h]at hr;cases hr),fun j hj=> ?_⟩;by_cases u:j=i
  . subst u;exact hy.wpOp hi hS ⟨.inr hS,H⟩
  . have:=ready_mono hj u;rw[H.1]at this;cases this
 |succ fuel ih=>
  intro listed a w hd a0 hr hy hS H;have a8:listed.getD i false=false:=EO (mem_ready.1 hr).1;refine⟨fun h=>(by rw[h]at hr;cases hr),fun j hj=> ?_⟩;by_cases u:j=i
  . subst u;exact hy.wpOp hi hS ⟨.inr hS,H⟩
  . obtain⟨a5,oj,a4,a9⟩:=mem_ready.1 hj;have ac:∀e∈oj.after,Region.binds .any e=true->e.on≠i:=fun e he hb heq=>by
     have h1:=a9 e he hb;rw[heq]at h1;rw[a8]at h1;cases h1
    have a7:j∉tails:=fun a7=>by
     have:=(a1 j oj a4 a7 i aa).listed hd.1 hj;rw[a8]at this;cases this
    have ah:G1 tails listed=false:=by
     cases ht:G1 tails listed with
     |false=>rfl
     |true=>have:=hd.2 ht i aa;rw[a8]at this;cases this
    have h1:=H.2 j (ready_mono hj u);have h2:=wpOp_putIf a4 (a0 j oj a4 u a5 ac) (fun cs b=>a6 i oi cs b hi) (fun cs b=>a6 j oj cs b a4) hQ hy h1;have a3:∀k ok,ops[k]? =some ok->k≠i->(listed.setIfInBounds j true).getD k true=false->
     (∀e∈ok.after,Region.binds .any e=true->e.on≠i)->oi.apart ops ok=true:=fun k ok hk af ad ag=>by
     refine a0 k ok hk af ?_ ag;by_cases ab:j=k
     . subst ab;exact a5
     . rw[getD_set_ne true ab]at ad;exact ad
    refine wpOp_mono (fun a' w' h3=> ?_) h2;have a2:S w':=by
     rcases h3.2.1 with ht|a2
     . rw[H4 a7,H4 ae,ah]at ht;cases ht
     . exact a2
    refine⟨.inr a2,ih (listed.setIfInBounds j true) a' w' (hd.set a1 hj) a3 (ready_mono hr (Ne.symm u)) h3.1 a2 ?_⟩;rw[yX _ _ u];exact h3.2.2
def BK {i:Nat} {oi:Oper} {v:Value} (hi:ops[i]? =some oi) (aa:i∉tails) (a3:∀(j:Nat) (o:Oper) cs b,ops[j]? =some o->o.op≠ .select cs b)
 (hQ:∀c a w,Q (.panic c) (a.put oi.dst v) w->Q (.panic c) a w):
 ∀(fuel:Nat) (listed:Array Bool) (a:Act) (w:World),
  (∀j oj,ops[j]? =some oj->j≠i->listed.getD j true=false->(∀e∈oj.after,Region.binds .any e=true->e.on≠i)->oi.apart ops oj=true)->
  i∈Region.ready .any ops listed->YieldsIf P ops (fun _=>True) oi v a->(G1 tails listed=true\/S w)->
  X5 P ops Q S tails fuel (listed.setIfInBounds i true) (a.put oi.dst v) w->X5 P ops Q S tails (fuel+1) listed a w:=by
 intro fuel
 induction fuel with
 |zero=>
  intro listed a w _ hr hy hS H;refine⟨fun h=>(by rw[h]at hr;cases hr),fun j hj=> ?_⟩;by_cases u:j=i
  . subst u;exact hy.wpOp hi trivial ⟨hS.imp Dl id,H⟩
  . have:=ready_mono hj u;rw[H.1]at this;cases this
 |succ fuel ih=>
  intro listed a w a0 hr hy hS H;have ac:listed.getD i false=false:=EO (mem_ready.1 hr).1;refine⟨fun h=>(by rw[h]at hr;cases hr),fun j hj=> ?_⟩;by_cases u:j=i
  . subst u;exact hy.wpOp hi trivial ⟨hS.imp Dl id,H⟩
  . obtain⟨a2,oj,a4,a6⟩:=mem_ready.1 hj;have a8:∀e∈oj.after,Region.binds .any e=true->e.on≠i:=fun e he hb heq=>by
     have h1:=a6 e he hb;rw[heq]at h1;rw[ac]at h1;cases h1
    have h1:=H.2 j (ready_mono hj u);have h2:=wpOp_putIf a4 (a0 j oj a4 u a2 a8) (fun cs b=>a3 i oi cs b hi) (fun cs b=>a3 j oj cs b a4) hQ hy h1;have a1:∀k ok,ops[k]? =some ok->k≠i->(listed.setIfInBounds j true).getD k true=false->
     (∀e∈ok.after,Region.binds .any e=true->e.on≠i)->oi.apart ops ok=true:=fun k ok hk ab a9 ad=>by
     refine a0 k ok hk ab ?_ ad;by_cases a7:j=k
     . subst a7;exact a2
     . rw[getD_set_ne true a7]at a9;exact a9
    refine wpOp_mono (fun a' w' h3=> ?_) h2;have a5:G1 tails (listed.setIfInBounds j true)=true\/S w':=by
     refine h3.2.1.imp (fun ht=> ?_) id;rw[yX _ _ (Ne.symm u),H4 aa]at ht;exact ht
    refine⟨a5,ih (listed.setIfInBounds j true) a' w' a1 (ready_mono hr (Ne.symm u)) h3.1 a5 ?_⟩;rw[yX _ _ u];exact h3.2.2
end held
def T4 {l:List Nat} {i:Nat} (h:l.contains i=false):i∉l:=by
 intro u;have:l.contains i=true:=by simpa using u
 rw[h]at this;cases this
def gB {tails:List Nat} {listed:Array Bool} {i:Nat} (u:i<listed.size):G1 tails (listed.setIfInBounds i true)=(G1 tails listed||tails.contains i):=by
 cases hc:tails.contains i with
 |false=>rw[H4 (T4 hc)];simp
 |true=>
  rw[g3t];unfold G1;rw[xT];exact⟨i,by simpa using hc,by simp[tA,u]⟩
def A9v {ops:Array Oper} {listed:Array Bool} {i:Nat} (h:i∈Region.ready .any ops listed):i<listed.size:=by
 have:=(mem_ready.1 h).1;rcases sF i listed.size with u|u
 . exact u
 . simp[zK u]at this
def X0 (n:Nat):Code->Bool
 | .region _ ops _=>ZE n ops.toList
 | .seq a b=>X0 n a&&X0 n b
 | .cond _ a b=>X0 n a&&X0 n b
 | .block _ b=>X0 n b
 | .loop b=>X0 n b
 | .scope b=>X0 n b
 | .rangeFunc .. =>false
 | _=>true
def Wp (P:Program) (n:Nat) (c:Code) (Q:Exit->F8->World->Prop) (E:F8) (w:World):Prop:=
 X0 n c=true->∀a,C4 n a E->c.wp P (DL n Q) a w
inductive Fr where
 |code (c:Code)
 |blk (id:Nat)
 |ops (all rest:List Oper)
 |dops (S:World->Prop) (all:List Oper) (tails:List Nat) (p:bK) (t:Bool)
 |chk (S:World->Prop)
 |upto (I:F8->World->Prop)
def Den (P:Program) (n:Nat) (R:F8->World->Prop):List Fr->Exit->F8->World->Prop
 | [], .normal=>R
 | [], .ret=>R
 | [],_=>fun _ _=>False
 | .code c::k, .normal=>Wp P n c (Den P n R k)
 | .blk _::k, .normal=>Den P n R k .normal
 | .ops all rest::k, .normal=>B2w P all (Den P n R k .normal) rest
 | .dops S all tails p t::k, .normal=>ZD P S all tails (Den P n R k .normal) p t
 | .chk S::k, .normal=>fun E w=>S w/\Den P n R k .normal E w
 | .upto I:: _, .normal=>I
 | .blk id::k, .exit j=>if j=id then Den P n R k .normal else Den P n R k (.exit j)
 | _::k,e=>Den P n R k e
structure Go (P:Program) (n:Nat) (R:F8->World->Prop) (k:List Fr) (E:F8) (w:World):Prop where
 out:Den P n R k .normal E w
section rules
variable {P:Program} {n:Nat} {R:F8->World->Prop} {k:List Fr} {E:F8} {w:World}
def Tz:∀k:List Fr,R E w->Den P n R k .ret E w
 | [],h=>h
 | .code _::k,h=>Tz k h
 | .blk _::k,h=>Tz k h
 | .ops _ _::k,h=>Tz k h
 | .dops _ _ _ _ _::k,h=>Tz k h
 | .chk _::k,h=>Tz k h
 | .upto _::k,h=>Tz k h
def go_ret (h:R E w):Go P n R (.code .ret::k) E w:=⟨fun _ a u=>wp_ret ⟨E,u,Tz k h⟩⟩
def fG (u:List Nat) (E E0:F8):Prop:=∀t,u.contains t=false->E t=E0 t
def fG.refl (u:List Nat) (E:F8):fG u E E:=fun _ _=>rfl
def fG.upd {u:List Nat} {E E0:F8} {d:Nat} {v:Value} (hd:u.contains d=true) (h:fG u E E0):fG u (upd E d v) E0:=fun t ht=>by
 rw[C3]
 . exact h t ht
 . intro e;subst e;rw[hd]at ht;cases ht
end rules
def NS (args:List Value):F8:=fun t=>(args[t]?).getD undef
def Yj {P:Program} {f:FuncId} {fn:Func} {c:Code} {args:List Value} {w:World} {Φ:Value->World->Prop} (hf:P.funcs[f]? =some fn) (hb:fn.body=some c)
 (hn:args.length<=fn.ntmps) (a1:X0 fn.ntmps c=true) (R:F8->World->Prop)
 (hR:∀E w (tmps:Array Value),(∀t,tmps.getD t undef=E t)->R E w->∃v,(results fn tmps).run P w= .ok v w/\Φ v w)
 (h:Go P fn.ntmps R [.code c] (NS args) w):
 Calls P f args.toArray w fun e w'=>∃v,e= .returned v/\Φ v w':=by
 refine calls_of_wp hf hb ?_;have a0:C4 fn.ntmps {tmps:=args.toArray++Array.replicate (fn.ntmps-args.toArray.size) undef,defers:= []} (NS args):=by
  refine⟨by simp;omega,fun t=> ?_,rfl⟩;unfold NS;simp only[uO,Array.getElem?_append,zQ,vP,xP];split
  . rfl
  . rename_i a2;rw[rW (by omega)];split<;>rfl
 refine wp_mono (h.out a1 _ a0) ?_;rintro e a' w' ⟨E',hr',hq⟩;cases e with
 |normal=>obtain⟨v,hv,u⟩:=hR E' w' a'.tmps hr'.get hq;exact⟨hr'.defers,v,hv,v,rfl,u⟩
 |ret=>obtain⟨v,hv,u⟩:=hR E' w' a'.tmps hr'.get hq;exact⟨hr'.defers,v,hv,v,rfl,u⟩
 |exit j=>exact hq.elim
 |goto l=>exact hq.elim
 |panic c=>exact hq.elim
 |outgrown=>exact hq.elim
def E4 (P:Program) (E:F8) (ty:TypeId) (op:Op) (w:World) (v:Value) (w':World):Prop:=
 ∀(d:Option Tmp) (pos:String) (aft:Array Edge) (g:Option (Nat×Bool)),(execOp (ev E) ⟨d,op,ty,pos,aft,g⟩).run P w= .ok (.value v) w'
def NL (P:Program) (E:F8) (ty:TypeId) (op:Op) (w w':World):Prop:=
 ∀(d:Option Tmp) (pos:String) (aft:Array Edge) (g:Option (Nat×Bool)),(execOp (ev E) ⟨d,op,ty,pos,aft,g⟩).run P w= .ok .skip w'
def A4t (P:Program) (E:F8) (ty:TypeId) (op:Op) (w:World) (f:FuncId) (args:List Value):Prop:=
 ∀(d:Option Tmp) (pos:String) (aft:Array Edge) (g:Option (Nat×Bool)),(execOp (ev E) ⟨d,op,ty,pos,aft,g⟩).run P w= .ok (.enter f args.toArray) w
def YP (P:Program) (f:FuncId) (args:List Value) (w:World) (Φ:Value->World->Prop):Prop:=
 Calls P f args.toArray w fun e w'=>∃v,e= .returned v/\Φ v w'
def YP.mono {P:Program} {f:FuncId} {args:List Value} {w:World} {Φ Φ':Value->World->Prop} (h:YP P f args w Φ) (hh:∀v w',Φ v w'->Φ' v w'):YP P f args w Φ':=
 Calls.mono h fun _ _ ⟨v,he,hv⟩=>⟨v,he,hh _ _ hv⟩
def UP {all:List Oper} {d:Option Tmp} {op:Op} {ty:TypeId} {pos:String} {aft:Array Edge} {j t:Nat} {b:Bool} {E:F8} (h1:(all[j]?).bind (·.dst)=some t) (u:E t= .bool b):E2 all ⟨d,op,ty,pos,aft,some (j,b)⟩ E=true:=by
 simp[E2,Df,h1,u]
section frames
variable {P:Program} {n:Nat} {R:F8->World->Prop} {k:List Fr} {E:F8} {w:World} {all rest:List Oper} {d:Nat} {op:Op} {ty:TypeId} {pos:String} {aft:Array Edge} {g:Option (Nat×Bool)}
variable {S:World->Prop} {i:Nat} {p:bK} {tails:List Nat} {t:Bool}
end frames
def Iv (P:Program) (t:TypeId):Bool:=match P.underlying t with|some (.struct _)=>false|some (.array _ _)=>false|some _=>true|none=>false
def fN (P:Program) (t:TypeId) (s:Nat):Bool:=
 (match P.underlying t with|some (.struct _)=>true|some (.array _ _)=>true| _=>false)&&(match P.info? t with|some i=>i.size==s|none=>false)
def Sv (P:Program) (t:TypeId) (s:Nat):Bool:=match P.info? t with|some i=>i.size==s|none=>false
def LM (P:Program) (t:TypeId) (f off:Nat):Bool:=
 match P.underlying t with
 |some (.struct u)=>(match u[f]? with|some x=>x.offset==off&&(match P.info? x.type with|some i=> !(i.size==0) |none=>false) |none=>false)
 | _=>false
def Gv (P:Program) (t e:TypeId) (s:Nat):Bool:=(match P.underlying t with|some (.slice e')=>e'==e| _=>false)&&Sv P e s
def Fy (P:Program) (f:FuncId):Bool:=match P.funcs[f]? with|some fn=> !(fn.name== "runtime.NumGoroutine")&&fn.body.isSome|none=>false
def He (P:Program) (t:TypeId):Option Value:=(P.info? t).bind (·.zero)
section ops
variable {P:Program} {E:F8} {w:World} {ty:TypeId}
def B0x {x:Operand} :E4 P E ty (.move x) w (ev E x) w:=fun _ _ _ _=>rfl
def kT {x:Operand} :E4 P E ty (.assign x) w (ev E x) w:=fun _ _ _ _=>rfl
def B8h {c a b:Operand} {t:Bool} (u:ev E c= .bool t):E4 P E ty (.pick c a b) w (bif t then ev E a else ev E b) w:=fun _ _ _ _=>by
 cases t<;>simp[execOp,u,asBool,go_sem]
def A4k {x:Operand} {vs:Array Value} {v:Value} {i:Nat} (hx:ev E x= .tuple vs) (u:vs[i]? =some v):E4 P E ty (.extract x i) w v w:=fun _ _ _ _=>by
 simp[execOp,hx,Instr.extract,u,go_sem]
def C2b {T:TypeId} {x:Operand} {b:Bool} (hx:ev E x= .bool b):E4 P E ty (.unOp .not T x) w (.bool !b) w:=fun _ _ _ _=>by
 simp[execOp,hx,Op.unary,go_sem]
def C2a {T:TypeId} {x:Operand} {k:IntKind} {a:Int} (hx:ev E x= .int k a):E4 P E ty (.unOp .neg T x) w (.int k (k.wrap (-a))) w:=fun _ _ _ _=>by
 simp[execOp,hx,Op.unary,Op.intArith,go_sem]
def gZ {op:BinOp} {T:TypeId} {x y:Operand} {k k':IntKind} {a b:Int} :(eqGuard op T x y (.int k a) (.int k' b)).run P w= .ok () w:=by
 unfold eqGuard;cases op<;>rfl
def B0v {op:BinOp} {T T':TypeId} {x y:Operand} {k k':IntKind} {a b:Int} {v:Value} (hx:ev E x= .int k a) (u:ev E y= .int k' b) (h:(binOp op T (.int k a) (.int k' b)).run P w= .ok v w):E4 P E ty (.binOp op T x y T') w v w:=fun _ _ _ _=>by
 simp only[execOp,hx,u];have h1:=gZ (P:=P) (w:=w) (op:=op) (T:=T) (x:=x) (y:=y) (k:=k) (k':=k') (a:=a) (b:=b);simp[go_sem,h1,h]
def B8e {x y:Operand} {ts:Array TypeId} {k k':IntKind} {a b:Int} (hx:ev E x= .int k a) (hy:ev E y= .int k' b):E4 P E ty (.call ⟨.builtin .max, #[x,y],ts⟩) w (.int k (max a b)) w:=fun _ _ _ _=>by
 have u:(if b>a then b else a)=max a b:=by by_cases h:a<b<;>simp only[gt_iff_lt,h,xS,yD]<;>omega
 simp[execOp,resolve,invoke,builtin,Builtin.max_,Builtin.max2,hx,hy,go_sem];exact u
def B8f {x y z:Operand} {ts:Array TypeId} {k k' u:IntKind} {a b c:Int} (hx:ev E x= .int k a) (hy:ev E y= .int k' b) (hz:ev E z= .int u c):E4 P E ty (.call ⟨.builtin .max, #[x,y,z],ts⟩) w (.int k (max (max a b) c)) w:=fun _ _ _ _=>by
 have hm:∀a b:Int,(if b>a then b else a)=max a b:=fun a b=>by by_cases h:a<b<;>simp only[gt_iff_lt,h,xS,yD]<;>omega
 simp only[execOp,resolve,invoke,builtin,Builtin.max_,go_sem];simp[hx,hy,hz,Builtin.max2,hm,go_sem]
def B8g {x y:Operand} {ts:Array TypeId} {k k':IntKind} {a b:Int} (hx:ev E x= .int k a) (hy:ev E y= .int k' b):E4 P E ty (.call ⟨.builtin .min, #[x,y],ts⟩) w (.int k (min a b)) w:=fun _ _ _ _=>by
 have u:(if b<a then b else a)=min a b:=by by_cases h:b<a<;>simp only[h,xS,yD]<;>omega
 simp[execOp,resolve,invoke,builtin,Builtin.min_,Builtin.min2,hx,hy,go_sem];exact u
def C1x {x:Operand} {t e:TypeId} {s len a0:Nat} {a:Option Addr} (hx:ev E x= .slice a len a0) (u:Gv P t e s=true):E4 P E ty (.call ⟨.builtin .len, #[x], #[t]⟩) w (.int .i64 len) w:=fun _ _ _ _=>by
 have hu:P.underlying t=some (.slice e):=by
  unfold Gv at u;simp only[qC]at u;obtain⟨u,_⟩:=u;split at u
  . rename_i e' he;simp at u;subst u;exact he
  . cases u
 simp[execOp,resolve,invoke,builtin,Builtin.len_,hx,run_underlying hu,goInt,go_sem]
end ops
def Fh {P:Program} {E:F8} {w:World} {ty:TypeId} {fo:Operand} {f:FuncId} {a0 args:List Value} {as:List Operand} {ts:Array TypeId} (hf:ev E fo= .func (.func f) #[] a0.toArray) (u:Fy P f=true) (ha:as.map (ev E)++a0=args):
 A4t P E ty (.call ⟨.value fo,as.toArray,ts⟩) w f args:=fun _ _ _ _=>by
 unfold Fy at u;split at u
 . rename_i fn a1;simp only[qC,rQ]at u;have h2:¬fn.body=none:=by intro hb;rw[hb]at u;simp at u
   have h1:¬fn.name= "runtime.NumGoroutine" :=by simpa using u.1
   subst ha;simp[execOp,resolve,hf,Deferred.ofValue,invoke,callFunc,a1,h1,h2,go_sem]
 . cases u
def C1y {P:Program} {E:F8} {w:World} {ty:TypeId} {fn:Fn} {caps:List Operand} {vs:List Value} (u:caps.map (ev E)=vs):E4 P E ty (.makeFunc fn #[] caps.toArray) w (.func fn #[] vs.toArray) w:=fun _ _ _ _=>by
 subst u;simp[execOp,Instr.makeFunc]
def C1z {P:Program} {E:F8} {w:World} {ty:TypeId} {T T':TypeId} {x y:Operand} {a b:Bool} (hx:ev E x= .bool a) (hy:ev E y= .bool b) (hT:P.underlying T=some .bool):E4 P E ty (.binOp .neq T x y T') w (.bool (a !=b)) w:=fun _ _ _ _=>by
 have h1:=run_equalIn_bool' (P:=P) w 9999 T a b hT;have hg:(eqGuard .neq T x y (.bool a) (.bool b)).run P w= .ok () w:=rfl;have u:(binOp .neq T (.bool a) (.bool b)).run P w= .ok (.bool (a !=b)) w:=by
  show((Op.equal T (.bool a) (.bool b))>>=fun r=>pure (Value.bool (!r))).run P w= _;unfold Op.equal Op.maxDepth;rw[Sem.run_bind,h1];rfl
 simp only[execOp,hx,hy];simp[hg,u]
def KO (w:World) (b:Nat) (cs:Array Value) (t:TypeId):Prop:=w.heap[b]? =some (.cells cs t (0,0))
structure R5 (w w':World):Prop extends Below w.heap.size w w' where
 drw:True
def KO.lt {w:World} {b:Nat} {cs:Array Value} {t:TypeId} (h:KO w b cs t):b<w.heap.size:=(rU.1 h).1
def KO.ext {w w':World} {b:Nat} {cs:Array Value} {t:TypeId} (h:KO w b cs t) (hx:R5 w w'):KO w' b cs t:=(hx.block b h.lt).trans h
def KO.cell {w:World} {b o:Nat} {cs:Array Value} {t:TypeId} {v:Value} (h:KO w b cs t) (u:cs[o]? =some v):w.cell? ⟨b,o,none⟩=some v:=by
 unfold KO at h;simp[World.cell?,h,u]
def R5.refl (w:World):R5 w w:=⟨Below.refl _ _,trivial⟩
def R5.trans {a b c:World} (h:R5 a b) (k:R5 b c):R5 a c:=⟨Below.trans h.toBelow (Below.mono k.toBelow h.size),trivial⟩
def R5.drew {a b:World} (h:R5 a b):R5 a b.drew:=⟨Below.drew h.toBelow,trivial⟩
def R5.alloc (w:World) (o:Obj):R5 w (w.alloc o):=⟨(Below.refl _ _).alloc (rB _) o,trivial⟩
section mem
variable {P:Program} {E:F8} {w:World} {ty:TypeId}
def Ij {t:TypeId} (h:Iv P t=true):(isAgg t).run P w= .ok false w:=by
 unfold Iv at h;cases u:P.underlying t with
 |none=>simp[u]at h
 |some d=>cases d<;>simp[u]at h<;>simp[isAgg,run_underlying u,go_sem]
def Qd {t:TypeId} {s:Nat} (h:fN P t s=true):(isAgg t).run P w= .ok true w/\(sizeOf t).run P w= .ok s w:=by
 unfold fN at h;simp only[qC]at h;obtain⟨h1,u⟩:=h;constructor
 . cases hu:P.underlying t with
   |none=>simp[hu]at h1
   |some d=>cases d<;>simp[hu]at h1<;>simp[isAgg,run_underlying hu,go_sem]
 . cases hi:P.info? t with
   |none=>simp[hi]at u
   |some i=>simp[hi]at u;simp[sizeOf,typeInfo,hi,u,go_sem]
def Fe {t:TypeId} {s:Nat} (h:Sv P t s=true):(sizeOf t).run P w= .ok s w:=by
 unfold Sv at h;cases hi:P.info? t with
 |none=>simp[hi]at h
 |some i=>simp[hi]at h;simp[sizeOf,typeInfo,hi,h,go_sem]
def oU {T:TypeId} {x:Operand} {a:Addr} {v:Value} (hx:ev E x= .pointer (some a)) (hs:Iv P T=true) (u:w.cell? a=some v):E4 P E ty (.load T x) w v w:=fun _ _ _ _=>by
 have h1:=Ij (P:=P) (w:=w) hs;simp[execOp,hx,Instr.loadAt,Instr.sureAddr,loadVar,h1,u,go_sem]
def J2 (w:World) (a:Addr) (cs:List Value):Prop:=∀j v,cs[j]? =some v->w.cell? (a.add j)=some v
def oV {T:TypeId} {x:Operand} {a:Addr} {cs:List Value} {s:Nat} (hx:ev E x= .pointer (some a)) (hs:fN P T s=true) (hl:cs.length=s) (hc:J2 w a cs):E4 P E ty (.load T x) w (.agg cs.toArray) w:=fun _ _ _ _=>by
 obtain⟨h1,h2⟩:=Qd (P:=P) (w:=w) hs;have u:=run_loadCells_list (P:=P) (w:=w) a cs hc;rw[hl]at u;unfold loadCells at u;simp[execOp,hx,Instr.loadAt,Instr.sureAddr,loadVar,h1,h2,u,go_sem]
def KO.cellsAt {w:World} {b:Nat} {cs:Array Value} {t:TypeId} (h:KO w b cs t):J2 w ⟨b,0,none⟩ cs.toList:=fun j v u=>by
 have:(⟨b,0,none⟩:Addr).add j=⟨b,j,none⟩:=by unfold Addr.add;split<;>simp_all
 rw[this];exact h.cell (by simpa using u)
def J7 (b o n:Nat):(⟨b,o,none⟩:Addr).add n=⟨b,o+n,none⟩:=by unfold Addr.add;split<;>simp_all
def BL {T:TypeId} {x:Operand} {b o f off:Nat} (hx:ev E x= .pointer (some ⟨b,o,none⟩)) (u:LM P T f off=true):E4 P E ty (.fieldAddr T x f) w (.pointer (some ⟨b,o+off,none⟩)) w:=fun _ _ _ _=>by
 unfold LM at u;split at u
 . rename_i fs hu;split at u
   . rename_i fd a0;simp only[qC,g1c]at u;obtain⟨h1,h2⟩:=u;cases hi:P.info? fd.type with
     |none=>simp[hi]at h2
     |some i=>
      simp[hi]at h2;have hz:(sizeOf fd.type).run P w= .ok i.size w:=by simp[sizeOf,typeInfo,hi,go_sem]
      subst h1;simp[execOp,hx,Instr.fieldAt,Instr.sureAddr,run_underlying hu,a0,fieldPlace,hz,h2,J7,go_sem]
   . cases u
 . cases u
def C1u {T:TypeId} {x:Operand} {v:Value} (hx:ev E x=v):E4 P E ty (.box T x) w (.pointer (some ⟨w.heap.size,0,none⟩)) (w.alloc (.cells v.cells T)):=fun _ _ _ _=>by
 subst hx;simp[execOp,Instr.box,newVar,newRow,go_sem]
def A1d {T:TypeId} {z:Value} (u:He P T=some z):E4 P E ty (.alloc T) w (.pointer (some ⟨w.heap.size,0,none⟩)) (w.alloc (.cells z.cells T)):=fun _ _ _ _=>by
 unfold He at u;cases hi:P.info? T with
 |none=>simp[hi]at u
 |some i=>
  simp[hi]at u;simp[execOp,Instr.alloc,zeroValue,typeInfo,hi,u,newVar,newRow,go_sem]
def Lf (w:World) (cs:Array Value) (t:TypeId):KO (w.alloc (.cells cs t)) w.heap.size cs t:=heap_alloc_new w _
def KO.alloc {w:World} {b:Nat} {cs:Array Value} {t:TypeId} (h:KO w b cs t) (o:Obj):KO (w.alloc o) b cs t:=h.ext (R5.alloc w o)
end mem
def Kx:∀u∈([]:List Value),u.oneCell'=true:=fun _ h=>by cases h
def Mf {v:Value} {l:List Value} (h:v.oneCell'=true) (t:∀u∈l,u.oneCell'=true):∀u∈v::l,u.oneCell'=true:=fun u hu=>by
 rcases qG.1 hu with hu|hu
 . rw[hu];exact h
 . exact t u hu
section frames
variable {P:Program} {n:Nat} {R:F8->World->Prop} {k:List Fr} {E:F8} {w:World} {all rest:List Oper} {d:Nat} {ty:TypeId} {pos:String} {aft:Array Edge} {g:Option (Nat×Bool)}
end frames
section tests
variable {P:Program} {n:Nat} {R:F8->World->Prop} {k:List Fr} {E:F8} {w:World} {all rest:List Oper} {d:Nat} {ty:TypeId} {pos:String} {aft:Array Edge} {g:Option (Nat×Bool)} {op:Op} {c:Prop} [Decidable c]
variable {S:World->Prop} {i:Nat} {p:bK} {tails:List Nat} {t:Bool}
end tests
def CN (P:Program) (t:TypeId):Option (List (Nat×Nat)):=
 match P.underlying t with
 |some (.struct u)=>u.toList.mapM fun f=>(P.info? f.type).map fun i=>(f.offset,i.size)
 | _=>none
def VG {P:Program} {w:World} :∀(u:List Field) (pl:List (Nat×Nat)),u.mapM (fun f=>(P.info? f.type).map fun i=>(f.offset,i.size))=some pl->
 (u.mapM fun f=>do pure (f.offset, <-sizeOf f.type):Sem (List (Nat×Nat))).run P w= .ok pl w
 | [],pl,h=>by simp at h;subst h;rfl
 |f::u,pl,h=>by
  simp only[wO]at h;cases hi:P.info? f.type with
  |none=>simp[hi]at h
  |some i=>
   simp only[hi,vT,qH,vW]at h;cases hm:u.mapM (fun f=>(P.info? f.type).map fun i=>(f.offset,i.size))with
   |none=>rw[hm]at h;simp at h
   |some a0=>
    rw[hm]at h;simp at h;subst h;have ih:=VG (w:=w) u a0 hm;rw[wO];simp[sizeOf,typeInfo,hi,go_sem];simp[sizeOf,typeInfo,go_sem]at ih;rw[ih];rfl
def B4l {P:Program} {E:F8} {w:World} {ty:TypeId} {T:TypeId} {u:List (Nat×Operand)} {z:Value} {pl:List (Nat×Nat)} (cs:Array Value) (hz:He P T=some z) (hp:CN P T=some pl)
 (a0:Instr.fill (fun i=>pl[i]?) z.cells (u.map fun x=>(x.1,ev E x.2))=some cs):E4 P E ty (.build T u.toArray) w (.agg cs) w:=fun _ _ _ _=>by
 unfold He at hz;unfold CN at hp;cases hi:P.info? T with
 |none=>simp[hi]at hz
 |some i=>
  simp[hi]at hz;cases hu:P.underlying T with
  |none=>simp[hu]at hp
  |some ds=>
   cases ds<;>simp[hu]at hp
   case struct fs=>
    have a1:=VG (w:=w) fs.toList pl hp;have hm:(fs.mapM fun f=>do pure (f.offset, <-sizeOf f.type):Sem (Array (Nat×Nat))).run P w= .ok pl.toArray w:=by
     rw[xE];simp at a1⊢;simp[a1]
    simp only[execOp];unfold Instr.build;simp at hm;simp[zeroValue,typeInfo,hi,hz,run_underlying hu,hm,a0]
def kU {P:Program} {E:F8} {w:World} {ty:TypeId} {T e:TypeId} {len sz:Nat} {u:List (Nat×Operand)} {z:Value} (cs:Array Value) (hz:He P T=some z) (hT:P.underlying T=some (.array len e)) (hs:Sv P e sz=true)
 (a0:Instr.fill (fun i=>some (i*sz,sz)) z.cells (u.map fun x=>(x.1,ev E x.2))=some cs):E4 P E ty (.build T u.toArray) w (.agg cs) w:=fun _ _ _ _=>by
 unfold He at hz;have h3:=Fe (P:=P) (w:=w) hs;cases hi:P.info? T with
 |none=>simp[hi]at hz
 |some i=>
  simp[hi]at hz;simp only[execOp];unfold Instr.build;simp[zeroValue,typeInfo,hi,hz,run_underlying hT,h3,a0]
def A5w {w w':World} (hx:R5 w w') {a:Addr} {v:Value} (h:w.cell? a=some v):w'.cell? a=some v:=by
 have u:a.block<w.heap.size:=block_lt_of_cell h;rw[hx.cell u];exact h
def J2.ext {w w':World} {a:Addr} {cs:List Value} (h:J2 w a cs) (hx:R5 w w'):J2 w' a cs:=fun j v u=>A5w hx (h j v u)
def SlR {α:Type} (w:World) (sz:Nat) (f:α->List Value) (v:Value) (l:List α):Prop:=
 (∃a u,v= .slice a 0 u/\l= [])\/∃b o u,v= .slice (some ⟨b,o,none⟩) l.length u/\l.length<=u/\∀i a,l[i]? =some a->J2 w ⟨b,o+i*sz,none⟩ (f a)
def SlR.ext {α:Type} {w w':World} {sz:Nat} {f:α->List Value} {v:Value} {l:List α} (h:SlR w sz f v l) (hx:R5 w w'):SlR w' sz f v l:=by
 rcases h with h| ⟨b,o,u,hv,hc,hh⟩
 . exact .inl h
 . exact .inr ⟨b,o,u,hv,hc,fun i a hi=>(hh i a hi).ext hx⟩
def SlR.nil {α:Type} (w:World) (sz:Nat) (f:α->List Value):SlR w sz f (.slice none 0 0) []:= .inl ⟨_,_,rfl,rfl⟩
section sl
variable {P:Program} {E:F8} {w:World} {ty:TypeId} {α:Type} {sz:Nat} {f:α->List Value} {v:Value} {l:List α}
def Jj {t e:TypeId} {s:Nat} (u:Gv P t e s=true):P.underlying t=some (.slice e)/\Sv P e s=true:=by
 unfold Gv at u;simp only[qC]at u;obtain⟨u,h2⟩:=u;refine⟨?_,h2⟩;split at u
 . rename_i e' he;simp at u;subst u;exact he
 . cases u
def B0w {x ix:Operand} {t e:TypeId} {kd:IntKind} {i:Int} {a:Addr} {len u:Nat} (hx:ev E x= .slice (some a) len u) (hi:ev E ix= .int kd i) (ht:Gv P t e sz=true) (h0:0<=i) (h1:i<len):E4 P E ty (.indexAddr t x ix) w (.pointer (some (a.add (i.toNat*sz)))) w:=fun _ _ _ _=>by
 obtain⟨hu,hz⟩:=Jj ht;have h3:=Fe (P:=P) (w:=w) hz;simp[execOp,hx,hi,Instr.indexAt,asIntOf,run_underlying hu,h0,h1,h3,go_sem]
end sl
section owned
variable {w w':World} {base:Nat} {e:TypeId} {sz:Nat} {v:Value} {n:Nat} {xs:List Value}
def B3b (h:w.ownsRow base e sz v n xs) (hx:R5 w w'):w'.ownsRow base e sz v n xs:=
 h.kept (row:=none) ⟨hx.os,hx.tape,hx.output,hx.size,fun k u _=>hx.block k u⟩ (by cases v.ownBlock<;>simp)
def KO.grown {b:Nat} {cs:Array Value} {t:TypeId} {row:Option Nat} (h:KO w b cs t) (hg:w.grownBy w' row) (u:some b≠row):KO w' b cs t:=(hg.block b h.lt u).trans h
end owned
section frames2
variable {P:Program} {n:Nat} {R:F8->World->Prop} {k:List Fr} {E:F8} {w:World} {all rest:List Oper} {d:Nat} {ty:TypeId} {pos:String} {aft:Array Edge} {g:Option (Nat×Bool)}
def fA {T e:TypeId} {sz len:Nat} {u:List (Nat×Operand)} {z:Value} (cs:Array Value) (ht:Gv P T e sz=true) (hz:He P e=some z) (a1:len*sz<=16777216)
 (a0:Instr.fill (fun i=>some (i*sz,sz)) ((Array.range (len*sz)).map (z.cells[· %z.cells.size]!)) (u.map fun x=>(x.1,ev E x.2))=some cs) (h0:len*sz≠0):
 E4 P E ty (.buildSlice T len u.toArray) w (.slice (some ⟨w.heap.size,0,none⟩) len len) (w.alloc (.cells cs e)):=fun _ _ _ _=>by
 obtain⟨hu,hs⟩:=Jj ht;unfold He at hz;have h3:=Fe (P:=P) (w:=w) hs;cases hi:P.info? e with
 |none=>simp[hi]at hz
 |some i=>
  simp[hi]at hz;have hn:¬(16777216<len*sz):=by omega
  simp only[execOp];unfold Instr.buildSlice;simp[run_underlying hu,h3,hn,h0,zeroValue,typeInfo,hi,hz,a0,newRow]
def WZ (b:Nat) (w w':World):Prop:=w'.os=w.os/\w'.tape=w.tape/\(w'.output=w.output/\w.drawn<=w'.drawn)/\w'.heap.size=w.heap.size/\∀k,k≠b->w'.heap[k]? =w.heap[k]?
def KO.chg {w w':World} {b b':Nat} {cs:Array Value} {t:TypeId} (h:KO w b cs t) (hc:WZ b' w w') (u:b≠b'):KO w' b cs t:=(hc.2.2.2.2 b u).trans h
def R5.chg {w0 w w':World} {b:Nat} (h:R5 w0 w) (u:WZ b w w') (hb:w0.heap.size<=b):R5 w0 w':=
 ⟨⟨u.1.trans h.os,u.2.1.trans h.tape,u.2.2.1.1.trans h.output,by rw[u.2.2.2.1];exact h.size,fun k hk=>(u.2.2.2.2 k (by omega)).trans (h.block k hk)⟩,trivial⟩
def A5v {w w':World} {b:Nat} (hc:WZ b w w') {a:Addr} (u:a.block≠b):w'.cell? a=w.cell? a:=World.cell?_of_block (w:=w) (hc.2.2.2.2 _ u)
def B3a {w w':World} {b base e sz n:Nat} {v:Value} {xs:List Value} (h:w.ownsRow base e sz v n xs) (u:WZ b w w') (a0:some b≠v.ownBlock):w'.ownsRow base e sz v n xs:=
 h.kept (row:=some b) ⟨u.1,u.2.1,u.2.2.1.1,by rw[u.2.2.2.1];exact rB _,fun k _ hk=>u.2.2.2.2 k (fun e=>hk (by rw[e]))⟩ (.inr (Ne.symm a0))
def QP {T tb:TypeId} {x y:Operand} {b o s:Nat} {cs:Array Value} {v:Value} (vs:List Value) (hx:ev E x= .pointer (some ⟨b,o,none⟩)) (hy:ev E y=v) (a1:v.cells.toList=vs) (hs:Sv P T s=true) (hl:vs.length=s) (hb:KO w b cs tb) (a0:o+vs.length<=cs.size) (h1:∀u∈vs,u.oneCell'=true):
 NL P E ty (.store T x y) w (w.setRow b (cs.toList.take o++vs++cs.toList.drop (o+vs.length)).toArray):=fun _ _ _ _=>by
 have h2:=Fe (P:=P) (w:=w) hs;have h3:=run_storeCells_at P b o tb vs 0 cs w hb (by simpa using a0) h1;have h4:v.cells.size=s:=by rw[<-hl, <-a1];simp
 simp only[tD]at h3;subst hy;simp[execOp,hx,Instr.storeAt,Instr.sureAddr,storeVar,h2,h4,a1,h3]
end frames2
section el
variable {P:Program} {E:F8} {w:World} {ty:TypeId}
def J2.get {w:World} {b o j:Nat} {cs:List Value} {v:Value} (h:J2 w ⟨b,o,none⟩ cs) (u:cs[j]? =some v):w.cell? ⟨b,o+j,none⟩=some v:=by
 have:=h j v u;rwa[J7]at this
def B1y {α:Type} {l:List α} {i:Nat} (h:i<l.length):∃a,l[i]? =some a:=⟨_,qS h⟩
def EM {α:Type} {l:List α} {i:Nat} {a:α} (h:l[i]? =some a):i<l.length:=(sD.1 h).1
end el
section frames
variable {P:Program} {n:Nat} {R:F8->World->Prop} {k:List Fr} {E:F8} {w:World} {all rest:List Oper} {d:Nat} {ty:TypeId} {pos:String} {aft:Array Edge} {g:Option (Nat×Bool)}
end frames
def two (a b:Int):Array Value:= #[.int .i64 a, .int .i64 b]
def Xy {κ:Type} (kv:κ->Value) (w:World) (b:Nat) (u:List κ):Prop:=
 ∃es clock,w.heap[b]? =some (.map es clock)/\es.toList.map (·.key)=u.map kv/\∀x∈es.toList,x.val= .bool true
def Xy.lt {κ:Type} {kv:κ->Value} {w:World} {b:Nat} {u:List κ} (h:Xy kv w b u):b<w.heap.size:=by
 obtain⟨es,cl,hb,_⟩:=h;exact(rU.1 hb).1
def Xy.ext {κ:Type} {kv:κ->Value} {w w':World} {b:Nat} {ks:List κ} (h:Xy kv w b ks) (hx:R5 w w'):Xy kv w' b ks:=by
 have u:=h.lt;obtain⟨es,cl,hb,r⟩:=h;exact⟨es,cl,(hx.block b u).trans hb,r⟩
def Xy.chg {κ:Type} {kv:κ->Value} {w w':World} {b b':Nat} {ks:List κ} (h:Xy kv w b ks) (hc:WZ b' w w') (u:b≠b'):Xy kv w' b ks:=by
 obtain⟨es,cl,hb,r⟩:=h;exact⟨es,cl,(hc.2.2.2.2 b u).trans hb,r⟩
def Xy.grown {κ:Type} {kv:κ->Value} {w w':World} {b:Nat} {row:Option Nat} {ks:List κ} (h:Xy kv w b ks) (hg:w.grownBy w' row) (a0:some b≠row):Xy kv w' b ks:=by
 have u:=h.lt;obtain⟨es,cl,hb,r⟩:=h;exact⟨es,cl,(hg.block b u a0).trans hb,r⟩
def iv (i:Int):Value:= .int .i64 i
def sv (s:Int×Int):Value:= .agg (two s.1 s.2)
section maps
variable {P:Program} {E:F8} {w:World} {ty:TypeId} {κ:Type} {kv:κ->Value}
def A4l {t:TypeId} :E4 P E ty (.makeMap t none) w (.map (some w.heap.size)) (w.alloc (.map #[] 0)):=fun _ _ _ _=>by
 simp[execOp,Instr.makeMap]
end maps
section mframes
variable {P:Program} {n:Nat} {R:F8->World->Prop} {k:List Fr} {E:F8} {w:World} {all rest:List Oper} {d:Nat} {ty:TypeId} {pos:String} {aft:Array Edge} {g:Option (Nat×Bool)} {κ:Type}
end mframes
def kZ {α:Type} (w:World) (base:Nat) (e:TypeId) (sz:Nat) (f:α->List Value) (v:Value) (l:List α):Prop:=w.ownsRow base e sz v l.length (l.flatMap f)
section own
variable {α:Type} {w w':World} {base:Nat} {e:TypeId} {sz:Nat} {f:α->List Value} {v:Value} {l:List α}
def kZ.ext (h:kZ w base e sz f v l) (hx:R5 w w'):kZ w' base e sz f v l:=B3b h hx
def kZ.chg {b:Nat} (h:kZ w base e sz f v l) (hc:WZ b w w') (u:some b≠v.ownBlock):kZ w' base e sz f v l:=B3a h hc u
def kZ.nil (w:World) (base:Nat) (e:TypeId) (sz:Nat) (f:α->List Value):kZ w base e sz f (.slice none 0 0) []:=World.ownsRow_nil w base e sz
def kZ.lit {b:Nat} {cs:Array Value} {a:α} (hb:KO w b cs e) (a0:cs.toList=f a) (hl:(f a).length=sz) (u:base<=b):kZ w base e sz f (.slice (some ⟨b,0,none⟩) 1 1) [a]:=by
 refine⟨by simp[hl], .inr ⟨b,1,cs,rfl,u,hb,by simp,by decide, ?_, ?_⟩⟩
 . rw[<-sR,a0,hl];simp
 . rw[a0];simp[hl,qV]
def kZ.grown {β:Type} {base2 e2 sz2:Nat} {f2:β->List Value} {v2:Value} {l2:List β} (h2:kZ w base2 e2 sz2 f2 v2 l2) (hg:w.grownBy w' v.ownBlock) (u:v2.ownBlock=none\/v2.ownBlock≠v.ownBlock):kZ w' base2 e2 sz2 f2 v2 l2:=h2.kept hg u
end own
section frames
variable {P:Program} {n:Nat} {R:F8->World->Prop} {k:List Fr} {E:F8} {w:World} {all rest:List Oper} {d:Nat} {ty:TypeId} {pos:String} {aft:Array Edge} {g:Option (Nat×Bool)} {α:Type} {f:α->List Value}
def Vg (off:Nat):∀(l:List Value) (j:Nat) (cs:Array Value),off+j+l.length<=cs.size->
 ((l.zipIdx j).foldl (fun cs (x:Value×Nat)=>cs.setIfInBounds (off+x.2) x.1) cs).toList=cs.toList.take (off+j)++l++cs.toList.drop (off+j+l.length)
 | [],j,cs,_=>by simp
 |x::l,j,cs,h=>by
  simp only[g1q,yC];simp only[rH]at h;rw[Vg off l (j+1) _ (by simp;omega)];have u:off+j<cs.size:=by omega
  have a0:off+j<cs.toList.length:=by simpa using u
  simp only[Array.toList_setIfInBounds];rw[List.take_set,yU (by omega),show off+(j+1)=(off+j)+1 from by omega,List.take_succ_eq_append_getElem a0];rw[g2m _ _ (by simp;omega)];simp[sW (vZ u),show off+j+1+l.length=off+j+(l.length+1)from by omega]
def iE (sz:Nat):∀(vs:List Value) (k:Nat) (cs:Array Value),(∀v∈vs,v.cells.size=sz)->(k+vs.length)*sz<=cs.size->
 ∃r,Instr.fill (fun i=>some (i*sz,sz)) cs ((vs.zipIdx k).map fun x=>(x.2,x.1))=some r/\r.toList=cs.toList.take (k*sz)++vs.flatMap (·.cells.toList)++cs.toList.drop ((k+vs.length)*sz)/\r.size=cs.size
 | [],k,cs,_,_=>⟨cs,by simp[Instr.fill],by simp,rfl⟩
 |v::vs,k,cs,hv,h=>by
  have hs:v.cells.size=sz:=hv v (by simp);have h1:(k+(vs.length+1))*sz=k*sz+vs.length*sz+sz:=by rw[uP,uL];omega
  simp only[rH,h1]at h;have a3:k*sz+v.cells.size<=cs.size:=by omega
  have u:=Vg (k*sz) v.cells.toList 0 cs (by simp;omega);simp only[tD]at u;generalize hc':(v.cells.toList.zipIdx 0).foldl (fun cs (x:Value×Nat)=>cs.setIfInBounds (k*sz+x.2) x.1) cs=cs' at u;have a0:cs'.size=cs.size:=by
   have:=tT List.length u;simp only[sR,rP,qW,sN]at this;omega
  have h2:(k+1+vs.length)*sz=k*sz+vs.length*sz+sz:=by rw[uP,uP];omega
  obtain⟨r,hr,a1,a2⟩:=iE sz vs (k+1) cs' (fun x hx=>hv x (by simp[hx])) (by rw[h2,a0];exact h);refine⟨r, ?_, ?_,by rw[a2,a0]⟩
  . simp only[g1q,sB];unfold Instr.fill;simp only[hs];rw[qL (by simp;omega)];rw[<-hr, <-hc', <-g3n];simp
  . rw[a1,u];have e1:(k+1)*sz=k*sz+sz:=uL k sz;have e2:(k+(vs.length+1))*sz=(k+1+vs.length)*sz:=by rw[h2,h1]
    have l1:(cs.toList.take (k*sz)).length=k*sz:=by simp;omega
    have l2:v.cells.toList.length=sz:=by simpa using hs
    rw[e1,yJ,rH,e2];have l3:(cs.toList.take (k*sz)++v.cells.toList).length=k*sz+sz:=by rw[rP,l1,l2]
    congr 1
    . rw[<-uC,g0f l3]
    . rw[g4g,sE (by rw[l3,h2];omega),vJ,vR,l3,l2,h2];congr 1;omega
end frames
def Frs (n:Nat) (v:Value):Prop:=∀g,v.ownBlock=some g->n<=g
def SlR.chg {α:Type} {w w':World} {sz b:Nat} {f:α->List Value} {v:Value} {l:List α} (h:SlR w sz f v l) (hc:WZ b w w') (a2:∀g,v.ownBlock=some g->g≠b):SlR w' sz f v l:=by
 rcases h with h| ⟨b',o,a1,hv,a0,hh⟩
 . exact .inl h
 . refine .inr ⟨b',o,a1,hv,a0,fun i a hi j u hu=> ?_⟩;have hb:b'≠b:=a2 b' (by rw[hv];rfl);have:=hh i a hi j u hu;rw[J7]at this⊢;rw[A5v hc hb];exact this
def kZ.frs {α:Type} {w:World} {base e sz n:Nat} {f:α->List Value} {v:Value} {l:List α} (h:kZ w base e sz f v l) (hn:n<=base):Frs n v:=fun g u=>by have:=(World.ownsRow.lt h g u).1;omega
def YN (v v2:Value):Prop:=∀g,v.ownBlock=some g->v2.ownBlock≠some g
def YN.symm {v v2:Value} (h:YN v v2):YN v2 v:=fun g h1 u=>h g u h1
section
variable {α β:Type} {w w':World} {base e sz base2 e2 sz2:Nat} {f:α->List Value} {f2:β->List Value} {v v' v2:Value} {l:List α} {l2:List β}
def YN.append (ha:YN v v2) (h2:kZ w base2 e2 sz2 f2 v2 l2) (h:v'.ownBlock=v.ownBlock\/v'.ownBlock=some w.heap.size):YN v' v2:=by
 intro g hg u;rcases h with h|h
 . exact ha g (h▸hg) u
 . rw[hg]at h;have:=(World.ownsRow.lt h2 g u).2;cases h;omega
end
inductive Pl where
 |done
 |q (i:Nat) (p:Pl)
 |p (i:Nat) (p:Pl)
 |e (i:Nat) (p:Pl)
 |or (i:Nat) (p:Pl) (q:Pl)
 |al (is js:List Nat) (p:Pl)
def Ft (all:List Oper) (i:Nat):Nat:=((all[i]?).bind (·.dst)).getD 0
def Ba (all:List Oper) (l:List Nat):List Nat:=l.map (Ft all)
def aL (all:List Oper) (i:Nat):List Nat:=match all[i]? with
 |some o=>o.op.operands.toList.filterMap fun x=>match x with| .tmp t=>some t| _=>none
 |none=> []
def dZ (all:List Oper) (i:Nat):Bool:=match all[i]? with
 |some o=>o.dst.isSome&&o.guard.isNone&&(match o.op with| .select _ _=>false| _=>true)
 |none=>false
def rm (i:Nat) (l:List Nat):List Nat:=l.filter fun k=> !Nat.beq k i
def B3s (l u:List Nat):Bool:=l.all fun x=> !u.contains x
def UB:List Nat->Bool
 | []=>true
 |x::r=> !r.contains x&&UB r
def A1h (all:List Oper) (is js:List Nat):Bool:=(is++js).all (dZ all)&&UB (is++js)&&UB (Ba all (is++js))&&is.all fun i=>B3s (aL all i) (Ba all (is++js))
def A1g (all:List Oper) (tails:List Nat) (u:Nat->Array Bool->Bool):Nat->List Nat->List Nat->Array Bool->Bool
 |0,ri,rj,listed=>ri.isEmpty&&rj.isEmpty&&u 0 listed
 |f+1,ri,rj,listed=>match rj.find? fun j=>(Region.ready .any all.toArray listed).contains j&&Region.free .any all.toArray listed j with
  |some j=> !tails.contains j&&B3s (aL all j) (Ba all (ri++rj))&&A1g all tails u f ri (rm j rj) (listed.setIfInBounds j true)
  |none=>match ri with
   | []=>rj.isEmpty&&u (f+1) listed
   |i0::r0=>(Region.ready .any all.toArray listed==i0::r0)&&(i0::r0).all fun i=> !tails.contains i&&A1g all tails u f (rm i (i0::r0)) rj (listed.setIfInBounds i true)
def Fu (all:List Oper) (f:Nat->Nat->Value) (X:Nat->Obj):List Nat->F8->World->F8×World
 | [],E,w=>(E,w)
 |i::r,E,w=>Fu all f X r (upd E (Ft all i) (f i w.heap.size)) (w.alloc (X i))
def AlV (P:Program) (all:List Oper) (js:List Nat) (F:F8):Prop:=∀j∈js,∃o,all[j]? =some o/\∀w,(execOp (ev F) o).run P w= .ok (.value (F (Ft all j))) w
structure A4q (P:Program) (R:World->World->Prop) (all:List Oper) (is js:List Nat) (f:Nat->Nat->Value) (X:Nat->Obj) (nx:F8->World->Prop) (E:F8) (w:World):Prop where
 one:∀i∈is,∃o,all[i]? =some o/\∀w',(execOp (ev E) o).run P w'= .ok (.value (f i w'.heap.size)) (w'.alloc (X i))
 rel:∀i∈is,∀w',R w w'->R w' (w'.alloc (X i))
 fin:∀l,l.Perm is->∃F,(∀x,x∉Ba all js->F x=(Fu all f X l E w).1 x)/\AlV P all js F/\nx F (Fu all f X l E w).2
def Sc (all:List Oper) (heads tails:List Nat):Pl->Nat->Array Bool->Option (List Nat)->Bool
 | .done,_,listed,al=>al.isNone&&(Region.ready .any all.toArray listed).isEmpty
 | .q i p,fuel,listed,al=>match fuel with
  |0=>false
  |fuel+1=>al.isNone&&heads.contains i&& !tails.contains i&&Region.free .any all.toArray listed i&&(Region.ready .any all.toArray listed).contains i&&Sc all heads tails p fuel (listed.setIfInBounds i true) none
 | .p i p,fuel,listed,al=>match fuel with
  |0=>false
  |fuel+1=>al.isNone&& !tails.contains i&&Region.free .any all.toArray listed i&&(Region.ready .any all.toArray listed).contains i&&Sc all heads tails p fuel (listed.setIfInBounds i true) none
 | .e i p,fuel,listed,al=>match fuel with
  |0=>false
  |fuel+1=>(al.getD (Region.ready .any all.toArray listed)== [i])&&Sc all heads tails p fuel (listed.setIfInBounds i true) none
 | .or i p q,fuel,listed,al=>match fuel with
  |0=>false
  |fuel+1=>match al.getD (Region.ready .any all.toArray listed)with
   | []=>false
   |j::rest=>Nat.beq i j&&Sc all heads tails p fuel (listed.setIfInBounds i true) none&&Sc all heads tails q (fuel+1) listed (some rest)
 | .al is js p,fuel,listed,al=>al.isNone&&A1h all is js&&A1g all tails (fun f l=>Sc all heads tails p f l none) fuel is js listed
def B5a (all:List Oper) (heads tails:List Nat) (p:Pl):Bool:=Region.noSelect all.toArray&&CS all heads tails&&Sc all heads tails p all.length (Array.replicate all.length false) none
def SL (P:Program) (R:World->World->Prop) (all:List Oper) (tails:List Nat) (next:F8->World->Prop):Pl->Bool->F8->World->Prop
 | .done,_=>next
 | .q i p,t=>fun E w=>∃o,all[i]? =some o/\GQ P (R w) all o (SL P R all tails next p t) E w
 | .p i p,t=>fun E w=>∃o,all[i]? =some o/\GQ P (fun _=>True) all o (SL P R all tails next p t) E w
 | .e i p,t=>fun E w=>∃o,all[i]? =some o/\I0 P all o (fun E' w'=>((t||tails.contains i)=true\/R w w')/\SL P R all tails next p (t||tails.contains i) E' w') E w
 | .or i p q,t=>fun E w=>(∃o,all[i]? =some o/\I0 P all o (fun E' w'=>((t||tails.contains i)=true\/R w w')/\SL P R all tails next p (t||tails.contains i) E' w') E w)/\SL P R all tails next q t E w
 | .al is js p,t=>fun E w=>∃f X,A4q P R all is js f X (SL P R all tails next p t) E w
section
variable {P:Program} {ops:Array Oper} {Q:Exit->Act->World->Prop} {S S':World->Prop} {tails:List Nat}
def Jq (hS:∀w,S w->S' w):∀(fuel:Nat) (listed:Array Bool) (a:Act) (w:World),X5 P ops Q S tails fuel listed a w->X5 P ops Q S' tails fuel listed a w
 |0,_,_,_,h=>h
 |fuel+1,_,_,_,h=>⟨h.1,fun i hi=>wpOp_mono (fun a' w' u=>⟨u.1.imp id (hS w'),Jq hS fuel _ a' w' u.2⟩) (h.2 i hi)⟩
def OT:∀(fuel:Nat) (listed:Array Bool) (a:Act) (w:World),G1 tails listed=true->X5 P ops Q S tails fuel listed a w->X5 P ops Q S' tails fuel listed a w
 |0,_,_,_,_,h=>h
 |fuel+1,_,_,_,u,h=>⟨h.1,fun i hi=>wpOp_mono (fun a' w' h'=>⟨.inl (Dl u),OT fuel _ a' w' (Dl u) h'.2⟩) (h.2 i hi)⟩
end
def Lz:∀ {l:List Nat},UB l=true->l.Nodup
 | [],_=>xU
 |x::r,h=>by
  simp only[UB,qC,rQ]at h;exact sH.2 ⟨T4 h.1,Lz h.2⟩
def dL {i k:Nat} {l:List Nat} :k∈rm i l↔k∈l/\k≠i:=by
 unfold rm;rw[wC];refine and_congr_right fun _=>⟨fun h e=>by subst e;simp at h,fun h=>by rw[C8 h];rfl⟩
def A0t {i:Nat} :∀ {l:List Nat},l.Nodup->i∈l->(i::rm i l).Perm l
 | [],_,h=>by cases h
 |x::r,hn,h=>by
  obtain⟨h1,u⟩:=sH.1 hn;by_cases hx:x=i
  . subst hx;have:rm x (x::r)=r:=by
     unfold rm;rw[g1o,qL (by simp)];exact g0k.2 fun k hk=>by rw[C8 (show k≠x from fun e=>h1 (by rw[<-e];exact hk))];rfl
    rw[this]
  . have:rm i (x::r)=x::rm i r:=by
     unfold rm;rw[g1o,qT (by rw[C8 hx];rfl)]
    rw[this];rcases qG.1 h with h|h
    . exact absurd h.symm hx
    . exact(List.Perm.swap x i _).trans ((A0t u h).cons x)
def MY {l u:List Nat} (h:B3s l u=true):∀x∈l,x∉u:=fun x hx=>by
 have:=tR.1 h x hx;simp only[rQ]at this;exact T4 this
def Zr {all:List Oper} {i:Nat} {o:Oper} (h:dZ all i=true) (ho:all[i]? =some o):o.dst=some (Ft all i)/\o.guard=none/\∀cs b,o.op≠ .select cs b:=by
 unfold dZ at h;rw[ho]at h;simp only[qC,wE]at h;refine⟨?_,h.1.2,fun cs b e=>by rw[e]at h;simp at h⟩;cases u:o.dst with
 |none=>rw[u]at h;simp at h
 |some d=>simp[Ft,ho,u]
def A2x {all:List Oper} {i:Nat} {o:Oper} {t:Nat} (ho:all[i]? =some o) (h:Operand.tmp t∈o.op.operands):t∈aL all i:=by
 unfold aL;rw[ho];exact List.mem_filterMap.2 ⟨.tmp t,by simpa using h,rfl⟩
def LJ {all:List Oper} {i:Nat} {o:Oper} {E E':F8} (ho:all[i]? =some o) (u:∀cs b,o.op≠ .select cs b) (h:∀t∈aL all i,E t=E' t):execOp (ev E) o=execOp (ev E') o:=
 execOp_congr o u fun x hx=>by
  cases x with
  |tmp t=>exact h t (A2x ho hx)
  | _=>rfl
def Zw {all:List Oper} {f:Nat->Nat->Value} {X:Nat->Obj} :∀(a b:List Nat) (E:F8) (w:World),Fu all f X (a++b) E w=Fu all f X b (Fu all f X a E w).1 (Fu all f X a E w).2
 | [],_,_,_=>rfl
 |i::a,b,E,w=>Zw a b _ _
def Ii {all:List Oper} {f:Nat->Nat->Value} {X:Nat->Obj} {x:Nat} :∀(l:List Nat) (E:F8) (w:World),x∉Ba all l->(Fu all f X l E w).1 x=E x
 | [],_,_,_=>rfl
 |i::l,E,w,h=>by
  simp only[Ba,sB,qG,g4s]at h;simp only[Fu];rw[Ii l _ _ h.2,C3 _ _ _ _ h.1]
def I8 {all:List Oper} {l:List Nat} {x:Nat} :x∈Ba all l↔∃i∈l,Ft all i=x:=by simp[Ba]
def cK {all:List Oper} :∀ {l:List Nat},(Ba all l).Nodup->∀ {i k:Nat},i∈l->k∈l->i≠k->Ft all i≠Ft all k
 | [],_,_,_,h,_,_=>by cases h
 |x::r,hn,i,k,hi,u,a0=>by
  simp only[Ba,sB]at hn;obtain⟨h1,h2⟩:=sH.1 hn;rcases qG.1 hi with hi|hi<;>rcases qG.1 u with u|u
  . exact absurd (hi.trans u.symm) a0
  . rw[hi];exact fun e=>h1 (I8.2 ⟨k,u,e.symm⟩)
  . rw[u];exact fun e=>h1 (I8.2 ⟨i,hi,e⟩)
  . exact cK h2 hi u a0
def B5k {P:Program} {R:World->World->Prop} (am:∀w,R w w) (b4:∀ {a b c},R a b->R b c->R a c) {n:Nat} {all:List Oper} {heads tails is js:List Nat} (hn:ZE n all=true) (b1:Region.noSelect all.toArray=true) (hw:CS all heads tails=true) {Q:Exit->Act->World->Prop} (hQ:∀(c:List PanicEntry) (a a':Act) (w:World),Q (.panic c) a' w->Q (.panic c) a w)
 {aa:Nat->Array Bool->Bool} {nx:F8->World->Prop} {t:Bool} {f:Nat->Nat->Value} {X:Nat->Obj} {E:F8} {w:World} (b2:A1h all is js=true) (hs:A4q P R all is js f X nx E w)
 (aj:∀(fuel:Nat) (listed:Array Bool) (a:Act) (E':F8) (w':World),aa fuel listed=true->XD all.toArray heads tails listed->t=G1 tails listed->C4 n a E'->nx E' w'->X5 P all.toArray Q (R w') tails fuel listed a w'):
 ∀(fuel:Nat) (ri rj:List Nat) (listed:Array Bool),A1g all tails aa fuel ri rj listed=true->XD all.toArray heads tails listed->t=G1 tails listed->∀(a:Act) (Ec:F8) (ex:List Nat),C4 n a Ec->(ex++ri).Perm is->(∀j∈rj,j∈js)->
  (∀r,r.Perm ri->∀F,(∀x,x∉Ba all js->F x=(Fu all f X (ex++r) E w).1 x)->AlV P all js F->∀x,x∉Ba all (ri++rj)->F x=Ec x)->R w (Fu all f X ex E w).2->
  X5 P all.toArray Q (R (Fu all f X ex E w).2) tails fuel listed a (Fu all f X ex E w).2:=by
 simp only[A1h,qC,tR]at b2;obtain⟨⟨⟨s1,s2⟩,s3⟩,s4⟩:=b2;have s2:=Lz s2;have s3:=Lz s3;have a9:=AA hw;have fin:∀(fuel:Nat) (listed:Array Bool),aa fuel listed=true->XD all.toArray heads tails listed->t=G1 tails listed->∀(a:Act) (Ec:F8) (ex:List Nat),C4 n a Ec->(ex++ []).Perm is->(∀r,r.Perm []->∀F,(∀x,x∉Ba all js->F x=(Fu all f X (ex++r) E w).1 x)->AlV P all js F->∀x,x∉Ba all ([]++ [])->F x=Ec x)->X5 P all.toArray Q (R (Fu all f X ex E w).2) tails fuel listed a (Fu all f X ex E w).2:=by
  intro fuel listed hl hd ht a Ec ex hr hp a1;obtain⟨F,f1,f2,f3⟩:=hs.fin ex (by simpa using hp);have:F=Ec:=funext fun x=>a1 [] (wN _) F (by simpa using f1) f2 x (by simp[Ba])
  subst this;exact aj fuel listed a F _ hl hd ht hr f3
 intro fuel
 induction fuel with
 |zero=>
  intro ri rj listed a0 hd ht a Ec ex hr hp _ a1 _;simp only[A1g,qC,g4i]at a0;obtain⟨⟨rfl,rfl⟩,a0⟩:=a0;exact fin 0 listed a0 hd ht a Ec ex hr hp a1
 |succ fuel ih=>
  intro ri rj listed a0 hd ht a Ec ex hr hp hj a1 hR;simp only[A1g]at a0;split at a0
  . rename_i j a7;simp only[qC,rQ]at a0;obtain⟨⟨k1,k2⟩,k3⟩:=a0;have ah:j∈rj:=List.mem_of_find?_eq_some a7;have ai:=List.find?_some a7;simp only[qC]at ai;have az:j∈Region.ready .any all.toArray listed:=by simpa using ai.1
    have ab:=T4 k1;have b3:=MY k2;obtain⟨F0,f1,f2,_⟩:=hs.fin (ex++ri) hp;obtain⟨o,ho,hv⟩:=f2 j (hj j ah);obtain⟨a6,hg,ak⟩:=Zr (s1 j (tI _ (hj j ah))) ho;have ax:all.toArray[j]? =some o:=by simpa using ho
    have ad:∀r,r.Perm ri->∀F,(∀x,x∉Ba all js->F x=(Fu all f X (ex++r) E w).1 x)->AlV P all js F->execOp (ev F) o=execOp (ev Ec) o:=fun r a3 F g1 g2=>LJ ho ak fun u hu=>a1 r a3 F g1 g2 u (b3 u hu)
    have e0:=ad ri (wN _) F0 f1 f2;have ap:t=G1 tails (listed.setIfInBounds j true):=by rw[H4 ab];exact ht
    have a4:E2 all o Ec=true:=by simp[E2,hg]
    refine BK (v:=F0 (Ft all j)) ax ab (Region.noSelect_spec b1) (fun c a w hh=>hQ c a _ w hh) fuel listed a _ (Region.free_spec ax ai.2) az (.inl ⟨by rw[hr.wanted];exact a4,fun w' _=>by rw[hr.ev, <-e0];exact hv w'⟩) (.inr (am _)) ?_;refine ih ri (rm j rj) _ k3 (hd.set a9 az) ap _ (upd Ec (Ft all j) (F0 (Ft all j))) ex ?_ hp (fun k hk=>hj k (dL.1 hk).1) (fun r a3 F g1 g2 x hx=> ?_) hR
    . have:=hr.put o.dst (F0 (Ft all j)) fun d hd=>by
       have:=tR.1 hn o (sU ho);simpa[hd]using this
      rw[a6]at this⊢;exact this
    . by_cases ar:x=Ft all j
      . subst ar;rw[C2];obtain⟨o',ay,bb⟩:=g2 j (hj j ah);rw[ho]at ay;cases ay;have h1:=bb w;rw[ad r a3 F g1 g2, <-e0,hv w]at h1;simp only[Result.ok.injEq,Next.value.injEq,vM]at h1;exact h1.symm
      . rw[C3 _ _ _ _ ar];refine a1 r a3 F g1 g2 x fun hm=>hx ?_
        obtain⟨i,hi,e⟩:=I8.1 hm;refine I8.2 ⟨i, ?_,e⟩;rcases rA.1 hi with hi|hi
        . exact sM _ hi
        . exact tI _ (dL.2 ⟨hi,fun hh=>ar (by rw[<-e,hh])⟩)
  . split at a0
    . simp only[qC,g4i]at a0;obtain⟨rfl,a0⟩:=a0;exact fin _ listed a0 hd ht a Ec ex hr hp a1
    . rename_i i0 r0;have b9:i0::r0≠ []:=by simp
      generalize i0::r0=ri at*;simp only[qC,tR,g1c,rQ]at a0;obtain⟨a5,au⟩:=a0;unfold X5;refine⟨fun h0=>absurd (a5.symm.trans h0) b9,fun i hi=> ?_⟩;have aw:=hi;rw[a5]at hi;obtain⟨k1,k2⟩:=au i hi;have ab:=T4 k1;have a2:i∈is:=hp.subset (tI _ hi);have b8:(ex++ri).Nodup:=hp.nodup_iff.2 (sX.1 s2).1;obtain⟨o,ho,hv⟩:=hs.one i a2;obtain⟨a6,hg,ak⟩:=Zr (s1 i (sM _ a2)) ho;obtain⟨F0,f1,f2,_⟩:=hs.fin (ex++ri) hp;have b7:∀x,x∉Ba all (is++js)->Ec x=E x:=fun x hx=>by
       have b5:x∉Ba all is:=fun hm=>hx (by obtain⟨k,hk,e⟩:=I8.1 hm;exact I8.2 ⟨k,sM _ hk,e⟩)
       have b6:x∉Ba all js:=fun hm=>hx (by obtain⟨k,hk,e⟩:=I8.1 hm;exact I8.2 ⟨k,tI _ hk,e⟩)
       have h1:=a1 ri (wN _) F0 f1 f2 x fun hm=>by
        obtain⟨k,hk,e⟩:=I8.1 hm;rcases rA.1 hk with hk|hk
        . exact b5 (I8.2 ⟨k,hp.subset (tI _ hk),e⟩)
        . exact b6 (I8.2 ⟨k,hj k hk,e⟩)
       rw[<-h1,f1 x b6];exact Ii _ _ _ fun hm=>by
        obtain⟨k,hk,e⟩:=I8.1 hm;exact b5 (I8.2 ⟨k,hp.subset hk,e⟩)
      have ag:=LJ (E:=Ec) (E':=E) ho ak fun u hu=>b7 u (MY (s4 i a2) u hu)
      have ap:t=G1 tails (listed.setIfInBounds i true):=by rw[H4 ab];exact ht
      have a4:E2 all o Ec=true:=by simp[E2,hg]
      have ao:I0 P all o (fun E' w'=>E'=upd Ec (Ft all i) (f i (Fu all f X ex E w).2.heap.size)/\w'=(Fu all f X ex E w).2.alloc (X i)) Ec (Fu all f X ex E w).2:=by
       unfold I0;rw[qT a4,ag,hv,a6];exact⟨rfl,rfl⟩
      have a8:=hs.rel i a2 _ hR;refine Vh hn ho (fun a' E' w' hr' hh=> ?_) hr ao;obtain⟨rfl,rfl⟩:=hh;refine⟨.inr a8, ?_⟩;have af:Fu all f X (ex++ [i]) E w=(upd (Fu all f X ex E w).1 (Ft all i) (f i (Fu all f X ex E w).2.heap.size),(Fu all f X ex E w).2.alloc (X i)):=by rw[Zw];rfl
      have ac:=A0t (sX.1 b8).2.1 hi;have:=ih (rm i ri) rj _ k2 (hd.set a9 aw) ap a' _ (ex++ [i]) hr' (by
       rw[uC];exact(g2l ex ac).trans hp) hj (fun r a3 F g1 g2 x hx=> ?_) (by rw[af];exact b4 hR a8)
      . rw[af]at this;exact Jq (fun w2 h2=>b4 a8 h2) fuel _ a' _ this
      . have ae:(i::r).Perm ri:=(a3.cons i).trans ac;rw[uC]at g1;by_cases aq:x=Ft all i
        . subst aq;have ba:Ft all i∉Ba all js:=fun hm=>by
           obtain⟨k,hk,e⟩:=I8.1 hm;exact cK s3 (tI _ hk) (sM _ a2) (fun hh=>by
            subst hh;exact(sX.1 s2).2.2 k a2 k hk rfl) e
          rw[g1 _ ba,C2,show ex++([i]++r)=(ex++ [i])++r from(uC _ _ _).symm,Zw,af];refine(Ii _ _ _ fun hm=> ?_).trans (C2 _ _ _);obtain⟨k,hk,e⟩:=I8.1 hm;have av:=dL.1 (a3.subset hk);exact cK s3 (sM _ (hp.subset (tI _ av.1))) (sM _ a2) av.2 e
        . rw[C3 _ _ _ _ aq];refine a1 (i::r) ae F g1 g2 x fun hm=>hx ?_
          obtain⟨k,hk,e⟩:=I8.1 hm;refine I8.2 ⟨k, ?_,e⟩;rcases rA.1 hk with hk|hk
          . exact sM _ (dL.2 ⟨hk,fun hh=>aq (by rw[<-e,hh])⟩)
          . exact tI _ hk
def A6k {P:Program} {R:World->World->Prop} (a2:∀w,R w w) (am:∀ {a b c},R a b->R b c->R a c) {n:Nat} {all:List Oper} {heads tails:List Nat} (hn:ZE n all=true) (a6:Region.noSelect all.toArray=true) (hw:CS all heads tails=true) {Q:Exit->F8->World->Prop} (hQ:∀c E w,¬Q (.panic c) E w):
 ∀(p:Pl) (fuel:Nat) (listed:Array Bool) (al:Option (List Nat)),Sc all heads tails p fuel listed al=true->XD all.toArray heads tails listed->∀(t:Bool),t=G1 tails listed->∀(a:Act) (E:F8) (w:World),C4 n a E->(∀l,al=some l->∀i∈l,i∈Region.ready .any all.toArray listed)->SL P R all tails (Q .normal) p t E w->
  match al with
  |none=>X5 P all.toArray (DL n Q) (R w) tails fuel listed a w
  |some l=>∃f,fuel=f+1/\∀i∈l,wpOp P all.toArray (DL n Q) i (fun a' w'=>(G1 tails (listed.setIfInBounds i true)=true\/R w w')/\X5 P all.toArray (DL n Q) (R w) tails f (listed.setIfInBounds i true) a' w') a w:=by
 have a9:∀(c:List PanicEntry) (a a':Act) (w:World),DL n Q (.panic c) a' w->DL n Q (.panic c) a w:=fun c a a' w ⟨E,_,h⟩=>(hQ c E w h).elim
 have a7:∀(i:Nat) (o:Oper),all[i]? =some o->∀d,o.dst=some d->d<n:=fun i o hi d hd=>by
  have:=tR.1 hn o (sU hi);simpa[hd]using this
 have a1:=AA hw;have one:∀(i:Nat) (p:Pl) (fuel:Nat) (listed:Array Bool) (t:Bool) (a:Act) (E:F8) (w:World),(∀(fuel:Nat) (listed:Array Bool) (al:Option (List Nat)),Sc all heads tails p fuel listed al=true->XD all.toArray heads tails listed->∀(t:Bool),t=G1 tails listed->∀(a:Act) (E:F8) (w:World),C4 n a E->(∀l,al=some l->∀i∈l,i∈Region.ready .any all.toArray listed)->SL P R all tails (Q .normal) p t E w->
  match al with
  |none=>X5 P all.toArray (DL n Q) (R w) tails fuel listed a w
  |some l=>∃f,fuel=f+1/\∀i∈l,wpOp P all.toArray (DL n Q) i (fun a' w'=>(G1 tails (listed.setIfInBounds i true)=true\/R w w')/\X5 P all.toArray (DL n Q) (R w) tails f (listed.setIfInBounds i true) a' w') a w)->
  Sc all heads tails p fuel (listed.setIfInBounds i true) none=true->XD all.toArray heads tails listed->t=G1 tails listed->C4 n a E->i∈Region.ready .any all.toArray listed->(∃o,all[i]? =some o/\I0 P all o (fun E' w'=>((t||tails.contains i)=true\/R w w')/\SL P R all tails (Q .normal) p (t||tails.contains i) E' w') E w)->
  wpOp P all.toArray (DL n Q) i (fun a' w'=>(G1 tails (listed.setIfInBounds i true)=true\/R w w')/\X5 P all.toArray (DL n Q) (R w) tails fuel (listed.setIfInBounds i true) a' w') a w:=by
  intro i p fuel listed t a E w ih u hd ht hr a8 ⟨o,hi,h⟩;have a4:(t||tails.contains i)=G1 tails (listed.setIfInBounds i true):=by rw[gB (A9v a8),ht]
  refine Vh hn hi (fun a' E' w' hr' hh=>⟨a4▸hh.1, ?_⟩) hr h;have:=ih fuel _ none u (hd.set a1 a8) _ a4 a' E' w' hr' (fun _ hh=>by cases hh) hh.2;simp only at this;rcases hh.1 with g|g
  . exact OT fuel _ a' w' (a4▸g) this
  . exact Jq (fun w2 h2=>am g h2) fuel _ a' w' this
 intro p
 induction p with
 |done=>
  intro fuel listed al u _ t _ a E w hr _ h;simp only[Sc,qC,wE]at u;obtain⟨rfl,u⟩:=u;have ad:Region.ready .any all.toArray listed= []:=by simpa using u
  cases fuel with
  |zero=>exact⟨ad,E,hr,h⟩
  |succ fuel=>exact⟨fun _=>⟨E,hr,h⟩,by rw[ad];simp⟩
 |q i p ih=>
  intro fuel listed al u hd t ht a E w hr _ h;cases fuel with
  |zero=>simp[Sc]at u
  |succ fuel=>
   simp only[Sc,qC,rQ,wE]at u;obtain⟨⟨⟨⟨⟨rfl,ab⟩,a3⟩,hf⟩,a0⟩,u⟩:=u;have ab:i∈heads:=by simpa using ab
   have a3:=T4 a3;have a0:i∈Region.ready .any all.toArray listed:=by simpa using a0
   obtain⟨o,hi,h⟩:=h;have a5:all.toArray[i]? =some o:=by simpa using hi
   have a4:t=G1 tails (listed.setIfInBounds i true):=by rw[H4 a3];exact ht
   rcases h with⟨hw,v,hv,h⟩ | ⟨hw,h⟩
   . refine KL (v:=v) a5 ab a3 (Region.noSelect_spec a6) a1 (fun c a w hh=>a9 c a _ w hh) fuel listed a w hd (Region.free_spec a5 hf) a0 (.inl ⟨by rw[hr.wanted];exact hw,fun w' af=>by rw[hr.ev];exact hv w' af⟩) (a2 w) ?_;exact ih fuel _ none u (hd.set a1 a0) t a4 _ _ w (hr.put _ _ (a7 i o hi)) (fun _ hh=>by cases hh) h
   . refine KL (v:=undef) a5 ab a3 (Region.noSelect_spec a6) a1 (fun c a w hh=>a9 c a _ w hh) fuel listed a w hd (Region.free_spec a5 hf) a0 (.inr ⟨by rw[hr.wanted];exact hw,rfl⟩) (a2 w) ?_;exact ih fuel _ none u (hd.set a1 a0) t a4 _ _ w (hr.put _ _ (a7 i o hi)) (fun _ hh=>by cases hh) h
 |p i p ih=>
  intro fuel listed al u hd t ht a E w hr _ h;cases fuel with
  |zero=>simp[Sc]at u
  |succ fuel=>
   simp only[Sc,qC,rQ,wE]at u;obtain⟨⟨⟨⟨rfl,a3⟩,hf⟩,a0⟩,u⟩:=u;have a3:=T4 a3;have a0:i∈Region.ready .any all.toArray listed:=by simpa using a0
   obtain⟨o,hi,h⟩:=h;have a5:all.toArray[i]? =some o:=by simpa using hi
   have a4:t=G1 tails (listed.setIfInBounds i true):=by rw[H4 a3];exact ht
   rcases h with⟨hw,v,hv,h⟩ | ⟨hw,h⟩
   . refine BK (v:=v) a5 a3 (Region.noSelect_spec a6) (fun c a w hh=>a9 c a _ w hh) fuel listed a w (Region.free_spec a5 hf) a0 (.inl ⟨by rw[hr.wanted];exact hw,fun w' af=>by rw[hr.ev];exact hv w' af⟩) (.inr (a2 w)) ?_;exact ih fuel _ none u (hd.set a1 a0) t a4 _ _ w (hr.put _ _ (a7 i o hi)) (fun _ hh=>by cases hh) h
   . refine BK (v:=undef) a5 a3 (Region.noSelect_spec a6) (fun c a w hh=>a9 c a _ w hh) fuel listed a w (Region.free_spec a5 hf) a0 (.inr ⟨by rw[hr.wanted];exact hw,rfl⟩) (.inr (a2 w)) ?_;exact ih fuel _ none u (hd.set a1 a0) t a4 _ _ w (hr.put _ _ (a7 i o hi)) (fun _ hh=>by cases hh) h
 |e i p ih=>
  intro fuel listed al u hd t ht a E w hr ag h;cases fuel with
  |zero=>simp[Sc]at u
  |succ fuel=>
   simp only[Sc,qC,g1c]at u;obtain⟨a0,u⟩:=u;cases al with
   |none=>
    simp only[g1v]at a0;have a8:i∈Region.ready .any all.toArray listed:=by rw[a0];simp
    refine⟨fun h0=>by rw[a0]at h0;simp at h0, ?_⟩;intro j hj;obtain rfl:j=i:=by rw[a0]at hj;simpa using hj
    exact one j p fuel listed t a E w ih u hd ht hr a8 h
   |some l=>
    simp only[vA]at a0;subst a0;refine⟨fuel,rfl,fun j hj=> ?_⟩;obtain rfl:j=i:=by simpa using hj
    exact one j p fuel listed t a E w ih u hd ht hr (ag _ rfl j (by simp)) h
 |or i p q ar au=>
  intro fuel listed al u hd t ht a E w hr ag h;cases fuel with
  |zero=>simp[Sc]at u
  |succ fuel=>
   simp only[Sc]at u;cases hl:al.getD (Region.ready .any all.toArray listed)with
   |nil=>rw[hl]at u;simp at u
   |cons j rest=>
    rw[hl]at u;simp only[qC]at u;obtain⟨⟨ah,aj⟩,ak⟩:=u;have ah:=qD ah;subst ah;have ai:∀m∈i::rest,m∈Region.ready .any all.toArray listed:=fun m hm=>by
     cases al with
     |none=>rw[g1v]at hl;rw[hl];exact hm
     |some l=>rw[vA]at hl;exact ag l rfl m (by rw[hl];exact hm)
    have h1:=one i p fuel listed t a E w ar aj hd ht hr (ai i (by simp)) h.1;have h2:=au (fuel+1) listed (some rest) ak hd t ht a E w hr (fun l hh m hm=>by cases hh;exact ai m (by simp[hm])) h.2;obtain⟨f,hf,h2⟩:=h2;have hf:f=fuel:=by omega
    subst hf;have ac:∀m∈i::rest,wpOp P all.toArray (DL n Q) m (fun a' w'=>(G1 tails (listed.setIfInBounds m true)=true\/R w w')/\X5 P all.toArray (DL n Q) (R w) tails f (listed.setIfInBounds m true) a' w') a w:=fun m hm=>by
     rcases qG.1 hm with rfl|hm
     . exact h1
     . exact h2 m hm
    cases al with
    |none=>
     rw[g1v]at hl;exact⟨fun h0=>by rw[hl]at h0;simp at h0,fun m hm=>ac m (by rw[hl]at hm;exact hm)⟩
    |some l=>
     rw[vA]at hl;subst hl;exact⟨f,rfl,ac⟩
 |al is js p ih=>
  intro fuel listed al u hd t ht a E w hr _ h;simp only[Sc,qC,wE]at u;obtain⟨⟨rfl,ap⟩,u⟩:=u;obtain⟨f,X,hs⟩:=h;refine B5k a2 am hn a6 hw a9 (t:=t) ap hs (fun ae aa a' E' w' hl ao a4 hr' hx=>ih ae aa none hl ao t a4 a' E' w' hr' (fun _ hh=>by cases hh) hx) fuel is js listed u hd ht a E [] hr (wN _) (fun _ hh=>hh) (fun r hrp F g1 g2 x hx=> ?_) (a2 w);have aq:x∉Ba all js:=fun hm=>hx (by obtain⟨k,hk,e⟩:=I8.1 hm;exact I8.2 ⟨k,tI _ hk,e⟩)
  rw[g1 x aq,vJ];exact Ii _ _ _ fun hm=>hx (by obtain⟨k,hk,e⟩:=I8.1 hm;exact I8.2 ⟨k,sM _ (hrp.subset hk),e⟩)
end Go.Gw
namespace Go.Vc
open Go Go.RowKit Go.Gw
open Go.IntKind (i64)
inductive Ty where
 |int (k:IntKind)
 |bool
 |str
 |unit
 |pair (a b:Ty)
 |sl (t:Ty)
 |ptr (t:Ty)
 |mp (ka:Bool) (kt:Ty) (va:Bool) (vt:Ty)
 deriving DecidableEq
@[reducible] def Ty.den:Ty->Type
 | .int _=>Int
 | .bool=>Bool
 | .str=>ByteArray
 | .unit=>Unit
 | .pair a b=>a.den×b.den
 | .sl t=>List t.den
 | .ptr t=>t.den
 | .mp _ kt _ vt=>List (kt.den×vt.den)
def Ty.size:Ty->Nat
 | .unit=>0
 | .pair a b=>a.size+b.size
 | _=>1
def Ty.dflt:(t:Ty)->t.den
 | .int _=>(0:Int)
 | .bool=>false
 | .str=>⟨#[]⟩
 | .unit=>()
 | .pair a b=>(a.dflt,b.dflt)
 | .sl _=> []
 | .ptr t=>t.dflt
 | .mp _ _ _ _=> []
def LQ (k:IntKind) (n:Int):Prop:=k.min<=n/\n<=k.max
def Ty.wf:(t:Ty)->t.den->Prop
 | .int k,n=>LQ k n
 | .bool,_=>True
 | .str,_=>True
 | .unit,_=>True
 | .pair a b,x=>a.wf x.1/\b.wf x.2
 | .sl t,l=>l.length<=9223372036854775807/\∀x∈l,t.wf x
 | .ptr t,x=>t.wf x
 | .mp _ kt _ vt,l=>∀x∈l,kt.wf x.1/\vt.wf x.2
def F7 {α:Type} (R:List Value->α->Prop):List Value->List α->Prop
 |cs,[]=>cs= []
 |cs,x::l=>∃c1 u,cs=c1++u/\R c1 x/\F7 R u l
def S8 {α:Type} (R:List Value->α->Prop):Bool->Value->α->Prop
 |true,v,x=>∃cs:List Value,v= .agg cs.toArray/\R cs x
 |false,v,x=>R [v] x
def MOk (ents:Array MapEntry) (clock:Nat):Prop:=(∀x∈ents.toList,x.born<clock)/\(ents.toList.map (·.born)).Nodup
def R4 {κ ν:Type} (Rk:Value->κ->Prop) (Rv:Value->ν->Prop):List MapEntry->List (κ×ν)->Prop
 |es,[]=>es= []
 |es,x::l=>∃e u,es=e::u/\Rk e.key x.1/\Rv e.val x.2/\R4 Rk Rv u l
def C4:(t:Ty)->World->(Nat->Prop)->List Value->t.den->Prop
 | .int k,_,_,cs,n=>cs= [.int k n]/\LQ k n
 | .bool,_,_,cs,b=>cs= [.bool b]
 | .str,_,_,cs,s=>cs= [.string s]
 | .unit,_,_,cs,_=>cs= []
 | .pair a b,w,Z,cs,x=>∃c1 c2,cs=c1++c2/\C4 a w Z c1 x.1/\C4 b w Z c2 x.2
 | .sl t,w,Z,cs,l=>∃a u,cs= [.slice a l.length u]/\l.length<=u/\u<=maxLen/\(a=none->u=0)/\(l= []\/∃b o ec,a=some ⟨b,o,none⟩/\Z b/\J2 w ⟨b,o,none⟩ ec/\F7 (C4 t w Z) ec l)
 | .ptr t,w,Z,cs,x=>∃b o ec,cs= [.pointer (some ⟨b,o,none⟩)]/\Z b/\J2 w ⟨b,o,none⟩ ec/\C4 t w Z ec x
 | .mp ka kt va vt,w,Z,cs,l=>(cs= [.map none]/\l= [])\/∃b ents clock,cs= [.map (some b)]/\Z b/\w.heap[b]? =some (.map ents clock)/\MOk ents clock/\R4 (S8 (C4 kt w Z) ka) (S8 (C4 vt w Z) va) ents.toList l
def S8.mono {α:Type} {R R':List Value->α->Prop} (h:∀c x,R c x->R' c x):∀ {a:Bool} {v:Value} {x:α},S8 R a v x->S8 R' a v x
 |true,_,_,⟨cs,e,hh⟩=>⟨cs,e,h _ _ hh⟩
 |false,_,_,hh=>h _ _ hh
def R4.mono {κ ν:Type} {Rk Rk':Value->κ->Prop} {Rv Rv':Value->ν->Prop} (h:∀c x,Rk c x->Rk' c x) (h':∀c x,Rv c x->Rv' c x):∀ {l:List (κ×ν)} {es:List MapEntry},R4 Rk Rv es l->R4 Rk' Rv' es l
 | [],_,hh=>hh
 | _:: _,_,⟨e,u,he,h1,h2,h3⟩=>⟨e,u,he,h _ _ h1,h' _ _ h2,R4.mono h h' h3⟩
def R4.mem {κ ν:Type} {Rk:Value->κ->Prop} {Rv:Value->ν->Prop} :∀ {l:List (κ×ν)} {es:List MapEntry} {x:κ×ν},R4 Rk Rv es l->x∈l->∃e∈es,Rk e.key x.1/\Rv e.val x.2
 |y::l,_,x,⟨e,u,he,h1,h2,h3⟩,hx=>by
  rw[he];rcases qG.1 hx with rfl|hx
  . exact⟨e,by simp,h1,h2⟩
  . obtain⟨e',hm,h⟩:=R4.mem h3 hx;exact⟨e',by simp[hm],h⟩
section each
variable {α:Type} {R R':List Value->α->Prop}
def F7.mono (h:∀c x,R c x->R' c x):∀ {l:List α} {cs:List Value},F7 R cs l->F7 R' cs l
 | [],_,hh=>hh
 | _:: _,_,⟨c1,u,e,h1,h2⟩=>⟨c1,u,e,h _ _ h1,F7.mono h h2⟩
def F7.append:∀ {l l':List α} {cs cs':List Value},F7 R cs l->F7 R cs' l'->F7 R (cs++cs') (l++l')
 | [],_,cs,cs',h,u=>by cases h;simpa using u
 | _:: _,_,_,cs',⟨c1,c2,e,h1,h2⟩,u=>⟨c1,c2++cs',by simp[e],h1,F7.append h2 u⟩
def F7.length {s:Nat} (u:∀c x,R c x->c.length=s):∀ {l:List α} {cs:List Value},F7 R cs l->cs.length=l.length*s
 | [],_,h=>by cases h;simp
 | _::l,_,⟨c1,c2,e,h1,h2⟩=>by
  have:=F7.length u h2;rw[e,rP,u _ _ h1,this,rH,uL];omega
def F7.get {s:Nat} (u:∀c x,R c x->c.length=s):∀ {l:List α} {cs:List Value} {i:Nat} {x:α},F7 R cs l->l[i]? =some x->R ((cs.drop (i*s)).take s) x
 | [],_,_,_,_,hi=>by simp at hi
 |y::l,_,i,x,⟨c1,c2,e,h1,h2⟩,hi=>by
  have hl:=u _ _ h1;cases i with
  |zero=>
   simp at hi;subst hi;rw[e,yA,tX,g0f hl];exact h1
  |succ i=>
   simp at hi;have:=F7.get u h2 hi;rw[e,uL,vY, <-vR,zB hl];exact this
def F7.set {s:Nat} (hs:∀c x,R c x->c.length=s):∀ {l:List α} {cs:List Value} {i:Nat} {x:α} {c:List Value},F7 R cs l->R c x->i<l.length->F7 R (cs.take (i*s)++c++cs.drop (i*s+s)) (l.set i x)
 | [],_,_,_,_,_,_,hi=>by simp at hi
 |y::l,_,i,x,c,⟨c1,c2,e,h1,h2⟩,hc,hi=>by
  have hl:=hs _ _ h1;cases i with
  |zero=>
   refine⟨c,c2, ?_,hc,h2⟩;rw[e,yA,sG,g0x,vJ,zB hl]
  |succ i=>
   have u:i<l.length:=by simpa using hi
   refine⟨c1,_, ?_,h1,F7.set hs h2 hc u⟩;have e1:(i+1)*s=s+i*s:=by rw[uL,vY]
   rw[e,e1,zV,qV (by omega),hl,g1r,g4g,sE (by omega),hl];simp[show s+i*s+s-s=i*s+s from by omega]
def F7.take {s:Nat} (u:∀c x,R c x->c.length=s):∀ {l:List α} {cs:List Value} (n:Nat),F7 R cs l->F7 R (cs.take (n*s)) (l.take n)
 | [],_,n,h=>by cases h;simp;rfl
 | _::l,_,n,⟨c1,c2,e,h1,h2⟩=>by
  have hl:=u _ _ h1;cases n with
  |zero=>simp;rfl
  |succ n=>
   refine⟨c1,_, ?_,h1,F7.take u n h2⟩;rw[e,show(n+1)*s=s+n*s from by rw[uL,vY],zV,qV (by omega),hl,g1r]
def F7.drop {s:Nat} (hs:∀c x,R c x->c.length=s):∀ {l:List α} {cs:List Value} (n:Nat),F7 R cs l->F7 R (cs.drop (n*s)) (l.drop n)
 | [],_,n,h=>by cases h;simp;rfl
 | _::l,_,n,⟨c1,c2,e,h1,u⟩=>by
  have hl:=hs _ _ h1;cases n with
  |zero=>simp;exact⟨c1,c2,e,h1,u⟩
  |succ n=>
   have:=F7.drop hs n u;rw[e,show(n+1)*s=s+n*s from by rw[uL,vY], <-vR,zB hl];exact this
end each
def C4.length:∀ {t:Ty} {w:World} {Z:Nat->Prop} {cs:List Value} {x:t.den},C4 t w Z cs x->cs.length=t.size
 | .int _,_,_,_,_,h=>by rw[h.1];rfl
 | .bool,_,_,_,_,h=>by rw[show _= _ from h];rfl
 | .str,_,_,_,_,h=>by rw[show _= _ from h];rfl
 | .unit,_,_,_,_,h=>by rw[show _= _ from h];rfl
 | .pair a b,_,_,_,_,⟨c1,c2,e,h1,u⟩=>by rw[e,rP,C4.length h1,C4.length u];rfl
 | .sl _,_,_,_,_,⟨_,_,e,_⟩=>by rw[e];rfl
 | .ptr _,_,_,_,_,⟨_,_,_,e,_⟩=>by rw[e];rfl
 | .mp _ _ _ _,_,_,_,_,h=>by
  rcases h with⟨e,_⟩ | ⟨_,_,_,e,_⟩<;>rw[e]<;>rfl
def O2 (Z:Nat->Prop) (w w':World):Prop:=∀b,Z b->w'.heap[b]? =w.heap[b]?
def Ym {Z:Nat->Prop} {w w':World} {b o:Nat} {u:List Value} (h:J2 w ⟨b,o,none⟩ u) (hb:Z b) (hs:O2 Z w w'):J2 w' ⟨b,o,none⟩ u:=fun j v hv=>by
 have:=h j v hv;rw[J7]at this⊢;rw[<-this];exact World.cell?_of_block (hs b hb)
def C4.mono:∀ {t:Ty} {w w':World} {Z Z':Nat->Prop} {cs:List Value} {x:t.den},(∀b,Z b->Z' b)->O2 Z w w'->C4 t w Z cs x->C4 t w' Z' cs x
 | .int _,_,_,_,_,_,_,_,_,h=>h
 | .bool,_,_,_,_,_,_,_,_,h=>h
 | .str,_,_,_,_,_,_,_,_,h=>h
 | .unit,_,_,_,_,_,_,_,_,h=>h
 | .pair a b,_,_,_,_,_,_,hz,u,⟨c1,c2,e,h1,h2⟩=>⟨c1,c2,e,C4.mono hz u h1,C4.mono hz u h2⟩
 | .sl t,_,_,_,_,_,_,hz,u,⟨a,a1,e,hc,hm,hn,h⟩=>⟨a,a1,e,hc,hm,hn,h.imp id fun⟨b,o,ec,ha,hb,a0,he⟩=>⟨b,o,ec,ha,hz b hb,Ym a0 hb u,he.mono fun _ _=>C4.mono hz u⟩⟩
 | .ptr t,_,_,_,_,_,_,hz,u,⟨b,o,ec,e,hb,a0,he⟩=>⟨b,o,ec,e,hz b hb,Ym a0 hb u,C4.mono hz u he⟩
 | .mp ka kt va vt,_,_,_,_,_,_,hz,u,h=>h.imp id fun⟨b,es,cl,e,hb,hh,hm,he⟩=>⟨b,es,cl,e,hz b hb,by rw[u b hb];exact hh,hm,he.mono (fun _ _ h=>h.mono fun _ _=>C4.mono hz u) (fun _ _ h=>h.mono fun _ _=>C4.mono hz u)⟩
def S8.wf' {t:Ty} {R:List Value->t.den->Prop} (u:∀cs x,R cs x->t.wf x):∀ {a:Bool} {v:Value} {x:t.den},S8 R a v x->t.wf x
 |true,_,_,⟨_,_,h⟩=>u _ _ h
 |false,_,_,h=>u _ _ h
def C4.wf:∀ {t:Ty} {w:World} {Z:Nat->Prop} {cs:List Value} {x:t.den},C4 t w Z cs x->t.wf x
 | .int _,_,_,_,_,h=>h.2
 | .bool,_,_,_,_,_=>trivial
 | .str,_,_,_,_,_=>trivial
 | .unit,_,_,_,_,_=>trivial
 | .pair a b,_,_,_,_,⟨c1,c2,e,h1,h2⟩=>⟨C4.wf h1,C4.wf h2⟩
 | .sl t,_,_,_,l,⟨a,a1,e,hc,hm,_,h⟩=>⟨by simp only[maxLen]at hm;omega,by
  rcases h with h| ⟨b,o,ec,_,_,_,u⟩
  . intro x hx;rw[h]at hx;cases hx
  . intro x hx;obtain⟨i,hi,a0⟩:=g3j hx;exact C4.wf (t:=t) (F7.get (R:=C4 t _ _) (s:=t.size) (fun _ _ h=>C4.length h) u (i:=i) (by rw[qS hi,a0]))⟩
 | .ptr t,_,_,_,_,⟨b,o,ec,e,hb,a2,u⟩=>C4.wf (t:=t) u
 | .mp ka kt va vt,_,_,_,l,h=>by
  rcases h with⟨_,e⟩ | ⟨b,es,cl,e,hb,hh,hm,u⟩
  . intro x hx;rw[e]at hx;cases hx
  . intro x hx;obtain⟨m,_,h1,h2⟩:=u.mem hx;exact⟨S8.wf' (fun _ _=>C4.wf) h1,S8.wf' (fun _ _=>C4.wf) h2⟩
def C4.oneCell:∀ {t:Ty} {w:World} {Z:Nat->Prop} {cs:List Value} {x:t.den},C4 t w Z cs x->∀u∈cs,u.oneCell'=true
 | .int _,_,_,_,_,h=>by rw[h.1];exact Mf rfl Kx
 | .bool,_,_,_,_,h=>by rw[show _= _ from h];exact Mf rfl Kx
 | .str,_,_,_,_,h=>by rw[show _= _ from h];exact Mf rfl Kx
 | .unit,_,_,_,_,h=>by rw[show _= _ from h];exact Kx
 | .pair a b,_,_,_,_,⟨c1,c2,e,h1,h2⟩=>by
  rw[e];intro u hu;rcases rA.1 hu with hu|hu
  . exact C4.oneCell h1 u hu
  . exact C4.oneCell h2 u hu
 | .sl _,_,_,_,_,⟨_,_,e,_⟩=>by rw[e];exact Mf rfl Kx
 | .ptr _,_,_,_,_,⟨_,_,_,e,_⟩=>by rw[e];exact Mf rfl Kx
 | .mp _ _ _ _,_,_,_,_,h=>by
  rcases h with⟨e,_⟩ | ⟨_,_,_,e,_⟩<;>rw[e]<;>exact Mf rfl Kx
def F7.oneCell {t:Ty} {w:World} {Z:Nat->Prop} :∀ {l:List t.den} {cs:List Value},F7 (C4 t w Z) cs l->∀u∈cs,u.oneCell'=true
 | [],_,h=>by rw[show _= _ from h];exact Kx
 | _:: _,_,⟨c1,c2,e,h1,h2⟩=>by
  rw[e];intro u hu;rcases rA.1 hu with hu|hu
  . exact C4.oneCell h1 u hu
  . exact F7.oneCell h2 u hu
def R9 {w:World} {b o:Nat} {ec:List Value} (h:J2 w ⟨b,o,none⟩ ec) (i n:Nat):J2 w ⟨b,o+i,none⟩ ((ec.drop i).take n):=fun j v u=>by
 rw[J7];rw[wH]at u;split at u
 . rw[xA]at u;have:=h (i+j) v u;rw[J7]at this;rw[uH];exact this
 . cases u
@[reducible] def X6:List (Bool×Ty)->Type
 | []=>Unit
 | (_,t)::r=>t.den×X6 r
inductive C where
 |val (t:Ty) (x:t.den)
 |row (k:Nat)
 |box (k off:Nat)
 |elp (k sz i off:Nat)
 |win (k sz:Nat) (lo hi:Int)
 |pf (t:Ty) (x:t.den) (off:Nat)
 |mp (k:Nat)
 |fn (f:FuncId) (caps:List Nat)
 |fv (P:Program) (as:List (Bool×Ty)) (ra:Bool) (r:Ty) (ok:X6 as->Prop) (φ:X6 as->r.den)
 |raw (v:Value)
 |dead
structure SV where
 agg:Bool
 cs:List C
inductive DV where
 |one (v:SV)
 |tup (vs:List SV)
 |cnd (t:Tmp) (b:Bool) (v:SV)
 |dead
inductive LC where
 |none
 |box (ty:TypeId) (cs:List C)
 |row (t:Ty) (e:TypeId) (l:List t.den)
 |map (ka:Bool) (kt:Ty) (va:Bool) (vt:Ty) (es:List (kt.den×vt.den))
 |rows (t:Ty) (e e':TypeId) (ls:List (List t.den)) (al:List (Nat×Nat)) (ho:Option Nat)
 |al (k:Nat)
 |sbox (q:Nat) (t:Ty) (x:t.den)
 |mapE (ka:Bool) (kt:Ty) (va:Bool) (vt:Ty) (es:List (kt.den×vt.den)) (j q:Nat)
 |iter (ka:Bool) (kt:Ty) (va:Bool) (vt:Ty) (left:List (kt.den×vt.den)) (cur:Option (kt.den×vt.den))
 |nest (t:Ty) (e e':TypeId) (ls:List t.den) (bo:List (Nat×Nat)) (dd:List Nat)
 |itM (ka:Bool) (kt:Ty) (va:Bool) (vt:Ty) (es left:List (kt.den×vt.den)) (cur:Option (kt.den×vt.den)) (q:Nat)
structure St where
 sl:List (Nat×Nat×DV)
 lc:List (Nat×Nat×LC)
 nx:Nat
 ct:Nat
 nm:Nat:=0
 fr:List (List (Nat×Nat×DV)):= []
def OA:Option Prop->Prop
 |none=>True
 |some φ=>φ
def XJ (φ:Option Prop) (p:Prop):Prop:=match φ with
 |none=>p
 |some φ=>φ/\p
def D7 {φ:Option Prop} {p:Prop} :XJ φ p↔OA φ/\p:=by cases φ<;>simp[XJ,OA]
def B2f (c:Prop) (φ:Option Prop):Option Prop:=match φ with
 |none=>none
 |some φ=>some (c->φ)
def iR {c:Prop} {φ:Option Prop} :OA (B2f c φ)↔(c->OA φ):=by cases φ<;>simp[B2f,OA]
def K8 {α:Type} (e:Bool) (x y:α):α:=bif e then x else y
def find {α:Type} (d:α) (s:Nat):List (Nat×α)->α
 | []=>d
 | (t,x)::l=>bif Nat.beq t s then x else find d s l
def St.eS (st:St) (s:Nat):Nat×DV:=find (0, .dead) s st.sl
def St.eL (st:St) (k:Nat):Nat×LC:=find (0, .none) k st.lc
def St.S (st:St) (s:Nat):DV:=(st.eS s).2
def St.L (st:St) (k:Nat):LC:=(st.eL k).2
def put {α:Type} (s:Nat) (x:α):List (Nat×α)->List (Nat×α)
 | []=> [(s,x)]
 | (t,y)::l=>bif Nat.beq t s then(t,x)::l else(t,y)::put s x l
def Yt {α:Type} (d:α) (s:Nat) (x:α) (q:Nat):∀l:List (Nat×α),find d q (put s x l)=if q=s then x else find d q l
 | []=>by
  simp only[put,find];by_cases h:q=s
  . simp[h]
  . simp[h,C8 (Ne.symm h)]
 | (t,y)::l=>by
  have ih:=Yt d s x q l;simp only[put];cases u:Nat.beq t s with
  |true=>
   have a1:=qD u;subst a1;simp only[qQ,find];by_cases h:q=t
   . simp[h]
   . simp[h,C8 (Ne.symm h)]
  |false=>
   have a3:t≠s:=uW u;simp only[rF,find,ih];cases a2:Nat.beq t q with
   |true=>
    have a0:=qD a2;subst a0;simp[a3]
   |false=>simp
def Lw (t:Nat):DV->Bool
 | .cnd u _ _=>Nat.beq u t
 | _=>false
def unc (t g:Nat):Nat×DV->Nat×DV
 | (n, .cnd u b v)=>bif Nat.beq u t then(g, .dead)else(n, .cnd u b v)
 | (n, .one v)=>(n, .one v)
 | (n, .tup v)=>(n, .tup v)
 | (n, .dead)=>(n, .dead)
def B8d (t g:Nat) (d:Nat×DV):unc t g d=bif Lw t d.2 then(g, .dead)else d:=by
 obtain⟨n,d⟩:=d;cases d<;>rfl
def kQ (t g:Nat):List (Nat×Nat×DV)->List (Nat×Nat×DV)
 | []=> []
 | (s,d)::l=>(s,unc t g d)::kQ t g l
def SY (t g q:Nat):∀l:List (Nat×Nat×DV),find (0, .dead) q (kQ t g l)=bif Lw t (find (0, .dead) q l).2 then(g, .dead)else find (0, .dead) q l
 | []=>by simp[kQ,find,Lw]
 | (s,d)::l=>by
  have u:=SY t g q l;simp only[kQ,find,B8d];cases Nat.beq s q<;>simp[u]
def St.setS (st:St) (d:Nat) (x:DV):St:=⟨put d (st.ct+1,x) (kQ d (st.ct+1) st.sl),st.lc,st.nx,st.ct+1,st.nm,st.fr⟩
def St.setL (st:St) (k:Nat) (x:LC):St:=⟨st.sl,put k (st.ct+1,x) st.lc,st.nx,st.ct+1,st.nm,st.fr⟩
def St.newL (st:St) (x:LC):St:=⟨st.sl,put st.nx (st.ct+1,x) st.lc,st.nx+1,st.ct+1,st.nm,st.fr⟩
def St.eS_setS (st:St) (d s:Nat) (x:DV):(st.setS d x).eS s=if s=d then(st.ct+1,x)else bif Lw d (st.S s)then(st.ct+1, .dead)else st.eS s:=by
 unfold St.eS St.setS;simp only;rw[Yt,SY];rfl
def St.S_setS (st:St) (d s:Nat) (x:DV):(st.setS d x).S s=if s=d then x else bif Lw d (st.S s)then .dead else st.S s:=by
 show((st.setS d x).eS s).2= _;rw[St.eS_setS];split
 . rfl
 . cases Lw d (st.S s)<;>rfl
def St.L_setS (st:St) (d k:Nat) (x:DV):(st.setS d x).L k=st.L k:=rfl
def St.eL_setL (st:St) (k q:Nat) (x:LC):(st.setL k x).eL q=if q=k then(st.ct+1,x)else st.eL q:=Yt ..
def St.L_setL (st:St) (k q:Nat) (x:LC):(st.setL k x).L q=if q=k then x else st.L q:=by
 show((st.setL k x).eL q).2= _;rw[St.eL_setL];split<;>rfl
def St.eL_newL (st:St) (q:Nat) (x:LC):(st.newL x).eL q=if q=st.nx then(st.ct+1,x)else st.eL q:=Yt ..
def St.L_newL (st:St) (q:Nat) (x:LC):(st.newL x).L q=if q=st.nx then x else st.L q:=by
 show((st.newL x).eL q).2= _;rw[St.eL_newL];split<;>rfl
def St.S_newL (st:St) (q:Nat) (x:LC):(st.newL x).S q=st.S q:=rfl
def N7 (n:Nat):List (Nat×Nat×DV)->List (Nat×Nat×DV)->Prop
 | [],[]=>True
 | (s,e)::l,(s',e')::u=>s'=s/\(e'.1<=n->e'=e)/\N7 n l u
 | _,_=>False
def Ao (n:Nat):List (List (Nat×Nat×DV))->List (List (Nat×Nat×DV))->Prop
 | [],[]=>True
 |f::l,u::l'=>N7 n f u/\Ao n l l'
 | _,_=>False
def N7.refl (n:Nat):∀l,N7 n l l
 | []=>trivial
 | (_,_)::l=>⟨rfl,fun _=>rfl,N7.refl n l⟩
def Ao.refl (n:Nat):∀l,Ao n l l
 | []=>trivial
 |f::l=>⟨N7.refl n f,Ao.refl n l⟩
def N7.trans {n m:Nat} (u:n<=m):∀ {a b c},N7 n a b->N7 m b c->N7 n a c
 | [],[],[],_,_=>trivial
 | (_,_):: _,(_,_):: _,(_,_):: _,⟨e1,h1,r1⟩,⟨e2,h2,r2⟩=>⟨e2.trans e1,fun hh=>by
  have:=h2 (qZ hh u);rw[this]at hh⊢;exact h1 hh,N7.trans u r1 r2⟩
 | [],[],_:: _,_,h=>h.elim
 | [],_:: _,_,h,_=>h.elim
 | _:: _,[],_,h,_=>h.elim
 | (_,_):: _,(_,_):: _,[],_,h=>h.elim
def Ao.trans {n m:Nat} (u:n<=m):∀ {a b c},Ao n a b->Ao m b c->Ao n a c
 | [],[],[],_,_=>trivial
 | _:: _,_:: _,_:: _,h,k=>⟨h.1.trans u k.1,Ao.trans u h.2 k.2⟩
 | [],[],_:: _,_,h=>h.elim
 | [],_:: _,_,h,_=>h.elim
 | _:: _,[],_,h,_=>h.elim
 | _:: _,_:: _,[],_,h=>h.elim
def N7.le {n m:Nat} (u:n<=m) {a b} (h:N7 m a b):N7 n a b:=(N7.refl n a).trans u h
def Ao.le {n m:Nat} (u:n<=m) {a b} (h:Ao m a b):Ao n a b:=(Ao.refl n a).trans u h
def N7.find {n:Nat} {d:Nat×DV} (s:Nat):∀ {a b},N7 n a b->(Vc.find d s b).1<=n->Vc.find d s b=Vc.find d s a
 | [],[],_,_=>rfl
 | (t,e)::a,(t',e')::b,⟨e1,h1,u⟩,h=>by
  subst e1;simp only[Vc.find]at h⊢;cases hb:Nat.beq t' s with
  |true=>rw[hb]at h;exact h1 h
  |false=>rw[hb]at h;exact N7.find s u h
 | [],_:: _,h,_=>h.elim
 | _:: _,[],h,_=>h.elim
def B7f (n:Nat) (fr:List (List (Nat×Nat×DV))):Bool:=fr.all fun f=>f.all fun e=>Nat.ble e.2.1 n
def N7.old {n:Nat} :∀ {a b},N7 n a b->(b.all fun e=>Nat.ble e.2.1 n)=true->b=a
 | [],[],_,_=>rfl
 | (t,e)::a,(t',e')::b,⟨e1,h1,u⟩,h=>by
  simp only[sY,qC]at h;rw[e1,h1 (qP h.1),N7.old u h.2]
 | [],_:: _,h,_=>h.elim
 | _:: _,[],h,_=>h.elim
def Ao.old {n:Nat} :∀ {a b},Ao n a b->B7f n b=true->b=a
 | [],[],_,_=>rfl
 |f::a,f'::b,⟨h1,u⟩,h=>by
  simp only[B7f,sY,qC]at h;rw[h1.old h.1,Ao.old u h.2]
 | [],_:: _,h,_=>h.elim
 | _:: _,[],h,_=>h.elim
structure C1 (st st':St):Prop where
 ct:st.ct<=st'.ct
 s:∀s,(st'.eS s).1≠0->(st'.eS s).1<=st.ct->st'.eS s=st.eS s
 l:∀k,(st'.eL k).1≠0->(st'.eL k).1<=st.ct->st'.eL k=st.eL k
 f:Ao st.ct st.fr st'.fr
def C1.refl (st:St):C1 st st:=⟨rB _,fun _ _ _=>rfl,fun _ _ _=>rfl,Ao.refl _ _⟩
def Az (a:Bool) (t:Ty) (w:World) (Z:Nat->Prop) (v:Value) (x:t.den):Prop:=S8 (C4 t w Z) a v x
def QZ (w:World) (Z:Nat->Prop):(as:List (Bool×Ty))->List Value->X6 as->Prop
 | [],vs,_=>vs= []
 | (a,t)::r,vs,x=>∃v u,vs=v::u/\Az a t w Z v x.1/\QZ w Z r u x.2
def lE (P:Program) (w:World) (Z:Nat->Prop) (v:Value) (as:List (Bool×Ty)) (ra:Bool) (r:Ty) (ok:X6 as->Prop) (φ:X6 as->r.den):Prop:=
 ∃g,∃caps:List Value,v= .func (.func g) #[] caps.toArray/\Fy P g=true/\∀(w':World) (Z':Nat->Prop) (vs:List Value) (x:X6 as),O2 Z w w'->(∀b,Z b->b<w'.heap.size)->(∀b,Z' b->b<w'.heap.size)->QZ w' Z' as vs x->ok x->
  Gw.YP P g (vs++caps) w' fun u a0=>R5 w' a0/\∃Zn:Nat->Prop,(∀b,Zn b->(w'.heap.size<=b/\b<a0.heap.size)\/Z b\/Z' b)/\Az ra r a0 Zn u (φ x)
def RC (w:World) (Z:Nat->Prop) (B:Nat->Value):C->Value->Prop
 | .val t x,v=>C4 t w Z [v] x
 | .row k,v=>v=B k
 | .box k off,v=>∃b,B k= .pointer (some ⟨b,0,none⟩)/\v= .pointer (some ⟨b,off,none⟩)
 | .elp k sz i off,v=>∃b n u,B k= .slice (some ⟨b,0,none⟩) n u/\i<n/\v= .pointer (some ⟨b,i*sz+off,none⟩)
 | .win k sz lo hi,v=>∃a n u,B k= .slice a n u/\(∀x,a=some x->∃g,x=⟨g,0,none⟩)/\(a=none->u=0)/\0<=lo/\lo<=hi/\hi<=(n:Int)/\n<=u/\u<=maxLen/\v= .slice (if u=lo.toNat then a else a.map (·.add (lo.toNat*sz))) (hi.toNat-lo.toNat) (u-lo.toNat)
 | .pf t x off,v=>∃b o ec,v= .pointer (some ⟨b,o+off,none⟩)/\Z b/\J2 w ⟨b,o,none⟩ ec/\C4 t w Z ec x
 | .mp k,v=>v=B k
 | .fn f caps,v=>v= .func (.func f) #[] (caps.map B).toArray
 | .fv P as ra r ok φ,v=>lE P w Z v as ra r ok φ
 | .raw v0,v=>v=v0/\v0.oneCell'=true
 | .dead,_=>True
def Dh (w:World) (Z:Nat->Prop) (B:Nat->Value):List C->List Value->Prop
 | [],vs=>vs= []
 |c::cs,vs=>∃v u,vs=v::u/\RC w Z B c v/\Dh w Z B cs u
def RS (w:World) (Z:Nat->Prop) (B:Nat->Value):SV->Value->Prop
 | ⟨true,cs⟩,v=>∃vs:List Value,v= .agg vs.toArray/\Dh w Z B cs vs
 | ⟨false,cs⟩,v=>Dh w Z B cs [v]
def Qz (w:World) (Z:Nat->Prop) (B:Nat->Value):List SV->List Value->Prop
 | [],vs=>vs= []
 |c::cs,vs=>∃v u,vs=v::u/\RS w Z B c v/\Qz w Z B cs u
def RD (w:World) (Z:Nat->Prop) (B:Nat->Value) (E:F8):DV->Value->Prop
 | .one s,v=>RS w Z B s v
 | .tup ss,v=>∃vs:List Value,v= .tuple vs.toArray/\Qz w Z B ss vs
 | .cnd t b s,v=>(E t= .bool b/\RS w Z B s v)\/(E t≠ .bool b/\v=undef)
 | .dead,_=>True
def Ra (w:World) (Z:Nat->Prop) (ka:Bool) (kt:Ty) (va:Bool) (vt:Ty) (es:List MapEntry) (l:List (kt.den×vt.den)):Prop:=R4 (S8 (C4 kt w Z) ka) (S8 (C4 vt w Z) va) es l
def root:Value->Option Nat
 | .pointer (some a)=>some a.block
 | .slice (some a) _ _=>some a.block
 | .map r=>r
 | _=>none
def Ju:Option Nat->Nat->Bool
 |none,_=>false
 |some j,i=>Nat.beq j i
def Dn (bo:List (Nat×Nat)) (dd:List Nat) (i:Nat):Bool:=(bo.any fun p=>Nat.beq p.1 i) ||dd.any fun j=>Nat.beq j i
def Q5 (w:World) (v:Value) (H:Nat->Bool) (b:Nat):Prop:=root v=some b\/∃g n u cur e i x,v= .slice (some ⟨g,0,none⟩) n u/\w.heap[g]? =some (.cells cur e (0,0))/\i<n/\H i=false/\cur[i]? =some x/\root x=some b
def A9 (w:World) (v:Value):LC->Nat->Prop
 | .none,_=>False
 | .box _ _,b=>root v=some b
 | .row _ _ _,b=>root v=some b
 | .map _ _ _ _ _,b=>root v=some b
 | .iter _ _ _ _ _ _,b=>root v=some b
 | .mapE _ _ _ _ _ _ _,b=>root v=some b
 | .al _,_=>False
 | .sbox _ _ _,_=>False
 | .nest _ _ _ _ bo dd,b=>Q5 w v (Dn bo dd) b
 | .itM _ _ _ _ _ _ _ _,b=>root v=some b\/∃r c s c2,v= .pointer (some ⟨r,0,none⟩)/\w.heap[r]? =some (.mapIter (some b) c s c2)
 | .rows _ _ _ _ _ ho,b=>root v=some b\/∃g n u cur e i x,v= .slice (some ⟨g,0,none⟩) n u/\w.heap[g]? =some (.cells cur e (0,0))/\i<n/\Ju ho i=false/\cur[i]? =some x/\root x=some b
def Inn (w:World) (Z:Nat->Prop) (B:Nat->Value) (t:Ty) (e':TypeId) (ls:List (List t.den)) (al:List (Nat×Nat)) (ho:Option Nat) (xs:List Value):Prop:=
 (∀p∈al,xs[p.1]? =some (B p.2))/\(∀i l x,Ju ho i=false->ls[i]? =some l->xs[i]? =some x->∃u,w.ownsRow 0 e' t.size x l.length u/\F7 (C4 t w Z) u l)/\
  ∀i j x y b,i≠j->Ju ho i=false->Ju ho j=false->xs[i]? =some x->xs[j]? =some y->root x=some b->root y≠some b
def ItR (w:World) (Z:Nat->Prop) (ka:Bool) (kt:Ty) (va:Bool) (vt:Ty) (r:Nat) (left:List (kt.den×vt.den)) (cur:Option (kt.den×vt.den)):Prop:=
 (w.heap[r]? =some (.mapIter none 0 #[] 0)/\left= []/\cur=none)\/
 ∃(m:Nat) (seen:Array Nat) (ents:Array MapEntry) (clock:Nat),w.heap[r]? =some (.mapIter (some m) clock seen clock)/\Z m/\w.heap[m]? =some (.map ents clock)/\MOk ents clock/\Ra w Z ka kt va vt (leftOf ents seen).toList left/\
  ∀x,cur=some x->∃e∈ents.toList,(∃seen':Array Nat,seen=seen'.push e.born)/\S8 (C4 kt w Z) ka e.key x.1/\S8 (C4 vt w Z) va e.val x.2
def OV:(t:Ty)->TypeId->World->(Nat->Prop)->Value->t.den->Prop
 | .sl t,e',w,Z,v,l=>∃u:List Value,w.ownsRow 0 e' t.size v (List.length l) u/\F7 (C4 t w Z) u l
 | .mp ka kt va vt,_,w,Z,v,es=>∃b ents clock,v= .map (some b)/\w.heap[b]? =some (.map ents clock)/\MOk ents clock/\Ra w Z ka kt va vt ents.toList es
 | _,_,_,_,_,_=>False
structure fI (w:World) (Z:Nat->Prop) (B:Nat->Value) (t:Ty) (e e':TypeId) (ls:List t.den) (bo:List (Nat×Nat)) (dd:List Nat) (v:Value) (xs:List Value):Prop where
 own:w.ownsRow 0 e 1 v ls.length xs
 out:∀p∈bo,xs[p.1]? =some (B p.2)
 elt:∀i l x,Dn bo dd i=false->ls[i]? =some l->xs[i]? =some x->OV t e' w Z x l
 dis:∀i j x y b,i≠j->Dn bo dd i=false->Dn bo dd j=false->xs[i]? =some x->xs[j]? =some y->root x=some b->root y≠some b
 top:∀i x b,Dn bo dd i=false->xs[i]? =some x->root x=some b->root v≠some b
structure B8n (w:World) (Z:Nat->Prop) (ka:Bool) (kt:Ty) (va:Bool) (vt:Ty) (es left:List (kt.den×vt.den)) (cur:Option (kt.den×vt.den)) (r m:Nat) (seen:Array Nat) (ents:Array MapEntry) (clock:Nat):Prop where
 it:w.heap[r]? =some (.mapIter (some m) clock seen clock)
 mp:w.heap[m]? =some (.map ents clock)
 ok:MOk ents clock
 all:Ra w Z ka kt va vt ents.toList es
 rest:Ra w Z ka kt va vt (leftOf ents seen).toList left
 cur:∀x,cur=some x->∃e∈ents.toList,(∃seen':Array Nat,seen=seen'.push e.born)/\S8 (C4 kt w Z) ka e.key x.1/\S8 (C4 vt w Z) va e.val x.2
def RL (U:Nat->Prop) (w:World) (Z:Nat->Prop) (B:Nat->Value) (k:Nat):LC->Prop
 | .none=>True
 | .box ty cs=>∃b vs,B k= .pointer (some ⟨b,0,none⟩)/\U b/\¬Z b/\KO w b vs ty/\Dh w Z B cs vs.toList
 | .row t e l=>∃xs,w.ownsRow 0 e t.size (B k) l.length xs/\F7 (C4 t w Z) xs l/\∀b,(B k).ownBlock=some b->U b/\¬Z b
 | .map ka kt va vt es=>∃b ents clock,B k= .map (some b)/\U b/\¬Z b/\w.heap[b]? =some (.map ents clock)/\MOk ents clock/\Ra w Z ka kt va vt ents.toList es
 | .al _=>True
 | .sbox q t x=>q=k/\C4 (.ptr t) w Z [B q] x/\∃b,B q= .pointer (some ⟨b,0,none⟩)
 | .mapE ka kt va vt es j q=>∃b ents clock,B k= .map (some b)/\U b/\¬Z b/\w.heap[b]? =some (.map ents clock)/\(MOk ents clock/\Ra w Z ka kt va vt ents.toList es)/\∃e:MapEntry,ents.toList[j]? =some e/\B q= .int .i64 e.born
 | .iter ka kt va vt left cur=>∃r,B k= .pointer (some ⟨r,0,none⟩)/\U r/\¬Z r/\ItR w Z ka kt va vt r left cur
 | .nest t e e' ls bo dd=>∃xs,fI w Z B t e e' ls bo dd (B k) xs/\∀b,Q5 w (B k) (Dn bo dd) b->U b/\¬Z b/\b<w.heap.size
 | .itM ka kt va vt es left cur q=>∃r m seen ents clock,B k= .pointer (some ⟨r,0,none⟩)/\B q= .map (some m)/\B8n w Z ka kt va vt es left cur r m seen ents clock/\U r/\¬Z r/\U m/\¬Z m
 | .rows t e e' ls al ho=>∃xs,w.ownsRow 0 e 1 (B k) ls.length xs/\Inn w Z B t e' ls al ho xs/\(∀i x b,Ju ho i=false->xs[i]? =some x->root x=some b->root (B k)≠some b)/\∀b,A9 w (B k) (.rows t e e' ls al ho) b->U b/\¬Z b/\b<w.heap.size
def live:LC->Prop
 | .none=>False
 | .al _=>False
 | .sbox _ _ _=>False
 | _=>True
def Cd (n:Nat):C->Prop
 | .row k=>k<n
 | .box k _=>k<n
 | .elp k _ _ _=>k<n
 | .win k _ _ _=>k<n
 | .mp k=>k<n
 | .fn _ caps=>∀k∈caps,k<n
 | _=>True
def Kz (n:Nat) (s:SV):Prop:=∀c∈s.cs,Cd n c
def Nu (n:Nat):DV->Prop
 | .one s=>Kz n s
 | .tup ss=>∀s∈ss,Kz n s
 | .cnd _ _ s=>Kz n s
 | .dead=>True
def Ky (n:Nat):LC->Prop
 | .box _ cs=>∀c∈cs,Cd n c
 | .rows _ _ _ _ al _=>∀p∈al,p.2<n
 | .mapE _ _ _ _ _ _ q=>q<n
 | .sbox q _ _=>q<n
 | .nest _ _ _ _ bo _=>∀p∈bo,p.2<n
 | .itM _ _ _ _ _ _ _ q=>q<n
 | _=>True
structure Zn where
 z:Nat->Prop
 m:Nat->Prop
 n:Nat
 v:Nat->Value
 k0:Nat:=0
 b0:Nat:=0
 f:Nat->Nat->Prop
 fm:∀k b,f k b->m b
 es:List F8:= []
def RF (w:World) (Z:Nat->Prop) (B:Nat->Value):List F8->List (List (Nat×Nat×DV))->Prop
 | [],[]=>True
 |E::es,f::u=>(∀s,RD w Z B E (find (0, .dead) s f).2 (E s))/\RF w Z B es u
 | _,_=>False
def fK (n:Nat) (fr:List (List (Nat×Nat×DV))):Prop:=∀f∈fr,∀s,Nu n (find (0, .dead) s f).2
structure Hx (m:Nat->Prop) (w w':World):Prop where
 os:w'.os=w.os
 tape:w'.tape=w.tape
 output:w'.output=w.output
 size:w.heap.size<=w'.heap.size
 block:∀k,k<w.heap.size->¬m k->w'.heap[k]? =w.heap[k]?
 drw:True
def Hx.of {m:Nat->Prop} {w w':World} (h:R5 w w'):Hx m w w':=⟨h.os,h.tape,h.output,h.size,fun k u _=>h.block k u,h.drw⟩
def Hx.ext {m:Nat->Prop} {w w':World} (h:Hx m w w') (hm:∀b,¬m b):R5 w w':=⟨⟨h.os,h.tape,h.output,h.size,fun k u=>h.block k u (hm k)⟩,h.drw⟩
def Hx.trans {m:Nat->Prop} {a b c:World} (h:Hx m a b) (k:R5 b c):Hx m a c:=⟨k.os.trans h.os,k.tape.trans h.tape,k.output.trans h.output,qZ h.size k.size,fun i hi u=>(k.block i (rD hi h.size)).trans (h.block i hi u),trivial⟩
def Hx.chg {m:Nat->Prop} {w0 w w':World} {b:Nat} (h:Hx m w0 w) (u:WZ b w w') (hb:w0.heap.size<=b\/m b):Hx m w0 w':=
 ⟨u.1.trans h.os,u.2.1.trans h.tape,u.2.2.1.1.trans h.output,by rw[u.2.2.2.1];exact h.size,fun k hk hm=>(u.2.2.2.2 k (fun e=>by subst e;rcases hb with hb|hb;exact absurd hk (by omega);exact hm hb)).trans (h.block k hk hm),trivial⟩
def Hx.grown {m:Nat->Prop} {w0 w w':World} {row:Option Nat} (h:Hx m w0 w) (u:w.grownBy w' row) (hd:w.drawn<=w'.drawn) (hb:∀b,row=some b->w0.heap.size<=b\/m b):Hx m w0 w':=
 ⟨u.os.trans h.os,u.tape.trans h.tape,u.output.trans h.output,qZ h.size u.size,fun k hk hm=>(u.block k (rD hk h.size) (fun e=>by rcases hb k e.symm with hb|hb;exact absurd hk (by omega);exact hm hb)).trans (h.block k hk hm),trivial⟩
def up (za:Zn) (w0:World) (k:Nat):Nat->Prop:=fun b=>(za.n<=k/\w0.heap.size<=b)\/(k<za.n/\za.f k b)
def up.m {za:Zn} {w0:World} {k b:Nat} (h:up za w0 k b):w0.heap.size<=b\/za.m b:=h.imp And.right fun h=>za.fm k b h.2
structure B7 (za:Zn) (w0:World) (st:St) (E:F8) (w:World) (Z:Nat->Prop) (B:Nat->Value):Prop where
 ext:Hx za.m w0 w
 zlt:∀b,Z b->b<w.heap.size
 slots:∀s,RD w Z B E (st.S s) (E s)
 locs:∀k,RL (up za w0 k) w Z B k (st.L k)
 disj:∀k k' b,k≠k'->A9 w (B k) (st.L k) b->¬A9 w (B k') (st.L k') b
 refs:∀s,Nu st.nx (st.S s)
 refl:∀k,Ky st.nx (st.L k)
 fresh:∀k,st.nx<=k->st.L k= .none
 bone:∀k,(B k).oneCell'=true
 zin:∀b,Z b->za.z b\/w0.heap.size<=b
 nms:st.nm=za.n/\za.n<=st.nx
 bfix:∀k,k<za.n->B k=za.v k
 mrk:za.b0<=w.heap.size/\∀k b,za.k0<=k->A9 w (B k) (st.L k) b->za.b0<=b
 frs:RF w Z B za.es st.fr
 frf:fK st.nx st.fr
section mono
variable {w w':World} {Z Z':Nat->Prop} {B B':Nat->Value} {n:Nat}
def RC.mono (hz:∀b,Z b->Z' b) (hs:O2 Z w w') (hB:∀k,k<n->B' k=B k):∀ {c:C} {v:Value},Cd n c->RC w Z B c v->RC w' Z' B' c v
 | .val _ _,_,_,h=>C4.mono hz hs h
 | .row k,_,hr,h=>h.trans (hB k hr).symm
 | .box k off,_,hr,⟨b,e,h⟩=>⟨b,(hB k hr).trans e,h⟩
 | .elp k sz i off,_,hr,⟨b,m,a0,e,h⟩=>⟨b,m,a0,(hB k hr).trans e,h⟩
 | .win k sz lo hi,_,hr,⟨a,m,a0,e,h⟩=>⟨a,m,a0,(hB k hr).trans e,h⟩
 | .pf t x off,_,_,⟨b,o,ec,e,hb,hc,h⟩=>⟨b,o,ec,e,hz b hb,Ym hc hb hs,C4.mono hz hs h⟩
 | .mp k,_,hr,h=>h.trans (hB k hr).symm
 | .fn f caps,_,hr,h=>by
  show _= _;rw[show _= _ from h];congr 2;exact g3k fun k hk=>(hB k (hr k hk)).symm
 | .fv P as ra r ok φ,_,_,⟨g,caps,e,he,h⟩=>⟨g,caps,e,he,fun w2 Z2 vs x h1 h2 h3 h4 h5=>(h w2 Z2 vs x (fun b hb=>(h1 b (hz b hb)).trans (hs b hb)) (fun b hb=>h2 b (hz b hb)) h3 h4 h5).mono fun u w3 ⟨g1,Zn,g2,g3⟩=>⟨g1,Zn,fun b hb=>(g2 b hb).imp id (Or.imp (hz b) id),g3⟩⟩
 | .raw _,_,_,h=>h
 | .dead,_,_,_=>trivial
def Dh.mono (hz:∀b,Z b->Z' b) (hs:O2 Z w w') (hB:∀k,k<n->B' k=B k):∀ {cs:List C} {vs:List Value},(∀c∈cs,Cd n c)->Dh w Z B cs vs->Dh w' Z' B' cs vs
 | [],_,_,h=>h
 |c::cs,_,hr,⟨v,u,e,h1,h2⟩=>⟨v,u,e,RC.mono hz hs hB (hr c (by simp)) h1,Dh.mono hz hs hB (fun c hc=>hr c (by simp[hc])) h2⟩
def RS.mono (hz:∀b,Z b->Z' b) (hs:O2 Z w w') (hB:∀k,k<n->B' k=B k):∀ {s:SV} {v:Value},Kz n s->RS w Z B s v->RS w' Z' B' s v
 | ⟨true,cs⟩,_,u,⟨vs,e,h⟩=>⟨vs,e,Dh.mono hz hs hB u h⟩
 | ⟨false,cs⟩,_,u,h=>Dh.mono (cs:=cs) hz hs hB u h
def Qz.mono (hz:∀b,Z b->Z' b) (hs:O2 Z w w') (hB:∀k,k<n->B' k=B k):∀ {cs:List SV} {vs:List Value},(∀c∈cs,Kz n c)->Qz w Z B cs vs->Qz w' Z' B' cs vs
 | [],_,_,h=>h
 |c::cs,_,hr,⟨v,u,e,h1,h2⟩=>⟨v,u,e,RS.mono hz hs hB (hr c (by simp)) h1,Qz.mono hz hs hB (fun c hc=>hr c (by simp[hc])) h2⟩
def RD.mono {E:F8} (hz:∀b,Z b->Z' b) (hs:O2 Z w w') (hB:∀k,k<n->B' k=B k):∀ {d:DV} {v:Value},Nu n d->RD w Z B E d v->RD w' Z' B' E d v
 | .one _,_,u,h=>RS.mono hz hs hB u h
 | .tup _,_,u,⟨vs,e,h⟩=>⟨vs,e,Qz.mono hz hs hB u h⟩
 | .cnd _ _ _,_,u,h=>h.imp (fun⟨a,b⟩=>⟨a,RS.mono hz hs hB u b⟩) id
 | .dead,_,_,_=>trivial
def RF.mono (hz:∀b,Z b->Z' b) (hs:O2 Z w w') (hB:∀k,k<n->B' k=B k):∀ {es:List F8} {fr:List (List (Nat×Nat×DV))},fK n fr->RF w Z B es fr->RF w' Z' B' es fr
 | [],[],_,_=>trivial
 |E::es,f::fs,u,⟨h1,h2⟩=>⟨fun s=>RD.mono hz hs hB (u f (by simp) s) (h1 s),RF.mono hz hs hB (fun g hg=>u g (by simp[hg])) h2⟩
 | [],_:: _,_,h=>h.elim
 | _:: _,[],_,h=>h.elim
def Az.mono {a:Bool} {t:Ty} {v:Value} {x:t.den} (hz:∀b,Z b->Z' b) (u:O2 Z w w') (h:Az a t w Z v x):Az a t w' Z' v x:=S8.mono (fun _ _=>C4.mono hz u) h
def QZ.mono (hz:∀b,Z b->Z' b) (hs:O2 Z w w'):∀ {as:List (Bool×Ty)} {vs:List Value} {x:X6 as},QZ w Z as vs x->QZ w' Z' as vs x
 | [],_,_,h=>h
 | _:: _,_,_,⟨v,u,e,h1,h2⟩=>⟨v,u,e,h1.mono hz hs,QZ.mono hz hs h2⟩
def Ra.mono {ka va:Bool} {kt vt:Ty} (hz:∀b,Z b->Z' b) (u:O2 Z w w') {l:List (kt.den×vt.den)} {es:List MapEntry} (h:Ra w Z ka kt va vt es l):Ra w' Z' ka kt va vt es l:=
 R4.mono (fun _ _ h=>h.mono fun _ _=>C4.mono hz u) (fun _ _ h=>h.mono fun _ _=>C4.mono hz u) h
def A9.live {v:Value} {l:LC} {b:Nat} (h:A9 w v l b):Vc.live l:=by cases l<;>first|exact h.elim|trivial
def A9.of {v:Value} {l:LC} {b:Nat} (hl:Vc.live l) (h:Vc.root v=some b):A9 w v l b:=by
 cases l<;>first|exact hl.elim|exact h|exact .inl h
def Q5.iff {v:Value} {H:Nat->Bool} {b:Nat} (h:∀b,root v=some b->w'.heap[b]? =w.heap[b]?):Q5 w' v H b↔Q5 w v H b:=by
 refine g3g yI ⟨fun⟨g,n,cap,cur,e,i,x,hv,hg,r⟩=>⟨g,n,cap,cur,e,i,x,hv, ?_,r⟩,fun⟨g,n,cap,cur,e,i,x,hv,hg,r⟩=>⟨g,n,cap,cur,e,i,x,hv, ?_,r⟩⟩
 . rw[<-h g (by rw[hv];rfl)];exact hg
 . rw[h g (by rw[hv];rfl)];exact hg
def A9.iff {v:Value} {l:LC} {b:Nat} (h:∀b,A9 w v l b->w'.heap[b]? =w.heap[b]?):A9 w' v l b↔A9 w v l b:=by
 cases l with
 |rows t e e' ls al ho=>
  refine g3g yI ⟨fun⟨g,n,cap,cur,e,i,x,hv,hg,r⟩=>⟨g,n,cap,cur,e,i,x,hv, ?_,r⟩,fun⟨g,n,cap,cur,e,i,x,hv,hg,r⟩=>⟨g,n,cap,cur,e,i,x,hv, ?_,r⟩⟩
  . rw[<-h g (.inl (by rw[hv];rfl))];exact hg
  . rw[h g (.inl (by rw[hv];rfl))];exact hg
 |nest t e e' ls bo dd=>exact Q5.iff fun b hb=>h b (.inl hb)
 |itM ka kt va vt es left cur q=>
  refine g3g yI ⟨fun⟨r,c,s,c2,hv,hg⟩=>⟨r,c,s,c2,hv, ?_⟩,fun⟨r,c,s,c2,hv,hg⟩=>⟨r,c,s,c2,hv, ?_⟩⟩
  . rw[<-h r (.inl (by rw[hv];rfl))];exact hg
  . rw[h r (.inl (by rw[hv];rfl))];exact hg
 | _=>exact yI
def RL.root {U:Nat->Prop} {k:Nat} {l:LC} (h:RL U w Z B k l) {b:Nat} (hb:A9 w (B k) l b):U b/\b<w.heap.size/\¬Z b:=by
 cases l with
 |none=>exact hb.elim
 |al _=>exact hb.elim
 |sbox _ _ _=>exact hb.elim
 |mapE ka kt va vt es j q=>
  obtain⟨b',ents,cl,e,h1,h2,u,_⟩:=h;have hb:Vc.root (B k)=some b:=hb;rw[e]at hb;simp[Vc.root]at hb;subst hb;exact⟨h1,(rU.1 u).1,h2⟩
 |iter ka kt va vt left cur=>
  obtain⟨r,e,h1,h2,u⟩:=h;have hb:Vc.root (B k)=some b:=hb;rw[e]at hb;simp[Vc.root]at hb;subst hb;refine⟨h1, ?_,h2⟩;rcases u with⟨u,_⟩ | ⟨_,_,_,_,u,_⟩<;>exact(rU.1 u).1
 |box ty cs=>
  obtain⟨b',vs,e,h1,h2,u,_⟩:=h;have hb:Vc.root (B k)=some b:=hb;rw[e]at hb;simp[Vc.root]at hb;subst hb;exact⟨h1,u.lt,h2⟩
 |row t e l=>
  obtain⟨xs,h1,h2,u⟩:=h;have hb:Vc.root (B k)=some b:=hb;have a0:(B k).ownBlock=some b:=by
   rcases h1.2 with⟨hv,_⟩ | ⟨g,a1,cur,hv,_⟩
   . rw[hv]at hb;simp[Vc.root]at hb
   . rw[hv]at hb⊢;simpa[Vc.root,Value.ownBlock]using hb
  have:=World.ownsRow.lt h1 b a0;exact⟨(u b a0).1,this.2,(u b a0).2⟩
 |map ka kt va vt es=>
  obtain⟨b',ents,cl,e,h1,h2,u,_⟩:=h;have hb:Vc.root (B k)=some b:=hb;rw[e]at hb;simp[Vc.root]at hb;subst hb;exact⟨h1,(rU.1 u).1,h2⟩
 |rows t e e' ls al ho=>
  obtain⟨xs,_,_,_,h4⟩:=h;exact⟨(h4 b hb).1,(h4 b hb).2.2,(h4 b hb).2.1⟩
 |nest t e e' ls bo dd=>
  obtain⟨xs,_,h4⟩:=h;exact⟨(h4 b hb).1,(h4 b hb).2.2,(h4 b hb).2.1⟩
 |itM ka kt va vt es left cur q=>
  obtain⟨r,m,seen,ents,cl,e1,e2,hi,h1,h2,u,h4⟩:=h;rcases hb with hb| ⟨r',c,s,c2,hv,hg⟩
  . rw[e1]at hb;simp[Vc.root]at hb;subst hb;exact⟨h1,(rU.1 hi.it).1,h2⟩
  . rw[e1]at hv;cases hv;rw[hi.it]at hg;cases hg;exact⟨u,(rU.1 hi.mp).1,h4⟩
def F3 {base e sz m:Nat} {v:Value} {xs:List Value} (h:w.ownsRow base e sz v m xs):root v=v.ownBlock:=by
 rcases h.2 with⟨u,_⟩ | ⟨g,a0,cur,u,_⟩<;>rw[u]<;>rfl
def Gi {base e sz m:Nat} {v:Value} {xs:List Value} (h:w.ownsRow base e sz v m xs) (hb:∀b,v.ownBlock=some b->w'.heap[b]? =w.heap[b]?):w'.ownsRow base e sz v m xs:=by
 refine⟨h.1, ?_⟩;rcases h.2 with h| ⟨g,u,cur,hv,h1,h2,h3⟩
 . exact .inl h
 . exact .inr ⟨g,u,cur,hv,h1,by rw[hb g (by rw[hv];rfl)];exact h2,h3⟩
def Q5.own {base e n:Nat} {v:Value} {xs:List Value} {H:Nat->Bool} (h1:w.ownsRow base e 1 v n xs) {i b:Nat} {x:Value} (hi:H i=false) (hx:xs[i]? =some x) (hb:Vc.root x=some b):Q5 w v H b:=by
 refine .inr ?_;rcases h1.2 with⟨hv,hn⟩ | ⟨g,u,cur,hv,_,hg,a3,_,a4,a1⟩
 . have:=h1.1;rw[hn]at this;have a2:xs= []:=qO (by omega);rw[a2]at hx;cases hx
 . have a0:i<n:=by have:=(sD.1 hx).1;have h0:=h1.1;omega
   refine⟨g,_,u,cur,e,i,x,hv,hg,a0,hi, ?_,hb⟩;rw[<-a1,rT (by omega)]at hx;simpa using hx
def Q5.cases {base e n:Nat} {v:Value} {xs:List Value} {H:Nat->Bool} (h1:w.ownsRow base e 1 v n xs) {b:Nat} (hf:Q5 w v H b):Vc.root v=some b\/∃(i:Nat) (x:Value),H i=false/\xs[i]? =some x/\Vc.root x=some b:=by
 rcases hf with hb| ⟨g,m,a5,cur,e1,i,x,hv,hg,hi,hH,hx,hb⟩
 . exact .inl hb
 . refine .inr ⟨i,x,hH, ?_,hb⟩;rcases h1.2 with⟨u,_⟩ | ⟨g2,a2,a3,u,_,a0,a6,_,a4,a1⟩
   . rw[hv]at u;cases u
   . rw[hv]at u;cases u;rw[hg]at a0;cases a0;rw[<-a1,rT (by omega)];simpa using hx
def OV.mono (hz:∀b,Z b->Z' b) (hs:O2 Z w w'):∀ {t:Ty} {e':TypeId} {v:Value} {x:t.den},(∀b,Vc.root v=some b->w'.heap[b]? =w.heap[b]?)->OV t e' w Z v x->OV t e' w' Z' v x
 | .sl t,_,_,_,hb,⟨ys,u,g2⟩=>⟨ys,Gi u (fun b hq=>hb b ((F3 u).trans hq)),g2.mono fun _ _=>C4.mono hz hs⟩
 | .mp ka kt va vt,_,_,_,hb,⟨b,ents,cl,e,u,g2,g3⟩=>⟨b,ents,cl,e,by rw[hb b (by rw[e];rfl)];exact u,g2,g3.mono hz hs⟩
 | .int _,_,_,_,_,h=>h.elim
 | .bool,_,_,_,_,h=>h.elim
 | .str,_,_,_,_,h=>h.elim
 | .unit,_,_,_,_,h=>h.elim
 | .pair _ _,_,_,_,_,h=>h.elim
 | .ptr _,_,_,_,_,h=>h.elim
def RL.mono {U:Nat->Prop} {k:Nat} {l:LC} (hz:∀b,Z b->Z' b) (hs:O2 Z w w') (hB:∀k,k<n->B' k=B k) (hk:live l->B' k=B k) (u:∀b,A9 w (B k) l b->w'.heap[b]? =w.heap[b]?) (a0:∀b,A9 w (B k) l b->¬Z' b) (hr:Ky n l) (h:RL U w Z B k l):RL U w' Z' B' k l:=by
 cases l with
 |none=>trivial
 |al _=>trivial
 |sbox q t x=>
  obtain⟨h0,h1,b,h2⟩:=h;have hq:B' q=B q:=hB q hr;refine⟨h0, ?_,b,hq.trans h2⟩;rw[hq];exact C4.mono hz hs h1
 |mapE ka kt va vt es j q=>
  obtain⟨b,ents,cl,e,h1,h2,h3,⟨hm,h4⟩,en,h5,h6⟩:=h;have hb:Vc.root (B k)=some b:=by rw[e];rfl
  exact⟨b,ents,cl,(hk trivial).trans e,h1,a0 b hb,by rw[u b hb];exact h3,⟨hm,h4.mono hz hs⟩,en,h5,(hB q hr).trans h6⟩
 |iter ka kt va vt left cur=>
  obtain⟨r,e,h1,h2,h3⟩:=h;have hb:Vc.root (B k)=some r:=by rw[e];rfl
  refine⟨r,(hk trivial).trans e,h1,a0 r hb, ?_⟩;have a3:=u r hb;rcases h3 with⟨h3,h4⟩ | ⟨m,seen,ents,cl,h3,h4,h5,h6,h7,h8⟩
  . exact .inl ⟨a3.trans h3,h4⟩
  . exact .inr ⟨m,seen,ents,cl,a3.trans h3,hz m h4,(hs m h4).trans h5,h6,h7.mono hz hs,fun x hx=>(h8 x hx).imp fun e he=>⟨he.1,he.2.1,he.2.2.1.mono fun _ _=>C4.mono hz hs,he.2.2.2.mono fun _ _=>C4.mono hz hs⟩⟩
 |box ty cs=>
  obtain⟨b,vs,e,h1,h2,h3,h4⟩:=h;have hb:Vc.root (B k)=some b:=by rw[e];rfl
  refine⟨b,vs,(hk trivial).trans e,h1,a0 b hb, ?_,Dh.mono hz hs hB hr h4⟩;unfold KO;rw[u b hb];exact h3
 |row t e l=>
  obtain⟨xs,h1,h2,h3⟩:=h;have a2:=F3 h1;refine⟨xs, ?_,h2.mono fun _ _=>C4.mono hz hs,fun b hb=> ?_⟩
  . rw[hk trivial];exact Gi h1 fun b hb=>u b (a2.trans hb)
  . rw[hk trivial]at hb;exact⟨(h3 b hb).1,a0 b (a2.trans hb)⟩
 |map ka kt va vt es=>
  obtain⟨b,ents,cl,e,h1,h2,h3,hm,h4⟩:=h;have hb:Vc.root (B k)=some b:=by rw[e];rfl
  exact⟨b,ents,cl,(hk trivial).trans e,h1,a0 b hb,by rw[u b hb];exact h3,hm,h4.mono hz hs⟩
 |rows t e e' ls al ho=>
  have a1:=fun b=>A9.iff (b:=b) u
  obtain⟨xs,h1,⟨h2,h3,h4⟩,h5,h6⟩:=h;have a2:=F3 h1;have a7:∀i x b,Ju ho i=false->xs[i]? =some x->Vc.root x=some b->A9 w (B k) (.rows t e e' ls al ho) b:=fun i x b hi hx hb=>by
   refine .inr ?_;rcases h1.2 with⟨hv,hn⟩ | ⟨g,a4,cur,hv,_,hg,aa,_,ab,a8⟩
   . have:=h1.1;rw[hn]at this;have a9:xs= []:=qO (by omega);rw[a9]at hx;cases hx
   . have a6:i<ls.length:=by have:=(sD.1 hx).1;have h0:=h1.1;omega
     refine⟨g,_,a4,cur,e,i,x,hv,hg,a6,hi, ?_,hb⟩;rw[<-a8,rT (by omega)]at hx;simpa using hx
  rw[<-hk trivial]at h1 h5;refine⟨xs,Gi h1 fun b hb=>u b (.inl (by rw[<-hk trivial];exact(F3 h1).trans hb)),⟨fun p hp=>(h2 p hp).trans (by rw[hB _ (hr p hp)]),fun i l x hi hl hx=> ?_,h4⟩,h5,fun b hb=> ?_⟩
  . obtain⟨ys,g1,g2⟩:=h3 i l x hi hl hx;exact⟨ys,Gi g1 fun b hb=>u b (a7 i x b hi hx ((F3 g1).trans hb)),g2.mono fun _ _=>C4.mono hz hs⟩
  . rw[hk trivial]at hb;have hb:=(a1 b).1 hb;obtain⟨g1,_,g3⟩:=h6 b hb;refine⟨g1,a0 b hb, ?_⟩;have:=u b hb;rw[tZ g3]at this;exact(rU.1 this).1
 |nest t e e' ls bo dd=>
  obtain⟨xs,hN,h6⟩:=h;have a5:=hk trivial;have a1:∀b,Q5 w' (B k) (Dn bo dd) b↔Q5 w (B k) (Dn bo dd) b:=fun b=>Q5.iff fun b hb=>u b (.inl hb)
  rw[show RL U w' Z' B' k (.nest t e e' ls bo dd)=∃xs,fI w' Z' B' t e e' ls bo dd (B k) xs/\∀b,Q5 w' (B k) (Dn bo dd) b->U b/\¬Z' b/\b<w'.heap.size from by rw[<-a5];rfl];refine⟨xs,⟨Gi hN.own fun b hb=>u b (.inl ((F3 hN.own).trans hb)),fun p hp=>(hN.out p hp).trans (by rw[hB _ (hr p hp)]),fun i l x hi hl hx=> ?_,hN.dis,hN.top⟩,fun b hb=> ?_⟩
  . exact(hN.elt i l x hi hl hx).mono hz hs fun b hb=>u b (Q5.own hN.own hi hx hb)
  . have hb:=(a1 b).1 hb;obtain⟨g1,_,g3⟩:=h6 b hb;refine⟨g1,a0 b hb, ?_⟩;have:=u b hb;rw[tZ g3]at this;exact(rU.1 this).1
 |itM ka kt va vt es left cur q=>
  obtain⟨r,m,seen,ents,cl,e1,e2,hi,h1,h2,h3,h4⟩:=h;have f1:A9 w (B k) (.itM ka kt va vt es left cur q) r:= .inl (by rw[e1];rfl);have f2:A9 w (B k) (.itM ka kt va vt es left cur q) m:= .inr ⟨r,_,_,_,e1,hi.it⟩;exact⟨r,m,seen,ents,cl,(hk trivial).trans e1,(hB q hr).trans e2,⟨(u r f1).trans hi.it,(u m f2).trans hi.mp,hi.ok,hi.all.mono hz hs,hi.rest.mono hz hs,fun x hx=>(hi.cur x hx).imp fun e he=>⟨he.1,he.2.1,he.2.2.1.mono fun _ _=>C4.mono hz hs,he.2.2.2.mono fun _ _=>C4.mono hz hs⟩⟩,h1,a0 r f1,h3,a0 m f2⟩
def Cd.le {m:Nat} (u:n<=m):∀ {c:C},Cd n c->Cd m c
 | .val _ _,h=>h
 | .row _,h=>rD h u
 | .box _ _,h=>rD h u
 | .elp _ _ _ _,h=>rD h u
 | .win _ _ _ _,h=>rD h u
 | .pf _ _ _,h=>h
 | .mp _,h=>rD h u
 | .fn _ _,h=>fun k hk=>rD (h k hk) u
 | .fv _ _ _ _ _ _,h=>h
 | .raw _,h=>h
 | .dead,h=>h
def Nu.le {m:Nat} (hm:n<=m):∀ {d:DV},Nu n d->Nu m d
 | .one _,h=>fun c u=>(h c u).le hm
 | .tup _,h=>fun s hs c u=>(h s hs c u).le hm
 | .cnd _ _ _,h=>fun c u=>(h c u).le hm
 | .dead,h=>h
def Ky.le {m:Nat} (u:n<=m):∀ {d:LC},Ky n d->Ky m d
 | .none,h=>h
 | .box _ _,h=>fun c hc=>(h c hc).le u
 | .row _ _ _,h=>h
 | .map _ _ _ _ _,h=>h
 | .al _,h=>h
 | .sbox _ _ _,h=>rD h u
 | .iter _ _ _ _ _ _,h=>h
 | .mapE _ _ _ _ _ _ _,h=>rD h u
 | .rows _ _ _ _ _ _,h=>fun p hp=>rD (h p hp) u
 | .nest _ _ _ _ _ _,h=>fun p hp=>rD (h p hp) u
 | .itM _ _ _ _ _ _ _ _,h=>rD h u
def fK.le {n m:Nat} {fr:List (List (Nat×Nat×DV))} (h:fK n fr) (hm:n<=m):fK m fr:=fun f u s=>(h f u s).le hm
def RD.upd {E:F8} {d:Nat} {u:Value} :∀ {x:DV} {v:Value},Lw d x=false->RD w Z B E x v->RD w Z B (upd E d u) x v
 | .one _,_,_,h=>h
 | .tup _,_,_,h=>h
 | .cnd t b s,v,hc,h=>by
  have ht:t≠d:=uW hc;show(Gw.upd E d u t= _ /\ _)\/(Gw.upd E d u t≠ _ /\ _);rw[C3 _ _ _ _ ht];exact h
 | .dead,_,_,_=>trivial
end mono
section steps
variable {za:Zn} {w0 w w':World} {Z Z':Nat->Prop} {B:Nat->Value} {st:St} {E:F8}
def B7.setS (h:B7 za w0 st E w Z B) (d:Nat) {x:DV} {v:Value} (hx:RD w Z B (upd E d v) x v) (hr:Nu st.nx x):B7 za w0 (st.setS d x) (upd E d v) w Z B:=by
 refine⟨h.ext,h.zlt,fun s=> ?_,h.locs,h.disj,fun s=> ?_,h.refl,h.fresh,h.bone,h.zin,h.nms,h.bfix,h.mrk,h.frs,h.frf⟩
 . rw[St.S_setS];by_cases u:s=d
   . subst u;simp only[xS,C2];exact hx
   . rw[qL u,C3 _ _ _ _ u];cases hc:Lw d (st.S s)with
     |true=>trivial
     |false=>exact RD.upd hc (h.slots s)
 . rw[St.S_setS];by_cases u:s=d
   . rw[qT u];exact hr
   . rw[qL u];cases hc:Lw d (st.S s)with
     |true=>trivial
     |false=>exact h.refs s
def B7.keep (h:B7 za w0 st E w Z B) (he:Hx za.m w0 w') (a2:w.heap.size<=w'.heap.size) (hb:∀b,(Z b\/∃k,A9 w (B k) (st.L k) b)->w'.heap[b]? =w.heap[b]?)
 (hz:∀b,Z b->Z' b) (a1:∀b,Z' b->Z b\/(b<w'.heap.size/\w0.heap.size<=b/\∀k,¬A9 w (B k) (st.L k) b)):B7 za w0 st E w' Z' B:=by
 have hs:O2 Z w w':=fun b u=>hb b (.inl u)
 have a0:∀k b,A9 w' (B k) (st.L k) b↔A9 w (B k) (st.L k) b:=fun k b=>A9.iff fun b hf=>hb b (.inr ⟨k,hf⟩)
 refine⟨he,fun b u=> ?_,fun s=>(h.slots s).mono hz hs (fun _ _=>rfl) (h.refs s),fun k=> ?_,fun k k' b a3 h1 h2=>h.disj k k' b a3 ((a0 k b).1 h1) ((a0 k' b).1 h2),h.refs,h.refl,h.fresh,h.bone,fun b u=> ?_,h.nms,h.bfix,⟨qZ h.mrk.1 a2,fun k b hk hf=>h.mrk.2 k b hk ((a0 k b).1 hf)⟩,h.frs.mono hz hs (fun _ _=>rfl) h.frf,h.frf⟩
 . rcases a1 b u with h1|h1
   . exact rD (h.zlt b h1) a2
   . exact h1.1
 . refine(h.locs k).mono hz hs (fun _ _=>rfl) (fun _=>rfl) (fun b hr=>hb b (.inr ⟨k,hr⟩)) (fun b hr u=> ?_) (h.refl k);rcases a1 b u with h1|h1
   . exact((h.locs k).root hr).2.2 h1
   . exact h1.2.2 k hr
 . rcases a1 b u with h1|h1
   . exact h.zin b h1
   . exact .inr h1.2.1
def B7.ft (h:B7 za w0 st E w Z B) (hx:R5 w w') {k b:Nat} (hf:A9 w' (B k) (st.L k) b):A9 w (B k) (st.L k) b:=(A9.iff fun c u=>hx.block c ((h.locs k).root u).2.1).1 hf
def B7.more (h:B7 za w0 st E w Z B) (hx:R5 w w') (hz:∀b,Z b->Z' b) (a0:∀b,Z' b->Z b\/(w.heap.size<=b/\b<w'.heap.size)):B7 za w0 st E w' Z' B:=by
 refine h.keep (h.ext.trans hx) hx.size (fun b hb=>hx.block b ?_) hz (fun b hb=> ?_)
 . rcases hb with hb| ⟨k,u⟩
   . exact h.zlt b hb
   . exact((h.locs k).root u).2.1
 . rcases a0 b hb with h1|h1
   . exact .inl h1
   . exact .inr ⟨h1.2,qZ h.ext.size h1.1,fun k u=>by have:=((h.locs k).root u).2.1;omega⟩
def B7.new (h:B7 za w0 st E w Z B) {v:Value} {lc:LC} (hl:RL (up za w0 st.nx) w Z (upd B st.nx v) st.nx lc) (hd:∀k b,A9 w v lc b->¬A9 w (B k) (st.L k) b) (hr:Ky (st.nx+1) lc) (a8:v.oneCell'=true) (a7:∀b,za.k0<=st.nx->A9 w v lc b->za.b0<=b):
 B7 za w0 (st.newL lc) E w Z (upd B st.nx v):=by
 have hB:∀k,k<st.nx->(upd B st.nx v) k=B k:=fun k u=>C3 _ _ _ _ (tU u)
 have a1:(upd B st.nx v) st.nx=v:=C2 _ _ _;have a0:∀k,live (st.L k)->k<st.nx:=fun k u=>by
  by_cases a6:k<st.nx
  . exact a6
  . rw[h.fresh k (by omega)]at u;exact u.elim
 have hs:O2 Z w w:=fun _ _=>rfl
 refine⟨h.ext,h.zlt,fun s=>(h.slots s).mono (fun _=>id) hs hB (h.refs s),fun k=> ?_, ?_,fun s=>(h.refs s).le (uU _),fun k=> ?_,fun k u=> ?_,fun k=> ?_,h.zin,⟨h.nms.1,yM h.nms.2⟩,fun k u=>(hB k (rD u h.nms.2)).trans (h.bfix k u),⟨h.mrk.1,fun k b u hl=> ?_⟩,h.frs.mono (fun _=>id) hs hB h.frf,h.frf.le (uU _)⟩
 . rw[St.L_newL];by_cases u:k=st.nx
   . subst u;rw[qT rfl];exact hl
   . rw[qL u];exact(h.locs k).mono (fun _=>id) hs hB (fun a5=>hB k (a0 k a5)) (fun _ _=>rfl) (fun b hb hz=>((h.locs k).root hb).2.2 hz) (h.refl k)
 . intro k k' b a4 h1 h2;rw[St.L_newL]at h1 h2;by_cases u:k=st.nx
   . subst u;rw[qL (Ne.symm a4)]at h2;rw[qT rfl,a1]at h1;rw[hB k' (a0 k' h2.live)]at h2;exact hd k' b h1 h2
   . rw[qL u]at h1;rw[hB k (a0 k h1.live)]at h1;by_cases a2:k'=st.nx
     . subst a2;rw[qT rfl,a1]at h2;exact hd k b h2 h1
     . rw[qL a2]at h2;rw[hB k' (a0 k' h2.live)]at h2;exact h.disj k k' b a4 h1 h2
 . rw[St.L_newL];by_cases u:k=st.nx
   . rw[qT u];exact hr
   . rw[qL u];exact(h.refl k).le (uU _)
 . rw[St.L_newL];have a2:st.nx+1<=k:=u;rw[qL (by omega)];exact h.fresh k (by omega)
 . by_cases u:k=st.nx
   . rw[u,a1];exact a8
   . rw[C3 _ _ _ _ u];exact h.bone k
 . rw[St.L_newL]at hl;by_cases a3:k=st.nx
   . subst a3;rw[qT rfl,a1]at hl;exact a7 b u hl
   . rw[qL a3]at hl;rw[hB k (a0 k hl.live)]at hl;exact h.mrk.2 k b u hl
def B7.drop (h:B7 za w0 st E w Z B) (k:Nat):B7 za w0 (st.setL k .none) E w Z B:=by
 refine⟨h.ext,h.zlt,h.slots,fun q=> ?_,fun q q' b a0 h1 u=> ?_,h.refs,fun q=> ?_,fun q hq=> ?_,h.bone,h.zin,h.nms,h.bfix,⟨h.mrk.1,fun q b hk hl=>(by rw[St.L_setL]at hl;split at hl;exact hl.elim;exact h.mrk.2 q b hk hl)⟩,h.frs,h.frf⟩
 . rw[St.L_setL];split
   . trivial
   . exact h.locs q
 . rw[St.L_setL]at h1 u;split at h1
   . exact h1.elim
   . split at u
     . exact u.elim
     . exact h.disj q q' b a0 h1 u
 . rw[St.L_setL];split
   . trivial
   . exact h.refl q
 . rw[St.L_setL];split
   . rfl
   . exact h.fresh q hq
def B7.chg (h:B7 za w0 st E w Z B) {k b:Nat} {lc:LC} (hk:live (st.L k)) (hb:A9 w (B k) (st.L k) b) (hc:WZ b w w') (hl:RL (up za w0 k) w' Z B k lc) (hr:Ky st.nx lc) (hf:∀b,A9 w' (B k) lc b->root (B k)=some b\/A9 w (B k) (st.L k) b):B7 za w0 (st.setL k lc) E w' Z B:=by
 have h1:=(h.locs k).root hb;have hf:∀b,A9 w' (B k) lc b->A9 w (B k) (st.L k) b:=fun b hh=>(hf b hh).elim (A9.of hk) id
 have h2:B7 za w0 (st.setL k .none) E w' Z B:=by
  refine(h.drop k).keep (h.ext.chg hc h1.1.m) (by rw[hc.2.2.2.1];exact rB _) (fun q hq=>hc.2.2.2.2 q ?_) (fun _=>id) (fun _=> .inl);rintro rfl;rcases hq with hq| ⟨k',u⟩
  . exact h1.2.2 hq
  . rw[St.L_setL]at u;by_cases a0:k'=k
    . rw[qT a0]at u;exact u.elim
    . rw[qL a0]at u;exact h.disj k' k q a0 u hb
 have a5:k<st.nx:=by
  by_cases a3:k<st.nx
  . exact a3
  . rw[h.fresh k (by omega)]at hk;exact hk.elim
 have hL:∀q,(st.setL k lc).L q=if q=k then lc else(st.setL k .none).L q:=fun q=>by
  rw[St.L_setL,St.L_setL];split<;>simp_all
 have lv:∀q b,A9 w' (B q) ((st.setL k lc).L q) b->A9 w (B q) (st.L q) b:=fun q b' hq=>by
  rw[St.L_setL]at hq;split at hq
  . rename_i e;rw[e]at hq⊢;exact hf b' hq
  . refine(A9.iff fun c a1=>hc.2.2.2.2 c ?_).1 hq;rintro rfl;rename_i e;exact h.disj q k c e a1 hb
 refine⟨h2.ext,h2.zlt,h2.slots,fun q=> ?_,fun q q' b' a4 l1 l2=> ?_,h2.refs,fun q=> ?_,fun q hq=> ?_,h.bone,h.zin,h.nms,h.bfix,⟨h2.mrk.1,fun q b a2 u=>h.mrk.2 q b a2 (lv q b u)⟩,h2.frs,h2.frf⟩
 . rw[hL];split
   . rename_i hq;rw[hq];exact hl
   . exact h2.locs q
 . exact h.disj q q' b' a4 (lv q b' l1) (lv q' b' l2)
 . rw[hL];split
   . exact hr
   . exact h2.refl q
 . rw[hL,qL (by have:st.nx<=q:=hq;omega)];exact h2.fresh q hq
def B7.relc (h:B7 za w0 st E w Z B) {k:Nat} {lc:LC} (hk:live (st.L k)) (hl:RL (up za w0 k) w Z B k lc) (hr:Ky st.nx lc) (hf:∀b,A9 w (B k) lc b->root (B k)=some b\/A9 w (B k) (st.L k) b):B7 za w0 (st.setL k lc) E w Z B:=by
 have a4:k<st.nx:=by
  by_cases a2:k<st.nx
  . exact a2
  . rw[h.fresh k (by omega)]at hk;exact hk.elim
 have lv:∀q b,A9 w (B q) ((st.setL k lc).L q) b->A9 w (B q) (st.L q) b:=fun q b' u=>by
  rw[St.L_setL]at u;split at u
  . rename_i e;rw[e]at u⊢;exact(hf b' u).elim (A9.of hk) id
  . exact u
 refine⟨h.ext,h.zlt,h.slots,fun q=> ?_,fun q q' b' a3 l1 l2=> ?_,h.refs,fun q=> ?_,fun q u=> ?_,h.bone,h.zin,h.nms,h.bfix,⟨h.mrk.1,fun q b a0 a1=>h.mrk.2 q b a0 (lv q b a1)⟩,h.frs,h.frf⟩
 . rw[St.L_setL];split
   . rename_i u;rw[u];exact hl
   . exact h.locs q
 . exact h.disj q q' b' a3 (lv q b' l1) (lv q' b' l2)
 . rw[St.L_setL];split
   . exact hr
   . exact h.refl q
 . rw[St.L_setL,qL (by have:st.nx<=q:=u;omega)];exact h.fresh q u
def B7.addL (h:B7 za w0 st E w Z B) {k:Nat} {lc:LC} (hk:k<st.nx) (hl:RL (up za w0 k) w Z B k lc) (hd:∀j b,j≠k->A9 w (B k) lc b->¬A9 w (B j) (st.L j) b) (hr:Ky st.nx lc) (a4:∀b,za.k0<=k->A9 w (B k) lc b->za.b0<=b):B7 za w0 (st.setL k lc) E w Z B:=by
 refine⟨h.ext,h.zlt,h.slots,fun q=> ?_,fun q q' b a0 l1 l2=> ?_,h.refs,fun q=> ?_,fun q hq=> ?_,h.bone,h.zin,h.nms,h.bfix,⟨h.mrk.1,fun q b a1 u=>(by
  rw[St.L_setL]at u;by_cases a3:q=k
  . subst a3;rw[qT rfl]at u;exact a4 b a1 u
  . rw[qL a3]at u;exact h.mrk.2 q b a1 u)⟩,h.frs,h.frf⟩
 . rw[St.L_setL];split
   . rename_i hq;rw[hq];exact hl
   . exact h.locs q
 . rw[St.L_setL]at l1 l2;by_cases hq:q=k
   . subst hq;rw[qL (Ne.symm a0)]at l2;rw[qT rfl]at l1;exact hd q' b (Ne.symm a0) l1 l2
   . rw[qL hq]at l1;by_cases a2:q'=k
     . subst a2;rw[qT rfl]at l2;exact hd q b hq l2 l1
     . rw[qL a2]at l2;exact h.disj q q' b a0 l1 l2
 . rw[St.L_setL];split
   . exact hr
   . exact h.refl q
 . rw[St.L_setL,qL (by have:st.nx<=q:=hq;omega)];exact h.fresh q hq
def Y6 {v:Value} {t t':Ty} {e e' d d' b:Nat} {ls:List (List t.den)} {a0:List (List t'.den)} {al u:List (Nat×Nat)} {ho:Option Nat} (h:∀g,root v=some g->w'.heap[g]? =w.heap[g]?):A9 w' v (.rows t' d d' a0 u ho) b↔A9 w v (.rows t e e' ls al ho) b:=by
 refine g3g yI ⟨fun⟨g,n,cap,cur,e,i,x,hv,hg,r⟩=>⟨g,n,cap,cur,e,i,x,hv, ?_,r⟩,fun⟨g,n,cap,cur,e,i,x,hv,hg,r⟩=>⟨g,n,cap,cur,e,i,x,hv, ?_,r⟩⟩
 . rw[<-h g (by rw[hv];rfl)];exact hg
 . rw[h g (by rw[hv];rfl)];exact hg
def A9z {U:Nat->Prop} {t:Ty} {k e e' i q b:Nat} {ls:List (List t.den)} {al:List (Nat×Nat)} {l:List t.den} {ys:List Value} (h:RL U w Z B k (.rows t e e' ls al none)) (hq:(i,q)∈al) (hb:root (B q)=some b) (hc:WZ b w w') (hz:¬Z b) (a6:w'.ownsRow 0 e' t.size (B q) l.length ys) (he:F7 (C4 t w' Z) ys l):
 RL U w' Z B k (.rows t e e' (ls.set i l) al none)/\A9 w (B k) (.rows t e e' ls al none) b/\root (B k)≠some b:=by
 obtain⟨xs,h1,⟨h2,h3,h4⟩,h5,h6⟩:=h;have hx:=h2 _ hq;have a4:i<ls.length:=by have:=(sD.1 hx).1;have h0:=h1.1;omega
 have a5:root (B k)≠some b:=h5 i _ b rfl hx hb;have a7:O2 Z w w':=fun c hc'=>hc.2.2.2.2 c (fun e=>hz (e▸hc'))
 have a0:∀g,root (B k)=some g->w'.heap[g]? =w.heap[g]?:=fun g hg=>hc.2.2.2.2 g (fun e=>a5 (e▸hg))
 refine⟨⟨xs,by rw[qN];exact Gi h1 (fun g hg=>a0 g ((F3 h1).trans hg)),⟨h2,fun j l' x _ hl u=> ?_,h4⟩,h5,fun c hf=> ?_⟩, ?_,a5⟩
 . by_cases hj:i=j
   . subst hj;rw[tB a4]at hl;cases hl;rw[hx]at u;cases u;exact⟨ys,a6,he⟩
   . rw[tF hj]at hl;obtain⟨zs,g1,g2⟩:=h3 j l' x rfl hl u;refine⟨zs,Gi g1 (fun g hg=>hc.2.2.2.2 g (fun e=> ?_)),g2.mono fun _ _=>C4.mono (fun _=>id) a7⟩;subst e;exact h4 i j _ _ g hj rfl rfl hx u hb ((F3 g1).trans hg)
 . obtain⟨a1,a2,a3⟩:=h6 c ((Y6 a0).1 hf);exact⟨a1,a2,by rw[hc.2.2.2.1];exact a3⟩
 . refine .inr ?_;rcases h1.2 with⟨hv,hn⟩ | ⟨g,a8,cur,hv,_,hg,aa,_,a7,a9⟩
   . omega
   . refine⟨g,_,a8,cur,e,i,_,hv,hg,a4,rfl, ?_,hb⟩;rw[<-a9,rT (by omega)]at hx;simpa using hx
def Kg (w:World) (Z:Nat->Prop) (t:Ty) (e e':TypeId) (v:Value) (ls:List (List t.den)):Prop:=
 ∃xs:List Value,w.ownsRow 0 e 1 v ls.length xs/\(∀(i:Nat) (l:List t.den) (x:Value),ls[i]? =some l->xs[i]? =some x->∃u,w.ownsRow 0 e' t.size x l.length u/\F7 (C4 t w Z) u l)/\
  (∀(i j:Nat) (x y:Value) (b:Nat),i≠j->xs[i]? =some x->xs[j]? =some y->root x=some b->root y≠some b)/\∀(i:Nat) (x:Value) (b:Nat),xs[i]? =some x->root x=some b->root v≠some b
def RL.rowsR {U:Nat->Prop} {t:Ty} {k e e':Nat} {ls:List (List t.den)} {al:List (Nat×Nat)} (h:RL U w Z B k (.rows t e e' ls al none)):Kg w Z t e e' (B k) ls:=by
 obtain⟨xs,h1,⟨h2,h3,h4⟩,h5,h6⟩:=h;exact⟨xs,h1,fun i l x hl hx=>h3 i l x rfl hl hx,fun i j x y b u hx hy hb=>h4 i j x y b u rfl rfl hx hy hb,fun i x b hx hb=>h5 i x b rfl hx hb⟩
def Kg.rl {U:Nat->Prop} {t:Ty} {k e e':Nat} {ls:List (List t.den)} (h:Kg w Z t e e' (B k) ls) (hf:∀b,A9 w (B k) (.rows t e e' ls [] none) b->U b/\¬Z b/\b<w.heap.size):RL U w Z B k (.rows t e e' ls [] none):=by
 obtain⟨xs,h1,u,h4,h5⟩:=h;exact⟨xs,h1,⟨fun p hp=>(by cases hp),fun i l x _ hl hx=>u i l x hl hx,fun i j x y b hij _ _ hx hy hb=>h4 i j x y b hij hx hy hb⟩,fun i x b _ hx hb=>h5 i x b hx hb,hf⟩
def Kg.mono {t:Ty} {e e':Nat} {v:Value} {ls:List (List t.den)} (hz:∀b,Z b->Z' b) (h:Kg w Z t e e' v ls):Kg w Z' t e e' v ls:=by
 obtain⟨xs,h1,h3,h4,h5⟩:=h;exact⟨xs,h1,fun i l x hl hx=>(h3 i l x hl hx).imp fun ys u=>⟨u.1,u.2.mono fun _ _=>C4.mono hz (fun _ _=>rfl)⟩,h4,h5⟩
end steps
def dC (P:Program) (r:TypeId->Ty->Bool):List Field->Nat->Ty->Bool
 | [],_, .unit=>true
 | [f],off,ty=>Nat.beq f.offset off&&r f.type ty&&Nat.beq (P.cellsOf f.type) ty.size
 |f::g::u,off, .pair a b=>Nat.beq f.offset off&&r f.type a&&Nat.beq (P.cellsOf f.type) a.size&&dC P r (g::u) (off+a.size) b
 | _,_,_=>false
def cZ (r:Ty->Bool) (sz:Nat):Nat->Ty->Bool
 |0, .unit=>true
 |1,ty=>r ty&&Nat.beq ty.size sz
 |n+2, .pair a b=>r a&&Nat.beq a.size sz&&cZ r sz (n+1) b
 | _,_=>false
def iF (P:Program):Nat->TypeId->Ty->Bool
 |0,_,_=>false
 |n+1,T,ty=>match P.underlying T with
  |some (.int k)=>(match ty with| .int k'=>decide (k=k') | _=>false)
  |some .bool=>(match ty with| .bool=>true| _=>false)
  |some (.struct u)=>dC P (iF P n) u.toList 0 ty&&Nat.beq (P.cellsOf T) ty.size&&u.all (·.name != "_")
  |some (.array m e)=>cZ (iF P n e) (P.cellsOf e) m ty&&Nat.beq (P.cellsOf T) ty.size
  | _=>false
def Lx:(t:Ty)->t.den->List Lit
 | .int k,n=> [.int k n]
 | .bool,b=> [.bool b]
 | .pair a b,x=>Lx a x.1++Lx b x.2
 | _,_=> []
def Gk:Ty->Bool
 | .int _=>true
 | .bool=>true
 | .unit=>true
 | .pair a b=>Gk a&&Gk b
 | _=>false
def EN:(t:Ty)->t.den->t.den->Bool
 | .int _,a,b=>decide ((show Int from a)=b)
 | .bool,a,b=>(show Bool from a)==b
 | .pair a b,x,y=>EN a x.1 y.1&&EN b x.2 y.2
 | _,_,_=>true
def TO:∀ {t:Ty} {x y:t.den},(Lx t x).length=(Lx t y).length
 | .int _,_,_=>rfl
 | .bool,_,_=>rfl
 | .pair a b,x,y=>by simp only[Lx,rP];rw[TO (t:=a) (x:=x.1) (y:=y.1),TO (t:=b) (x:=x.2) (y:=y.2)]
 | .str,_,_=>rfl
 | .unit,_,_=>rfl
 | .sl _,_,_=>rfl
 | .ptr _,_,_=>rfl
 | .mp _ _ _ _,_,_=>rfl
def TN:∀ {t:Ty} {x y:t.den},Gk t=true->(Lx t x=Lx t y↔x=y)
 | .int _,x,y,_=>by simp[Lx]
 | .bool,x,y,_=>by simp[Lx]
 | .unit,x,y,_=>by simp[Lx]
 | .pair a b,x,y,h=>by
  simp only[Gk,qC]at h;simp only[Lx];constructor
  . intro e;have:=List.append_inj e TO;exact Prod.ext ((TN h.1).1 this.1) ((TN h.2).1 this.2)
  . rintro rfl;rfl
 | .str,_,_,h=>by cases h
 | .sl _,_,_,h=>by cases h
 | .ptr _,_,_,h=>by cases h
 | .mp _ _ _ _,_,_,h=>by cases h
def QE:∀ {t:Ty} {x y:t.den},Gk t=true->(EN t x y=true↔x=y)
 | .int _,x,y,_=>by simp[EN]
 | .bool,x,y,_=>by simp[EN]
 | .unit,x,y,_=>by simp[EN]
 | .pair a b,x,y,h=>by
  simp only[Gk,qC]at h;simp only[EN,qC,QE h.1,QE h.2];exact⟨fun⟨a,b⟩=>Prod.ext a b,fun e=>by rw[e];exact⟨rfl,rfl⟩⟩
 | .str,_,_,h=>by cases h
 | .sl _,_,_,h=>by cases h
 | .ptr _,_,_,h=>by cases h
 | .mp _ _ _ _,_,_,h=>by cases h
def Ou:∀ {t:Ty} {w w':World} {Z Z':Nat->Prop} {cs cs':List Value} {x:t.den},Gk t=true->C4 t w Z cs x->C4 t w' Z' cs' x->cs=cs'
 | .int _,_,_,_,_,_,_,_,_,h,u=>h.1.trans u.1.symm
 | .bool,_,_,_,_,_,_,_,_,h,u=>(show _= _ from h).trans (show _= _ from u).symm
 | .unit,_,_,_,_,_,_,_,_,h,u=>(show _= _ from h).trans (show _= _ from u).symm
 | .pair a b,_,_,_,_,_,_,_,hp,⟨c1,c2,e,h1,h2⟩,⟨a2,a3,e',a0,a1⟩=>by
  simp only[Gk,qC]at hp;rw[e,e',Ou hp.1 h1 a0,Ou hp.2 h2 a1]
 | .str,_,_,_,_,_,_,_,h,_,_=>by cases h
 | .sl _,_,_,_,_,_,_,_,h,_,_=>by cases h
 | .ptr _,_,_,_,_,_,_,_,h,_,_=>by cases h
 | .mp _ _ _ _,_,_,_,_,_,_,_,h,_,_=>by cases h
section
variable {P:Program} {w:World} {Z:Nat->Prop}
def ZJ {n:Nat} {r:TypeId->Ty->Bool} {cs:List Value} (hr:∀ {T:TypeId} {ty:Ty} {cs:List Value} {x:ty.den},r T ty=true->C4 ty w Z cs x->P.keyLits n T cs=some (Lx ty x)):
 ∀ {fs:List Field} {off:Nat} {ty:Ty} {x:ty.den},dC P r fs off ty=true->C4 ty w Z (cs.drop off) x->∃ls,fs.mapM (fun f=>P.keyLits n f.type ((cs.drop f.offset).take (P.cellsOf f.type)))=some ls/\ls.flatten=Lx ty x
 | [],off,ty,x,h,hx=>by
  cases ty<;>simp[dC]at h;exact⟨[],rfl,rfl⟩
 | [f],off,ty,x,h,hx=>by
  have u:(Nat.beq f.offset off&&r f.type ty&&Nat.beq (P.cellsOf f.type) ty.size)=true:=by cases ty<;>exact h
  simp only[qC]at u;have e1:=qD u.1.1;have e2:=qD u.2;have hl:=C4.length hx;refine⟨[Lx ty x], ?_,by simp⟩;rw[wO,e1,e2,qV (by omega),hr u.1.2 hx];rfl
 |f::g::fs,off,ty,x,h,hx=>by
  cases ty<;>simp only[dC]at h<;>try cases h
  rename_i a b;simp only[qC]at h;obtain⟨⟨⟨h1,h2⟩,h3⟩,h4⟩:=h;obtain⟨c1,c2,e,r1,r2⟩:=hx;have l1:=C4.length r1;have e1:=qD h1;have e3:=qD h3;obtain⟨ls,a1,a0⟩:=ZJ (cs:=cs) (off:=off+a.size) (x:=x.2) hr h4 (by rw[<-vR,e,zB l1];exact r2);refine⟨Lx a x.1::ls, ?_,by simp[Lx,a0]⟩;rw[wO,e1,e3,e,g0f l1,hr h2 r1,a1];rfl
def ZI {n e sz:Nat} {r:Ty->Bool} (hr:∀ {ty:Ty} {cs:List Value} {x:ty.den},r ty=true->C4 ty w Z cs x->P.keyLits n e cs=some (Lx ty x)):
 ∀ {m i:Nat} {ty:Ty} {cs:List Value} {x:ty.den},cZ r sz m ty=true->C4 ty w Z (cs.drop (i*sz)) x->∃ls,(List.range' i m).mapM (fun i=>P.keyLits n e ((cs.drop (i*sz)).take sz))=some ls/\ls.flatten=Lx ty x
 |0,i,ty,cs,x,h,hx=>by
  cases ty<;>simp[cZ]at h;exact⟨[],rfl,rfl⟩
 |1,i,ty,cs,x,h,hx=>by
  have u:(r ty&&Nat.beq ty.size sz)=true:=by cases ty<;>exact h
  simp only[qC]at u;have e2:=qD u.2;have hl:=C4.length hx;refine⟨[Lx ty x], ?_,by simp⟩;rw[List.range'_one,wO,qV (by omega),hr u.1 hx];rfl
 |m+2,i,ty,cs,x,h,hx=>by
  cases ty<;>simp only[cZ]at h<;>try cases h
  rename_i a b;simp only[qC]at h;obtain⟨⟨h1,h2⟩,h3⟩:=h;obtain⟨c1,c2,e,r1,r2⟩:=hx;have l1:=C4.length r1;have e2:=qD h2;obtain⟨ls,a1,a0⟩:=ZI (cs:=cs) (i:=i+1) (x:=x.2) hr h3 (by rw[uL, <-vR,e,zB (by omega)];exact r2);refine⟨Lx a x.1::ls, ?_,by simp[Lx,a0]⟩;rw[g4j,wO,e,g0f (by omega),hr h1 r1,a1];rfl
def QF:∀ {n:Nat} {T:TypeId} {ty:Ty} {cs:List Value} {x:ty.den},iF P n T ty=true->C4 ty w Z cs x->P.keyLits n T cs=some (Lx ty x)
 |0,_,_,_,_,h,_=>by cases h
 |n+1,T,ty,cs,x,h,hx=>by
  unfold iF at h;unfold Program.keyLits;split at h
  . rename_i k u;cases ty<;>simp only at h<;>try cases h
    have:=qA h;subst this;obtain⟨e,hi⟩:=hx;simp only[u,e];rw[qT ⟨trivial,by simp only[Lit.wf,qC,rY];exact hi⟩];rfl
  . rename_i u;cases ty<;>simp only at h<;>try cases h
    simp only[u,show cs= _ from hx];rfl
  . rename_i fs u;simp only[qC]at h;have hl:=C4.length hx;obtain⟨ls,h1,h2⟩:=ZJ (n:=n) (cs:=cs) (off:=0) (fun hh hx=>QF hh hx) h.1.1 (by simpa using hx);simp only[u];rw[qT ⟨by rw[hl,qD h.1.2],h.2⟩,h1];simp[h2]
  . rename_i m e u;simp only[qC]at h;have hl:=C4.length hx;obtain⟨ls,h1,h2⟩:=ZI (n:=n) (e:=e) (sz:=P.cellsOf e) (i:=0) (cs:=cs) (fun hh hx=>QF hh hx) h.1 (by simpa using hx);simp only[u];rw[qT (by rw[hl,qD h.2]),g2u,h1];simp[h2]
  . cases h
def DJ (P:Program) (T:TypeId) (a:Bool) (ty:Ty):Bool:=iF P 20 T ty&&P.keyTypeAt 20 T&&Gk ty&& !(P.eqGuardType P.depth T)&&(match P.underlying T with|some (.struct _)=>a|some (.array _ _)=>a| _=> !a)
def GA {T:TypeId} {a:Bool} {ty:Ty} {v:Value} {x:ty.den} (h:DJ P T a ty=true) (hv:S8 (C4 ty w Z) a v x):v.formed P T=true/\P.keyLits 20 T v.cells.toList=some (Lx ty x):=by
 simp only[DJ,qC]at h;obtain⟨⟨⟨⟨h1,h2⟩,h3⟩,_⟩,h4⟩:=h;cases a with
 |true=>
  obtain⟨cs,e,hr⟩:=hv;subst e;have h5:=QF h1 hr;have hl:=C4.length hr;refine⟨?_,h5⟩;unfold iF at h1;split at h1
  . rename_i u;simp[u]at h4
  . rename_i u;simp[u]at h4
  . rename_i u;simp only[qC]at h1;simp only[Value.formed,u];have:=qD h1.1.2;simp[this,hl]
  . rename_i u;simp only[qC]at h1;simp only[Value.formed,u];have:=qD h1.2;simp[this,hl]
  . cases h1
 |false=>
  have hr:C4 ty w Z [v] x:=hv;have h5:=QF h1 hr;unfold iF at h1;split at h1
  . rename_i k u;cases ty<;>simp only at h1<;>try cases h1
    have e:=hr.1;simp only[sL,vM]at e;subst e;exact⟨by simp[Value.formed,u],h5⟩
  . rename_i u;cases ty<;>simp only at h1<;>try cases h1
    have e: [v]= [.bool x]:=hr;simp only[sL,vM]at e;subst e;exact⟨by simp[Value.formed,u],h5⟩
  . rename_i u;simp[u]at h4
  . rename_i u;simp[u]at h4
  . cases h1
def FZ {T:TypeId} {a:Bool} {ty:Ty} (h:DJ P T a ty=true):Gk ty=true:=by
 simp only[DJ,qC]at h;exact h.1.1.2
def ZT {T:TypeId} {a:Bool} {ty:Ty} {v v':Value} {x y:ty.den} (h:DJ P T a ty=true) (hv:S8 (C4 ty w Z) a v x) (a0:S8 (C4 ty w Z) a v' y) (w':World):(Op.equalIn 10000 T v v').run P w'= .ok (EN ty x y) w':=by
 obtain⟨f1,l1⟩:=GA h hv;obtain⟨f2,l2⟩:=GA h a0;have hp:=FZ h;simp only[DJ,qC]at h;obtain⟨r,hr,u⟩:=run_equalIn_deep (P:=P) 9980 20 T h.1.1.1.2 w' 20 20 v v' _ _ f1 f2 l1 l2;rw[hr];have:r=EN ty x y:=by
  rw[TN hp, <-QE hp]at u;cases r<;>cases he:EN ty x y<;>simp_all
 rw[this]
def Rl {T:TypeId} {a:Bool} {ty:Ty} {v:Value} {x:ty.den} (h:DJ P T a ty=true) (hv:S8 (C4 ty w Z) a v x) (w':World) (u:Bool):(Instr.checkKey u 10000 T v).run P w'= .ok () w':=by
 obtain⟨f1,l1⟩:=GA h hv;simp only[DJ,qC]at h;exact run_checkKey_deep (P:=P) u 9980 20 T h.1.1.1.2 w' 20 v _ f1 l1
def N1 {α:Type} (t:Ty) (k:t.den):List (t.den×α)->Nat->Option Nat
 | [],_=>none
 |x::l,i=>bif EN t k x.1 then some i else N1 t k l (i+1)
def K5 {α:Type} (t:Ty) (k:t.den):List (t.den×α)->Option α
 | []=>none
 |x::l=>bif EN t k x.1 then some x.2 else K5 t k l
def Fc {α:Type} (t:Ty) (k:t.den) (v:α):List (t.den×α)->List (t.den×α)
 | []=> [(k,v)]
 |x::l=>bif EN t k x.1 then(k,v)::l else x::Fc t k v l
def Yy {T:TypeId} {ka:Bool} {kt:Ty} {ν:Type} {Rv:Value->ν->Prop} {v:Value} {k:kt.den} (h:DJ P T ka kt=true) (hv:S8 (C4 kt w Z) ka v k) (w':World):
 ∀ {l:List (kt.den×ν)} {es:List MapEntry},R4 (S8 (C4 kt w Z) ka) Rv es l->(Instr.findKey T v es).run P w'= .ok ((N1 kt k l 0).bind fun j=>(es[j]?).map fun e=>(j,e.val)) w':=by
 have a3:∀ {l:List (kt.den×ν)} {es:List MapEntry} (i:Nat),R4 (S8 (C4 kt w Z) ka) Rv es l->(Instr.findAsking T v es i).run P w'= .ok ((N1 kt k l i).bind fun j=>(es[j-i]?).map fun e=>(j,e.val)) w':=by
  intro l
  induction l with
  |nil=>intro es i he;rw[show es= []from he];rfl
  |cons x l ih=>
   intro es i he;obtain⟨e,a5,rfl,h1,h2,h3⟩:=he;have hq:=ZT h hv h1 w';unfold Instr.findAsking N1;simp only[Sem.run_bind,Op.equal,Op.maxDepth,hq,Result.andThen_ok];cases EN kt k x.1 with
   |true=>simp
   |false=>
    simp only[vV,yD,rF];rw[ih (i+1) h3];cases hm:N1 kt k l (i+1)with
    |none=>rfl
    |some j=>
     have hj:i+1<=j:=by
      have:∀(l:List (kt.den×ν)) (i j:Nat),N1 kt k l i=some j->i<=j:=by
       intro l
       induction l with
       |nil=>intro i j hh;cases hh
       |cons y l ih=>
        intro i j hh;unfold N1 at hh;cases hb:EN kt k y.1 with
        |true=>simp[hb]at hh;omega
        |false=>simp[hb]at hh;have:=ih _ _ hh;omega
      exact this _ _ _ hm
     simp only[vW];rw[show j-i=(j-(i+1))+1 from by omega];simp
 intro l es he;have a1:=a3 0 he;by_cases u:(match P.underlying T with|some (.array _ _) |some (.struct _)=>true| _=>false)=true
 . rw[run_findKey_eq w' u];exact a1
 . have a2:=h;simp only[DJ,qC]at a2;obtain⟨⟨⟨⟨g1,_⟩,_⟩,_⟩,g4⟩:=a2;have a4:∀(d:TypeDesc),P.underlying T=some d->(∀(v v':Value) (x y:kt.den),S8 (C4 kt w Z) ka v x->S8 (C4 kt w Z) ka v' y->Instr.sameNow d v v'=some (EN kt x y))->∀ {l:List (kt.den×ν)} {es:List MapEntry} (i:Nat),R4 (S8 (C4 kt w Z) ka) Rv es l->Instr.findNow d v es i=some ((N1 kt k l i).bind fun j=>(es[j-i]?).map fun e=>(j,e.val)):=by
    intro d hd a0 l
    induction l with
    |nil=>intro es i he;rw[show es= []from he];rfl
    |cons x l ih=>
     intro es i he;obtain⟨e,a5,rfl,h1,h2,h3⟩:=he;unfold Instr.findNow N1;rw[a0 _ _ _ _ hv h1];cases hb:EN kt k x.1 with
     |true=>simp
     |false=>
      simp only[rF];rw[ih (i+1) h3];cases hm:N1 kt k l (i+1)with
      |none=>rfl
      |some j=>
       have hj:i+1<=j:=by
        have:∀(l:List (kt.den×ν)) (i j:Nat),N1 kt k l i=some j->i<=j:=by
         intro l
         induction l with
         |nil=>intro i j hh;cases hh
         |cons y l ih=>
          intro i j hh;unfold N1 at hh;cases hb:EN kt k y.1 with
          |true=>simp[hb]at hh;omega
          |false=>simp[hb]at hh;have:=ih _ _ hh;omega
        exact this _ _ _ hm
       simp only[vW];rw[show j-i=(j-(i+1))+1 from by omega];simp
   unfold iF at g1;split at g1
   . rename_i q hu;simp only[hu,rQ]at g4;subst g4;cases kt<;>simp only at g1<;>try cases g1
     have:=qA g1;subst this;have:=a4 _ hu (fun v v' x y h1 h2=>by
      have e1:=h1.1;have e2:=h2.1;simp only[sL,vM]at e1 e2;rw[e1,e2];simp[Instr.sameNow,EN,BEq.beq]) 0 he
     simp[Instr.findKey,run_underlying hu,this]
   . rename_i hu;simp only[hu,rQ]at g4;subst g4;cases kt<;>simp only at g1<;>try cases g1
     have:=a4 _ hu (fun v v' x y h1 h2=>by
      have e1: [v]= [.bool x]:=h1;have e2: [v']= [.bool y]:=h2;simp only[sL,vM]at e1 e2;rw[e1,e2];simp[Instr.sameNow,EN]) 0 he
     simp[Instr.findKey,run_underlying hu,this]
   . rename_i hu;simp[hu]at u
   . rename_i hu;simp[hu]at u
   . cases g1
end
def Nr (k:IntKind) (n:Int):LQ k (k.wrap n):=by
 unfold LQ;cases k<;>simp only[IntKind.wrap,IntKind.min,IntKind.max,IntKind.signed,IntKind.bits]<;>simp<;>(try split)<;>omega
def iT (k:IntKind):LQ k 0:=by unfold LQ;cases k<;>decide
def A8m (k:IntKind):k.min<=0/\0<=k.max:=iT k
def B0k {k:IntKind} {a b:Int} (ha:LQ k a):LQ k (a.tmod b):=by
 have h0:=A8m k;unfold LQ at*;rcases g3w 0 a with h|h
 . have h1:=zA b h;have h2:a.tmod b<=a:=by
    rw[tW h];by_cases hb:b=0
    . subst hb;simp
    . have e1:=yG a b;rcases g3w 0 b with u|u
      . have:=tJ u (g0d h u);omega
      . have:=zF u (yY h u);omega
   omega
 . have h1:0<=(-a).tmod b:=zA b (by omega);have h2:(-a).tmod b<= -a:=by
    rw[tW (by omega)];by_cases hb:b=0
    . subst hb;simp
    . have e1:=yG (-a) b;rcases g3w 0 b with u|u
      . have:=tJ u (g0d (show 0<= -a by omega) u);omega
      . have:=zF u (yY (show 0<= -a by omega) u);omega
   rw[Int.neg_tmod]at h1 h2;omega
def A6r {k:IntKind} {a:Int} (n:Nat) (ha:LQ k a):LQ k (a.fdiv (2^n)):=by
 have h0:=A8m k;have u:(0:Int)<2^n:=Int.pow_pos (by decide);have h1:(1:Int)<=2^n:=u;unfold LQ at*;rw[sI _ (by omega)];constructor
 . rw[g1y u];have:k.min*2^n<=k.min*1:=Int.mul_le_mul_of_nonpos_left h0.1 h1;omega
 . have:a/2^n<k.max+1:=by
    rw[g1x u];have:(k.max+1)*1<=(k.max+1)*2^n:=tV h1 (by omega);omega
   omega
structure TI where
 ty:Ty
 agg:Bool
 elem:TypeId:=0
 fields:List (Nat×Nat×Bool):= []
 arr:Nat:=0
 bytes:Nat:=0
 eq:Bool:=false
 key:TypeId:=0
 rows:Bool:=false
 nest:List Nat:= []
def zc (t:Ty) (vs:List Value):Option (List Value):=
 match t with
 | .int k=>(match vs with| .int k' n::r=>bif decide (k=k')&&decide (n=0)then some r else none| _=>none)
 | .bool=>(match vs with| .bool b::r=>bif b then none else some r| _=>none)
 | .str=>(match vs with| .string s::r=>bif s.data.isEmpty then some r else none| _=>none)
 | .unit=>some vs
 | .pair a b=>(zc a vs).bind (zc b)
 | .sl _=>(match vs with| .slice none 0 0::r=>some r| _=>none)
 | .ptr _=>(match vs with| .pointer none::r=>some r| _=>none)
 | .mp _ _ _ _=>(match vs with| .map none::r=>some r| _=>none)
def Dg:Ty->List Value
 | .int k=> [.int k 0]
 | .bool=> [.bool false]
 | .str=> [.string ⟨#[]⟩]
 | .unit=> []
 | .pair a b=>Dg a++Dg b
 | .sl _=> [.slice none 0 0]
 | .ptr _=> [.pointer none]
 | .mp _ _ _ _=> [.map none]
def fC:∀ {t:Ty} {vs r:List Value},zc t vs=some r->vs=Dg t++r
 | .int k,vs,r,h=>by
  simp only[zc]at h;split at h
  . rename_i k' n r';cases u:decide (k=k')<;>simp[u]at h;cases hn:decide (n=0)<;>simp at hn u<;>simp[hn]at h;subst hn u h;rfl
  . cases h
 | .bool,vs,r,h=>by
  simp only[zc]at h;split at h
  . rename_i b r';cases b<;>simp at h;subst h;rfl
  . cases h
 | .str,vs,r,h=>by
  simp only[zc]at h;split at h
  . rename_i s r';cases hs:s.data.isEmpty<;>simp[hs]at h;subst h;have:s=⟨#[]⟩:=by cases s;simp at hs;simp[hs]
    rw[this];rfl
  . cases h
 | .unit,vs,r,h=>by simp[zc]at h;subst h;rfl
 | .pair a b,vs,r,h=>by
  simp only[zc]at h;cases h1:zc a vs with
  |none=>simp[h1]at h
  |some r1=>
   simp[h1]at h;rw[fC h1,fC h];simp[Dg]
 | .sl t,vs,r,h=>by
  simp only[zc]at h;split at h
  . cases h;rfl
  . cases h
 | .ptr t,vs,r,h=>by
  simp only[zc]at h;split at h
  . cases h;rfl
  . cases h
 | .mp _ _ _ _,vs,r,h=>by
  simp only[zc]at h;split at h
  . cases h;rfl
  . cases h
def isB (P:Program) (T:TypeId):Bool:=match P.underlying T with|some .bool=>true| _=>false
def mL (P:Program) (T:TypeId) (f sz:Nat) (agg:Bool):Bool:=
 match P.underlying T with
 |some (.struct u)=>(match u[f]? with|some x=>bif agg then fN P x.type sz else(Iv P x.type&&Nat.beq sz 1) |none=>false)
 | _=>false
def Yr (P:Program) (T:TypeId):Nat->List (Nat×Nat×Bool)->Bool
 | _,[]=>true
 |f,(off,sz,agg)::r=>LM P T f off&&mL P T f sz agg&&Yr P T (f+1) r
def Qy (P:Program) (T:TypeId) (t:Ty):Bool:=match He P T with|some z=>(match zc t z.cells.toList with|some []=>true| _=>false) |none=>false
def KM (P:Program) (T:TypeId) (va:Bool):Bool:=match He P T with|some (.agg _)=>va|some (.tuple _)=>false|some _=> !va|none=>false
def Vj (P:Program) (T:TypeId) (ti:TI):Bool:=
 Sv P T ti.ty.size&&(bif ti.agg then fN P T ti.ty.size else(Iv P T&&Nat.beq ti.ty.size 1))&&Qy P T ti.ty&&
 (match ti.ty with
  | .bool=>isB P T
  | .str=>(match P.underlying T with|some .string=>true| _=>false)
  | .sl t=>Gv P T ti.elem t.size&&Qy P ti.elem t&&(match P.info? ti.elem with|some i=>Nat.beq i.bytes ti.bytes|none=>false)
  | .int k=>(match P.underlying T with|some (.int k')=>decide (k=k') | _=>false)
  | .mp ka kt va vt=>(match P.underlying T with|some (.map k e)=>Nat.beq k ti.key&&Nat.beq e ti.elem| _=>false)&&DJ P ti.key ka kt&&Qy P ti.elem vt&&KM P ti.elem va
  | _=>true)&&
 (bif ti.fields.isEmpty then true else(Yr P T 0 ti.fields&&(match CN P T with|some pl=>decide (pl=ti.fields.map fun x=>(x.1,x.2.1)) |none=>false)))&&
 (bif Nat.beq ti.arr 0 then true else(match P.underlying T with|some (.array n e)=>Nat.beq n ti.arr&&Nat.beq e ti.elem| _=>false))&&
 (bif ti.eq then DJ P T ti.agg ti.ty else true)
def Jt:Value->C
 | .int k n=>bif decide (k.min<=n)&&decide (n<=k.max)then .val (.int k) n else .raw (.int k n)
 | .bool b=> .val .bool b
 | .string s=> .val .str s
 |v=>bif v.oneCell' then .raw v else .dead
def cI:Value->SV
 | .agg cs=>⟨true,cs.toList.map Jt⟩
 |v=>⟨false,[Jt v]⟩
def BU {w:World} {Z:Nat->Prop} {B:Nat->Value} {n:Nat} (v:Value):RC w Z B (Jt v) v/\Cd n (Jt v):=by
 cases v with
 |int k m=>
  simp only[Jt];cases h:decide (k.min<=m)&&decide (m<=k.max)with
  |true=>simp at h;simp only[qQ];exact⟨⟨rfl,h⟩,trivial⟩
  |false=>simp only[rF];exact⟨⟨rfl,rfl⟩,trivial⟩
 | _=>exact⟨by first|rfl|exact⟨rfl,rfl⟩ |trivial,by first|trivial|rfl⟩
def Ci {w:World} {Z:Nat->Prop} {B:Nat->Value} {n:Nat} :∀vs:List Value,Dh w Z B (vs.map Jt) vs/\∀c∈vs.map Jt,Cd n c
 | []=>⟨rfl,by simp⟩
 |v::vs=>⟨⟨v,vs,rfl,(BU (n:=n) v).1,(Ci (n:=n) vs).1⟩,fun c u=>by
  simp only[sB,qG]at u;rcases u with rfl|u
  . exact(BU (w:=w) (Z:=Z) (B:=B) v).2
  . exact(Ci (w:=w) (Z:=Z) (B:=B) vs).2 c u⟩
def mG {w:World} {Z:Nat->Prop} {B:Nat->Value} {n:Nat} (v:Value):RS w Z B (cI v) v/\Kz n (cI v):=by
 have base:∀v,RS w Z B ⟨false,[Jt v]⟩ v/\Kz n ⟨false,[Jt v]⟩:=fun v=>⟨⟨v,[],rfl,(BU (n:=n) v).1,rfl⟩,fun c hc=>by simp at hc;rw[hc];exact(BU (w:=w) (Z:=Z) (B:=B) v).2⟩
 cases v with
 |agg cs=>exact⟨⟨cs.toList,by simp,(Ci (n:=n) cs.toList).1⟩,(Ci (w:=w) (Z:=Z) (B:=B) cs.toList).2⟩
 | _=>exact base _
abbrev Kf:=List (Tmp×Bool)
def iS (t:Tmp) (b:Bool):Kf->Bool
 | []=>false
 | (t',u)::r=>(Nat.beq t' t&&(b==u)) ||iS t b r
def St.ev (st:St) (ctx:Kf):Operand->Option SV
 | .tmp t=>match st.S t with
  | .one v=>some v
  | .cnd u b v=>bif iS u b ctx then some v else none
  | _=>none
 | .const v=>some (cI v)
 | .func f=>some ⟨false,[.fn f []]⟩
 | .global _=>none
def gctx (st:St):Nat->Tmp->Bool->Kf
 |0,t,b=> [(t,b)]
 |n+1,t,b=>(t,b)::match st.S t with
  | .cnd t' u _=>gctx st n t' u
  | _=> []
def NM:SV->Option Bool
 | ⟨false,[.val .bool e]⟩=>some e
 | _=>none
def gval (st:St) (t:Tmp):Option Bool:=match st.S t with
 | .one v=>NM v
 | .cnd _ _ v=>NM v
 | _=>none
def ctxP (st:St):Kf->Prop
 | []=>True
 | (t,b)::r=>match gval st t with
  |some e=>match r with
   | []=>e=b
   |r=>e=b/\ctxP st r
  |none=>ctxP st r
def LH {st:St} {t:Tmp} {b e:Bool} {r:Kf} (u:gval st t=some e):ctxP st ((t,b)::r)↔e=b/\ctxP st r:=by
 simp only[ctxP,u];cases r with
 |nil=>simp[ctxP]
 |cons _ _=>rfl
def P6 (E:F8) (ctx:Kf):Prop:=∀t b,(t,b)∈ctx->E t= .bool b
def ZP {t:Tmp} {b:Bool} :∀ {ctx:Kf},iS t b ctx=true->(t,b)∈ctx
 | (t',b')::r,h=>by
  simp only[iS,uI,qC]at h;rcases h with⟨h1,u⟩ |h
  . have:=qD h1;simp at u;subst this u;simp
  . simp[ZP h]
def EX (b:Bool):undef≠ .bool b:=by simp[undef]
section
variable {za:Zn} {w0 w:World} {Z:Nat->Prop} {B:Nat->Value} {st:St} {E:F8}
def B7.ev (h:B7 za w0 st E w Z B) {ctx:Kf} (hc:P6 E ctx) {x:Operand} {v:SV} (hv:st.ev ctx x=some v):RS w Z B v (Gw.ev E x)/\Kz st.nx v:=by
 cases x with
 |tmp t=>
  have hs:=h.slots t;have hr:=h.refs t;simp only[St.ev]at hv;cases hd:st.S t with
  |one u=>rw[hd]at hs hr hv;cases hv;exact⟨hs,hr⟩
  |tup _=>rw[hd]at hv;cases hv
  |dead=>rw[hd]at hv;cases hv
  |cnd t' b u=>
   rw[hd]at hs hr hv;cases hi:iS t' b ctx with
   |false=>simp[hi]at hv
   |true=>
    simp[hi]at hv;subst hv;rcases hs with⟨_,hs⟩ | ⟨hs,_⟩
    . exact⟨hs,hr⟩
    . exact absurd (hc t' b (ZP hi)) hs
 |const u=>cases hv;exact mG u
 |func f=>cases hv;exact⟨⟨_,[],rfl,by show _= _;rfl,rfl⟩,fun c hc=>by simp at hc;subst hc;exact fun k hk=>by cases hk⟩
 |global g=>cases hv
def B7.gctx (h:B7 za w0 st E w Z B):∀ {n:Nat} {t:Tmp} {b:Bool},E t= .bool b->P6 E (gctx st n t b)
 |0,t,b,he=>fun t' b' hm=>by simp[Vc.gctx]at hm;rw[hm.1,hm.2];exact he
 |n+1,t,b,he=>fun t' b' hm=>by
  unfold Vc.gctx at hm;rcases qG.1 hm with hm|hm
  . cases hm;exact he
  . have hs:=h.slots t;cases hd:st.S t with
    |cnd t1 b1 u=>
     rw[hd]at hs hm;rcases hs with⟨h1,_⟩ | ⟨_,h1⟩
     . exact h.gctx h1 t' b' hm
     . rw[he]at h1;exact absurd h1.symm (EX b)
    |one _=>rw[hd]at hm;cases hm
    |tup _=>rw[hd]at hm;cases hm
    |dead=>rw[hd]at hm;cases hm
def Rh {v:SV} {e:Bool} {u:Value} (h:RS w Z B v u) (hb:NM v=some e):u= .bool e:=by
 unfold NM at hb;split at hb
 . cases hb;obtain⟨_,_,e1,h1,_⟩:=h;cases e1;simpa[RC,C4]using h1
 . cases hb
def B7.gval (h:B7 za w0 st E w Z B) {t:Tmp} {b e:Bool} (he:E t= .bool b) (hg:gval st t=some e):e=b:=by
 have hs:=h.slots t;unfold Vc.gval at hg;cases hd:st.S t with
 |one u=>rw[hd]at hs hg;have:=Rh hs hg;rw[he]at this;cases this;rfl
 |tup _=>rw[hd]at hg;cases hg
 |dead=>rw[hd]at hg;cases hg
 |cnd t' b' u=>
  rw[hd]at hs hg;rcases hs with⟨_,hs⟩ | ⟨_,hs⟩
  . have:=Rh hs hg;rw[he]at this;cases this;rfl
  . rw[he]at hs;exact absurd hs.symm (EX b)
def B7.ctxP (h:B7 za w0 st E w Z B):∀ {ctx:Kf},P6 E ctx->ctxP st ctx
 | [],_=>trivial
 | (t,b)::r,hc=>by
  have ih:=h.ctxP (ctx:=r) fun t b hm=>hc t b (qJ _ hm)
  cases u:Vc.gval st t with
  |none=>simp only[Vc.ctxP,u];exact ih
  |some e=>exact(LH u).2 ⟨h.gval (hc t b (by simp)) u,ih⟩
end
def explode:(t:Ty)->t.den->List C
 | .pair a b,x=>explode a x.1++explode b x.2
 | .unit,_=> []
 | .int k,x=> [.val (.int k) x]
 | .bool,x=> [.val .bool x]
 | .str,x=> [.val .str x]
 | .sl t,x=> [.val (.sl t) x]
 | .ptr t,x=> [.pf t x 0]
 | .mp ka kt va vt,x=> [.val (.mp ka kt va vt) x]
def RY (t:Ty):C->Option t.den
 | .val u x=>if h:u=t then some (h▸x)else none
 | .raw (.slice none 0 0)=>match t with
  | .sl _=>some []
  | _=>none
 | .raw (.map none)=>match t with
  | .mp _ _ _ _=>some []
  | _=>none
 | .pf u x 0=>if h:Ty.ptr u=t then some (h▸(show(Ty.ptr u).den from x))else none
 | _=>none
def Mg:(t:Ty)->List C->Option (t.den×List C)
 | .pair a b,cs=>(Mg a cs).bind fun x=>(Mg b x.2).map fun y=>((x.1,y.1),y.2)
 | .unit,cs=>some ((),cs)
 | .int k,c::r=>(RY (.int k) c).map fun x=>(x,r)
 | .bool,c::r=>(RY .bool c).map fun x=>(x,r)
 | .str,c::r=>(RY .str c).map fun x=>(x,r)
 | .sl t,c::r=>(RY (.sl t) c).map fun x=>(x,r)
 | .ptr t,c::r=>(RY (.ptr t) c).map fun x=>(x,r)
 | .mp ka kt va vt,c::r=>(RY (.mp ka kt va vt) c).map fun x=>(x,r)
 | _,_=>none
def Rz (agg:Bool) (t:Ty) (s:SV):Option t.den:=
 bif s.agg==agg then(match Mg t s.cs with|some (x,[])=>some x| _=>none)else none
section
variable {w:World} {Z:Nat->Prop} {B:Nat->Value} {n:Nat}
def Dh.append:∀ {cs cs':List C} {vs u:List Value},Dh w Z B cs vs->Dh w Z B cs' u->Dh w Z B (cs++cs') (vs++u)
 | [],_,_,_,h,h'=>by rw[show _= _ from h];exact h'
 | _:: _,_,_,u,⟨v,a0,e,h1,h2⟩,h'=>⟨v,a0++u,by rw[e];rfl,h1,Dh.append h2 h'⟩
def T5:∀ {t:Ty} {cs:List Value} {x:t.den},C4 t w Z cs x->Dh w Z B (explode t x) cs
 | .int k,_,_,h=>⟨_,[],h.1,⟨rfl,h.2⟩,rfl⟩
 | .bool,_,_,h=>⟨_,[],h,rfl,rfl⟩
 | .str,_,_,h=>⟨_,[],h,rfl,rfl⟩
 | .unit,_,_,h=>h
 | .pair a b,_,_,⟨c1,c2,e,h1,h2⟩=>by rw[e];exact(T5 h1).append (T5 h2)
 | .sl t,_,_,h=>by
  obtain⟨a,u,e,r⟩:=h;exact⟨_,[],e,⟨a,u,rfl,r⟩,rfl⟩
 | .ptr t,_,_,h=>by
  obtain⟨b,o,ec,e,r⟩:=h;exact⟨_,[],e,⟨b,o,ec,rfl,r⟩,rfl⟩
 | .mp ka kt va vt,_,_,h=>by
  rcases h with⟨e,h⟩ | ⟨b,es,cl,e,h⟩
  . exact⟨_,[],e, .inl ⟨rfl,h⟩,rfl⟩
  . exact⟨_,[],e, .inr ⟨b,es,cl,rfl,h⟩,rfl⟩
def D8:∀ {t:Ty} {x:t.den},∀c∈explode t x,Cd n c
 | .int k,_,c,h=>by simp[explode]at h;subst h;trivial
 | .bool,_,c,h=>by simp[explode]at h;subst h;trivial
 | .str,_,c,h=>by simp[explode]at h;subst h;trivial
 | .unit,_,c,h=>by simp[explode]at h
 | .pair a b,x,c,h=>by
  simp only[explode,rA]at h;rcases h with h|h
  . exact D8 c h
  . exact D8 c h
 | .sl t,_,c,h=>by simp[explode]at h;subst h;trivial
 | .ptr t,_,c,h=>by simp[explode]at h;subst h;trivial
 | .mp _ _ _ _,_,c,h=>by simp[explode]at h;subst h;trivial
def bQ {t:Ty} {c:C} {x:t.den} {v:Value} (h:RC w Z B c v) (u:RY t c=some x):C4 t w Z [v] x:=by
 unfold RY at u;split at u
 . rename_i t' x';split at u
   . rename_i e;subst e;cases u;exact h
   . cases u
 . split at u
   . cases u;rw[show v= _ from h.1];exact⟨none,0,rfl,rB _,rN _,fun _=>rfl, .inl rfl⟩
   . cases u
 . split at u
   . cases u;rw[show v= _ from h.1];exact .inl ⟨rfl,rfl⟩
   . cases u
 . rename_i t' x';split at u
   . rename_i e;subst e;cases u;obtain⟨b,o,ec,e,hb,hc,hr⟩:=h;exact⟨b,o,ec,by rw[e];rfl,hb,hc,hr⟩
   . cases u
 . cases u
def B3c:∀ {t:Ty} {cs r:List C} {vs:List Value} {x:t.den},Dh w Z B cs vs->Mg t cs=some (x,r)->∃v1 v2,vs=v1++v2/\C4 t w Z v1 x/\Dh w Z B r v2:=by
 have one:∀(t:Ty) {cs r:List C} {vs:List Value} {x:t.den} (c:C),Dh w Z B (c::cs) vs->(RY t c).map (fun x=>(x,cs))=some (x,r)->∃v1 v2,vs=v1++v2/\C4 t w Z v1 x/\Dh w Z B r v2:=by
  intro t cs r vs x c h u;obtain⟨v,a2,e,h1,h2⟩:=h;cases ha:RY t c with
  |none=>simp[ha]at u
  |some y=>
   simp[ha]at u;obtain⟨rfl,rfl⟩:=u;exact⟨[v],a2,e,bQ h1 ha,h2⟩
 intro t
 induction t with
 |pair a b a0 a1=>
  intro cs r vs x h u;simp only[Mg]at u;cases h1:Mg a cs with
  |none=>simp[h1]at u
  |some y=>
   simp only[h1,vW]at u;cases h2:Mg b y.2 with
   |none=>simp[h2]at u
   |some z=>
    simp[h2]at u;obtain⟨rfl,rfl⟩:=u;obtain⟨v1,v2,e,r1,r2⟩:=a0 h (by rw[h1]);obtain⟨v3,v4,e',r3,r4⟩:=a1 r2 (by rw[h2]);exact⟨v1++v3,v4,by rw[e,e'];simp,⟨v1,v3,rfl,r1,r3⟩,r4⟩
 |unit=>intro cs r vs x h u;simp[Mg]at u;subst u;exact⟨[],vs,rfl,rfl,h⟩
 |int k=>intro cs r vs x h u;cases cs with
  |nil=>simp[Mg]at u
  |cons c cs=>exact one _ c h u
 |bool=>intro cs r vs x h u;cases cs with
  |nil=>simp[Mg]at u
  |cons c cs=>exact one _ c h u
 |str=>intro cs r vs x h u;cases cs with
  |nil=>simp[Mg]at u
  |cons c cs=>exact one _ c h u
 |sl t _=>intro cs r vs x h u;cases cs with
  |nil=>simp[Mg]at u
  |cons c cs=>exact one _ c h u
 |ptr t _=>intro cs r vs x h u;cases cs with
  |nil=>simp[Mg]at u
  |cons c cs=>exact one _ c h u
 |mp ka kt va vt _ _=>intro cs r vs x h u;cases cs with
  |nil=>simp[Mg]at u
  |cons c cs=>exact one _ c h u
def Gj {t:Ty} {cs:List C} {vs:List Value} {x:t.den} (h:Dh w Z B cs vs) (hp:Mg t cs=some (x,[])):C4 t w Z vs x:=by
 obtain⟨v1,v2,e,h1,u⟩:=B3c h hp;rw[show v2= []from u,vS]at e;rw[e];exact h1
def Eg {a:Bool} {t:Ty} {s:SV} {v:Value} {x:t.den} (h:RS w Z B s v) (u:Rz a t s=some x):Az a t w Z v x:=by
 obtain⟨sa,cs⟩:=s;unfold Rz at u;cases he:(sa==a)with
 |false=>simp[he]at u
 |true=>
  simp only[he,qQ]at u;have:sa=a:=by simpa using he
  subst this;split at u
  . rename_i y hy;cases u;cases sa with
    |true=>obtain⟨vs,e,h⟩:=h;exact⟨vs,e,Gj h hy⟩
    |false=>exact Gj (vs:= [v]) h hy
  . cases u
def Az.explode {a:Bool} {t:Ty} {v:Value} {x:t.den} (h:Az a t w Z v x):RS w Z B ⟨a,explode t x⟩ v:=by
 cases a with
 |true=>obtain⟨cs,e,h⟩:=h;exact⟨cs,e,T5 h⟩
 |false=>exact T5 (cs:= [v]) h
def Dh.len:∀ {cs:List C} {vs:List Value},Dh w Z B cs vs->cs.length=vs.length
 | [],_,h=>by rw[show _= _ from h];rfl
 | _:: _,_,⟨v,a0,e,_,u⟩=>by rw[e,rH,rH,Dh.len u]
def Dh.drop:∀ {cs:List C} {vs:List Value} (i:Nat),Dh w Z B cs vs->Dh w Z B (cs.drop i) (vs.drop i)
 |cs,vs,0,h=>h
 | [],_,i+1,h=>by rw[show _= _ from h];simp;rfl
 | _:: _,_,i+1,⟨v,a0,e,_,u⟩=>by rw[e];simp only[List.drop_succ_cons];exact Dh.drop i u
def Dh.take:∀ {cs:List C} {vs:List Value} (i:Nat),Dh w Z B cs vs->Dh w Z B (cs.take i) (vs.take i)
 |cs,vs,0,h=>by simp;rfl
 | [],_,i+1,h=>by rw[show _= _ from h];simp;rfl
 | _:: _,_,i+1,⟨v,a0,e,h1,u⟩=>by rw[e];simp only[List.take_succ_cons];exact⟨v,_,rfl,h1,Dh.take i u⟩
end
def mU (op:BinOp) (k:IntKind) (a b:Int):Option (Option Prop×C):=
 match op with
 | .add=>some (none, .val (.int k) (k.wrap (a+b)))
 | .sub=>some (none, .val (.int k) (k.wrap (a-b)))
 | .mul=>some (none, .val (.int k) (k.wrap (a*b)))
 | .quo=>some (some (b≠0), .val (.int k) (k.wrap (a.tdiv b)))
 | .rem=>some (some (b≠0), .val (.int k) (a.tmod b))
 | .and=>some (none, .val (.int k) (k.wrap (BitVec.ofInt k.bits a&&&BitVec.ofInt k.bits b).toNat))
 | .or=>some (none, .val (.int k) (k.wrap (BitVec.ofInt k.bits a|||BitVec.ofInt k.bits b).toNat))
 | .xor=>some (none, .val (.int k) (k.wrap (BitVec.ofInt k.bits a^^^BitVec.ofInt k.bits b).toNat))
 | .eql=>some (none, .val .bool (decide (a=b)))
 | .neq=>some (none, .val .bool (decide (a≠b)))
 | .lss=>some (none, .val .bool (decide (a<b)))
 | .leq=>some (none, .val .bool (decide (a<=b)))
 | .gtr=>some (none, .val .bool (decide (b<a)))
 | .geq=>some (none, .val .bool (decide (b<=a)))
 | _=>none
def B5x (op:BinOp):C->C->Option (Option Prop×C)
 | .val (.int k) a, .val (.int k') b=>
  match op with
  | .shl=>some (some (0<=b), .val (.int k) (k.wrap (a*2^(min b.toNat k.bits))))
  | .shr=>some (some (0<=b), .val (.int k) (a.fdiv (2^(min b.toNat k.bits))))
  |op=>bif decide (k=k')then mU op k a b else none
 | .val .bool a, .val .bool b=>
  match op with
  | .eql=>some (none, .val .bool (a==b))
  | .neq=>some (none, .val .bool (a !=b))
  | _=>none
 | _,_=>none
section
variable {za:Zn} {w0 w:World} {Z:Nat->Prop} {B:Nat->Value} {P:Program} {E:F8}
def C1w {ty:TypeId} {T T':TypeId} {x y:Operand} {a b:Bool} (hx:Gw.ev E x= .bool a) (hy:Gw.ev E y= .bool b) (hT:P.underlying T=some .bool):Gw.E4 P E ty (.binOp .eql T x y T') w (.bool (a==b)) w:=fun _ _ _ _=>by
 have h1:=run_equalIn_bool' (P:=P) w 9999 T a b hT;have hg:(eqGuard .eql T x y (.bool a) (.bool b)).run P w= .ok () w:=rfl;have u:(binOp .eql T (.bool a) (.bool b)).run P w= .ok (.bool (a==b)) w:=by
  show((Op.equal T (.bool a) (.bool b))>>=fun r=>pure (Value.bool r)).run P w= _;unfold Op.equal Op.maxDepth;rw[Sem.run_bind,h1];rfl
 simp only[execOp,hx,hy];simp[hg,u]
def A7q {T:TypeId} (h:isB P T=true):P.underlying T=some .bool:=by
 unfold isB at h;split at h
 . assumption
 . cases h
def A2i {op:BinOp} {k:IntKind} {a b:Int} {φ:Option Prop} {c:C} (h:mU op k a b=some (φ,c)) (u:OA φ) (ha:LQ k a):∃v,(∀(w':World) (T:TypeId),(binOp op T (.int k a) (.int k b)).run P w'= .ok v w')/\RC w Z B c v/\∀n,Cd n c:=by
 cases op<;>simp only[mU,rE,g0a,reduceCtorEq]at h<;>(try exact h.elim)<;>obtain⟨rfl,rfl⟩:=h
 case rem=>exact⟨_,fun w' T=>by simp[binOp,Op.intDiv,show b≠0 from u,go_sem],⟨rfl,B0k ha⟩,fun _=>trivial⟩
 case quo=>exact⟨_,fun w' T=>by simp[binOp,Op.intDiv,show b≠0 from u,go_sem],⟨rfl,Nr _ _⟩,fun _=>trivial⟩
 case add|sub|mul=>exact⟨_,fun w' T=>by simp[binOp,Op.intArith,go_sem],⟨rfl,Nr _ _⟩,fun _=>trivial⟩
 case and|or|xor=>exact⟨_,fun w' T=>by simp[binOp,Op.intBits,go_sem],⟨rfl,Nr _ _⟩,fun _=>trivial⟩
 all_goals exact⟨.bool _,fun w' T=>by simp[binOp,Op.intCmp,go_sem];try rfl,rfl,fun _=>trivial⟩
def B1n {op:BinOp} {x y:Operand} {cx cy c:C} {φ:Option Prop} {T T' ty:TypeId} (h:B5x op cx cy=some (φ,c)) (a0:OA φ) (hx:RC w Z B cx (Gw.ev E x)) (u:RC w Z B cy (Gw.ev E y)) (hT:isB P T=true\/∀e,cx≠ .val .bool e):
 ∃v,(∀w',Gw.E4 P E ty (.binOp op T x y T') w' v w')/\RC w Z B c v/\∀n,Cd n c:=by
 unfold B5x at h;split at h
 . rename_i k a k' b;obtain⟨hx,ha⟩:=hx;obtain⟨u,hb⟩:=u;simp only[sL,vM]at hx u;split at h
   . cases h;have hb0:¬b<0:=Int.not_lt.2 a0;have hv:∀w',Gw.E4 P E ty (.binOp .shl T x y T') w' (.int k (k.wrap (a*2^(min b.toNat k.bits)))) w':=fun w'=>B0v hx u (by simp[binOp,Op.shift,hb0,go_sem])
     exact⟨_,hv,⟨rfl,Nr _ _⟩,fun _=>trivial⟩
   . cases h;have hb0:¬b<0:=Int.not_lt.2 a0;have hv:∀w',Gw.E4 P E ty (.binOp .shr T x y T') w' (.int k (a.fdiv (2^(min b.toNat k.bits)))) w':=fun w'=>B0v hx u (by simp[binOp,Op.shift,hb0,go_sem])
     exact⟨_,hv,⟨rfl,A6r _ ha⟩,fun _=>trivial⟩
   . cases hk:decide (k=k')with
     |false=>simp[hk]at h
     |true=>
      simp only[hk,qQ]at h;have:=qA hk;subst this;obtain⟨v,h1,h2⟩:=A2i (P:=P) (w:=w) (Z:=Z) (B:=B) h a0 ha;exact⟨v,fun w'=>B0v hx u (h1 w' T),h2⟩
 . rename_i a b;have hx:Gw.ev E x= .bool a:=by simpa[RC,C4]using hx
   have u:Gw.ev E y= .bool b:=by simpa[RC,C4]using u
   have hu:P.underlying T=some .bool:=by
    rcases hT with hT|hT
    . exact A7q hT
    . exact absurd rfl (hT a)
   split at h
   . cases h;exact⟨_,fun w'=>C1w hx u hu,rfl,fun _=>trivial⟩
   . cases h;exact⟨_,fun w'=>C1z hx u hu,rfl,fun _=>trivial⟩
   . cases h
 . cases h
end
structure Cx where
 P:Program
 tys:List (Nat×TI)
def Fz {α:Type} (s:Nat):List (Nat×α)->Option α
 | []=>none
 | (t,x)::l=>bif Nat.beq t s then some x else Fz s l
def Cx.ti (cx:Cx) (T:TypeId):Option TI:=Fz T cx.tys
def H1 (P:Program):List (Nat×TI)->Bool
 | []=>true
 | (T,ti)::l=>Vj P T ti&&H1 P l
def B8 {P:Program} :∀ {l:List (Nat×TI)},H1 P l=true->∀ {T:TypeId} {ti:TI},Fz T l=some ti->Vj P T ti=true
 | (T',a0)::l,h,T,ti,u=>by
  simp only[H1,qC]at h;simp only[Fz]at u;cases hb:Nat.beq T' T with
  |true=>simp[hb]at u;have:=qD hb;subst u this;exact h.1
  |false=>simp[hb]at u;exact B8 h.2 u
def c1:SV->Option C
 | ⟨false,[c]⟩=>some c
 | _=>none
def faC (off:Nat):C->Option C
 | .box k o=>some (.box k (o+off))
 | .elp k sz i o=>some (.elp k sz i (o+off))
 | .pf t x o=>some (.pf t x (o+off))
 | _=>none
def cut (off n:Nat) (cs:List C):Option (List C):=(fun s=>bif Nat.beq s.length n then some s else none) ((cs.drop off).take n)
def NU (q:Nat):List (Nat×Nat)->Option Nat
 | []=>none
 | (i,p)::r=>bif Nat.beq p q then some i else NU q r
def B3i (st:St) (k:Nat):Option ((t:Ty)×List t.den):=match st.L k with
 | .row t _ l=>some ⟨t,l⟩
 | .al j=>match st.L j with
  | .rows t _ _ ls al none=>(NU k al).map fun i=>⟨t,ls.getD i []⟩
  | _=>none
 | _=>none
def hdC (st:St) (k:Nat):Option ((t:Ty)×List t.den):=match st.L k with
 | .rows t _ _ ls _ _=>some ⟨.sl t,ls⟩
 | .nest t _ _ ls _ _=>bif Nat.beq t.size 1 then some ⟨t,ls⟩else none
 | _=>B3i st k
def A8c (st:St) (n:Nat):C->Option (List C)
 | .box k off=>match st.L k with
  | .box _ cs=>cut off n cs
  | .sbox q t x=>bif Nat.beq q k then cut off n (explode t x)else none
  | _=>none
 | .pf t x off=>cut off n (explode t x)
 | .elp k sz i off=>match B3i st k with
  |some ⟨t,l⟩=>bif Nat.beq sz t.size then cut off n (explode t (l.getD i t.dflt))else none
  |none=>none
 | _=>none
def gx {α:Type} (d:α) (l:List α) (i:Int):α:=l.getD i.toNat d
def B6n (st:St) (i:Int):C->Option (Option Prop×C)
 | .val (.sl t) l=>some (some (0<=i/\i<(l.length:Int)), .pf t (gx t.dflt l i) 0)
 | .row k=>match hdC st k with
  |some ⟨t,l⟩=>some (some (0<=i/\i<(l.length:Int)), .elp k t.size i.toNat 0)
  |none=>none
 | .win k sz lo hi=>some (some (0<=i/\i<hi-lo), .elp k sz (lo+i).toNat 0)
 | _=>none
def B6u (st:St):C->Option Int
 | .val (.sl _) l=>some (l.length:Int)
 | .row k=>match hdC st k with
  |some ⟨_,l⟩=>some (l.length:Int)
  |none=>none
 | .mp k=>match st.L k with
  | .map _ _ _ _ es=>some (es.length:Int)
  | _=>none
 | .raw (.slice none 0 0)=>some 0
 | .win _ _ lo hi=>some (hi-lo)
 | _=>none
def cX:SV->Option Int
 | ⟨false,[.val (.int _) n]⟩=>some n
 | _=>none
def oE (st:St) (lo hi:Option Int):C->Option (Option Prop×C)
 | .val (.sl t) l=>some (some (0<=lo.getD 0/\lo.getD 0<=hi.getD (l.length:Int)/\hi.getD (l.length:Int)<=(l.length:Int)), .val (.sl t) ((l.take (hi.getD (l.length:Int)).toNat).drop (lo.getD 0).toNat))
 | .row k=>match st.L k with
  | .row t _ l=>some (some (0<=lo.getD 0/\lo.getD 0<=hi.getD (l.length:Int)/\hi.getD (l.length:Int)<=(l.length:Int)), .win k t.size (lo.getD 0) (hi.getD (l.length:Int)))
  | _=>none
 | _=>none
def A8l:Op->Bool
 | .load _ _=>true
 | .lookup _ _ _ _=>true
 | _=>false
section
variable {za:Zn} {w0 w:World} {Z:Nat->Prop} {B:Nat->Value} {st:St} {E:F8} {P:Program}
def Xx (P:Program) (st:St) (E:F8) (w:World) (Z:Nat->Prop) (B:Nat->Value) (ty:TypeId) (op:Op) (d:DV):Prop:=
 ∃v,(∀w',(A8l op=true->R5 w w')->Gw.E4 P E ty op w' v w')/\(∀E',RD w Z B E' d v)/\Nu st.nx d
def Ig {ty:TypeId} {op:Op} {c:C} {v:Value} (hy:∀w',(A8l op=true->R5 w w')->Gw.E4 P E ty op w' v w') (u:RC w Z B c v) (hr:Cd st.nx c):Xx P st E w Z B ty op (.one ⟨false,[c]⟩):=
 ⟨v,hy,fun _=>⟨v,[],rfl,u,rfl⟩,fun c' hc'=>by simp at hc';subst hc';exact hr⟩
def gG {s:SV} {c:C} {v:Value} (h:RS w Z B s v) (hr:Kz st.nx s) (u:c1 s=some c):RC w Z B c v/\Cd st.nx c:=by
 unfold c1 at u;split at u
 . cases u;obtain⟨_,_,e,h1,_⟩:=h;cases e;exact⟨h1,hr _ (by simp)⟩
 . cases u
def B2g {s:SV} {n:Int} {v:Value} (h:RS w Z B s v) (u:cX s=some n):∃k,v= .int k n/\LQ k n:=by
 unfold cX at u;split at u
 . cases u;obtain⟨_,_,e,h1,_⟩:=h;cases e;obtain⟨h1,h2⟩:=h1;simp only[sL,vM]at h1;exact⟨_,h1,h2⟩
 . cases u
def B9c {T ty:TypeId} {x:Operand} {c c':C} {f off:Nat} (hf:LM P T f off=true) (hx:RC w Z B c (Gw.ev E x)) (hr:Cd st.nx c) (h:faC off c=some c'):Xx P st E w Z B ty (.fieldAddr T x f) (.one ⟨false,[c']⟩):=by
 unfold faC at h;split at h<;>cases h
 . obtain⟨b,e,hv⟩:=hx;exact Ig (fun w' _=>BL hv hf) ⟨b,e,rfl⟩ hr
 . obtain⟨b,m,u,e,hi,hv⟩:=hx;exact Ig (fun w' _=>BL hv hf) ⟨b,m,u,e,hi,by rw[uH]⟩ hr
 . obtain⟨b,o,ec,e,hz,hc,hx⟩:=hx;exact Ig (fun w' _=>BL e hf) ⟨b,o,ec,by rw[uH],hz,hc,hx⟩ hr
def SK {cs cs':List C} {vs:List Value} {off n:Nat} (h:Dh w Z B cs vs) (u:cut off n cs=some cs'):Dh w Z B cs' ((vs.drop off).take n)/\((vs.drop off).take n).length=n/\∀c∈cs',c∈cs:=by
 unfold cut at u;have h1:=(h.drop off).take n;cases hb:Nat.beq ((cs.drop off).take n).length n with
 |false=>simp only[hb,rF]at u;cases u
 |true=>
  simp only[hb,qQ,rE]at u;subst u;exact⟨h1,by rw[<-h1.len];exact qD hb,fun c u=>vF (rZ u)⟩
def IR {T ty:TypeId} {x:Operand} {b o:Nat} {cs:List C} {vs:List Value} {agg:Bool} (hv:Gw.ev E x= .pointer (some ⟨b,o,none⟩)) (hb:b<w.heap.size) (hc:J2 w ⟨b,o,none⟩ vs) (hr:Dh w Z B cs vs) (hn:∀c∈cs,Cd st.nx c)
 (u:(agg=true/\fN P T vs.length=true)\/(agg=false/\Iv P T=true/\vs.length=1)):Xx P st E w Z B ty (.load T x) (.one ⟨agg,cs⟩):=by
 have hc':∀w',R5 w w'->J2 w' ⟨b,o,none⟩ vs:=fun w' hx j v hj=>by
  have:=hc j v hj;rw[J7]at this⊢;rw[<-this];exact World.cell?_of_block (hx.block b hb)
 rcases u with⟨rfl,u⟩ | ⟨rfl,u,hl⟩
 . exact⟨.agg vs.toArray,fun w' hx=>oV hv u rfl (hc' w' (hx rfl)),fun _=>⟨vs,rfl,hr⟩,hn⟩
 . match vs,hl with
   | [v],_=>
    refine⟨v,fun w' hx=>oU hv u ?_,fun _=>hr,hn⟩;have:=hc' w' (hx rfl) 0 v rfl;rwa[J7]at this
def Rm {q i:Nat} :∀ {al:List (Nat×Nat)},NU q al=some i->(i,q)∈al
 | [],h=>by cases h
 | (j,p)::r,h=>by
  simp only[NU]at h;cases hb:Nat.beq p q with
  |true=>simp only[hb,qQ,rE]at h;have:=qD hb;subst this;subst h;simp
  |false=>simp only[hb,rF]at h;exact qJ _ (Rm h)
def A0x {U:Nat->Prop} {t:Ty} {k e e' i q:Nat} {ls:List (List t.den)} {al:List (Nat×Nat)} (h:RL U w Z B k (.rows t e e' ls al none)) (hq:NU q al=some i):
 ∃xs ys,w.ownsRow 0 e 1 (B k) ls.length xs/\xs[i]? =some (B q)/\ls[i]? =some (ls.getD i [])/\w.ownsRow 0 e' t.size (B q) (ls.getD i []).length ys/\F7 (C4 t w Z) ys (ls.getD i []):=by
 obtain⟨xs,h1,⟨h2,h3,h4⟩,h5,h6⟩:=h;have hx:=h2 _ (Rm hq);have a0:i<ls.length:=by have:=(sD.1 hx).1;have h0:=h1.1;omega
 have u:ls[i]? =some (ls.getD i []):=by rw[qF,qS a0];rfl
 obtain⟨ys,g1,g2⟩:=h3 i _ _ rfl u hx;exact⟨xs,ys,h1,hx,u,g1,g2⟩
def A0v (h:B7 za w0 st E w Z B) {k:Nat} {t:Ty} {l:List t.den} (u:B3i st k=some ⟨t,l⟩):∃e xs,w.ownsRow 0 e t.size (B k) l.length xs/\F7 (C4 t w Z) xs l:=by
 unfold B3i at u;split at u
 . rename_i t' e l' hk;cases u;have hL:=h.locs k;rw[hk]at hL;obtain⟨xs,a1,a0,_⟩:=hL;exact⟨e,xs,a1,a0⟩
 . rename_i j hk;split at u
   . rename_i t' e e' ls al hj;simp only[qK]at u;obtain⟨i,hi,u⟩:=u;cases u;have hL:=h.locs j;rw[hj]at hL;obtain⟨_,ys,_,_,_,g1,g2⟩:=A0x hL hi;exact⟨e',ys,g1,g2⟩
   . cases u
 . cases u
def A7h (h:B7 za w0 st E w Z B) {k:Nat} {t:Ty} {l:List t.den} (hr:hdC st k=some ⟨t,l⟩):∃e xs,w.ownsRow 0 e t.size (B k) l.length xs:=by
 unfold hdC at hr;split at hr
 . rename_i t' e e' ls al ho hk;cases hr;have hL:=h.locs k;rw[hk]at hL;obtain⟨xs,u,_⟩:=hL;exact⟨e,xs,u⟩
 . rename_i t' e e' ls bo dd hk;cases hb:Nat.beq t'.size 1 with
   |false=>simp only[hb,rF]at hr;cases hr
   |true=>
    simp only[hb,qQ]at hr;cases hr;have hL:=h.locs k;rw[hk]at hL;obtain⟨xs,hN,_⟩:=hL;exact⟨e,xs,by rw[qD hb];exact hN.own⟩
 . obtain⟨e,xs,u,_⟩:=A0v h hr;exact⟨e,xs,u⟩
def B2p (h:B7 za w0 st E w Z B) {T ty:TypeId} {x:Operand} {c:C} {cs:List C} {n:Nat} {agg:Bool} (hx:RC w Z B c (Gw.ev E x)) (hl:A8c st n c=some cs)
 (ht:(agg=true/\fN P T n=true)\/(agg=false/\Iv P T=true/\n=1)):Xx P st E w Z B ty (.load T x) (.one ⟨agg,cs⟩):=by
 unfold A8c at hl;split at hl
 . rename_i k off;split at hl
   . rename_i af ae hk;have hL:=h.locs k;have hR:=h.refl k;rw[hk]at hL hR;obtain⟨b,vs,e,_,_,a3,a2⟩:=hL;obtain⟨b',e',hv⟩:=hx;rw[e]at e';cases e';obtain⟨h1,h2,h3⟩:=SK a2 hl;have:=R9 a3.cellsAt off n;rw[sG]at this;exact IR hv a3.lt this h1 (fun c hc=>hR c (h3 c hc)) (by rw[h2];exact ht)
   . rename_i q t y hk;cases a6:Nat.beq q k with
     |false=>simp only[a6,rF]at hl;cases hl
     |true=>
      simp only[a6,qQ]at hl;have:=qD a6;subst this;have hL:=h.locs q;rw[hk]at hL;obtain⟨_,⟨b,o,ec,e1,hz,hc,a0⟩,_⟩:=hL;simp only[sL,vM]at e1;obtain⟨b',e',hv⟩:=hx;rw[e1]at e';cases e';obtain⟨h1,h2,h3⟩:=SK (T5 (B:=B) a0) hl;have a2:=R9 hc off n;rw[sG]at a2;exact IR hv (h.zlt _ hz) a2 h1 (fun c hc=>D8 c (h3 c hc)) (by rw[h2];exact ht)
   . cases hl
 . rename_i t y off;obtain⟨b,o,ec,hv,hz,hc,a0⟩:=hx;obtain⟨h1,h2,h3⟩:=SK (T5 (B:=B) a0) hl;exact IR hv (h.zlt b hz) (R9 hc off n) h1 (fun c hc=>D8 c (h3 c hc)) (by rw[h2];exact ht)
 . rename_i k sz i off;split at hl
   . rename_i t l hk;cases a7:Nat.beq sz t.size with
     |false=>simp[a7]at hl
     |true=>
      simp only[a7,qQ]at hl;have hs:=qD a7;subst hs;obtain⟨e,xs,u,a5⟩:=A0v h hk;obtain⟨b,m,ad,hB,hi,hv⟩:=hx;rw[hB]at u;have hm:m=l.length:=by
       rcases u.2 with⟨hh,_⟩ | ⟨_,_,_,hh,_⟩<;>cases hh
       rfl
      subst hm;have a9:=F7.get (fun _ _ h=>C4.length h) a5 (qS hi);have aa:l.getD i t.dflt=l[i]:=by rw[qF,qS hi];rfl
      rw[aa]at hl;obtain⟨h1,h2,h3⟩:=SK (T5 (B:=B) a9) hl;have a8:=(World.ownsRow.lt u b rfl).2;have a1:J2 w ⟨b,0,none⟩ xs:=fun j v hj=>by
       rcases u.2 with⟨hh,_⟩ | ⟨g,ac,cur,hh,_,hg,_,_,_,ab⟩
       . cases hh
       . cases hh;rw[J7,sG];simp only[World.cell?,hg];rw[<-ab,wH]at hj;split at hj
         . simpa using hj
         . cases hj
      have a4:=R9 (R9 a1 (i*t.size) t.size) off n;rw[sG]at a4;exact IR hv a8 a4 h1 (fun c hc=>D8 c (h3 c hc)) (by rw[h2];exact ht)
   . cases hl
 . cases hl
def G8 {α:Type} {d:α} {l:List α} {i:Int} (h0:0<=i) (h1:i<(l.length:Int)):l[i.toNat]? =some (gx d l i):=by
 have u:i.toNat<l.length:=by omega
 rw[gx,qF,qS u];rfl
def A7l (h:B7 za w0 st E w Z B) {T ty e:TypeId} {x ix:Operand} {c c':C} {i:Int} {φ:Option Prop} {kd:IntKind} (hx:RC w Z B c (Gw.ev E x)) (a3:Gw.ev E ix= .int kd i) (hc:B6n st i c=some (φ,c')) (a5:OA φ)
 (hT:∀s,(∃t y,c'= .pf t y 0/\s=t.size)\/(∃k j,c'= .elp k s j 0)->Gv P T e s=true) (hr:Cd st.nx c):Xx P st E w Z B ty (.indexAddr T x ix) (.one ⟨false,[c']⟩):=by
 unfold B6n at hc;split at hc
 . rename_i t l;cases hc;obtain⟨h0,h1⟩:=a5;have a0:=hT t.size (.inl ⟨t,_,rfl,rfl⟩);obtain⟨a,u,he,a9,aa,ab,hh⟩:=hx;simp only[sL,vM]at he;have hg:=G8 (d:=t.dflt) h0 h1;rcases hh with hh| ⟨b,o,ec,ha,hz,a1,a2⟩
   . subst hh;simp at h1;omega
   . subst ha;have a6:=F7.get (fun _ _ h=>C4.length h) a2 hg;refine Ig (v:= .pointer (some ⟨b,o+i.toNat*t.size+0,none⟩)) (fun w' _=> ?_) ⟨b,o+i.toNat*t.size,_,rfl,hz,R9 a1 _ t.size,a6⟩ trivial;have:=B0w (P:=P) (w:=w') (ty:=ty) (sz:=t.size) he a3 a0 h0 h1;rwa[J7]at this
 . rename_i k;split at hc
   . rename_i t l hk;cases hc;obtain⟨h0,h1⟩:=a5;have a0:=hT t.size (.inr ⟨_,_,rfl⟩);obtain⟨e',xs,a7⟩:=A7h h hk;rcases a7.2 with⟨_,hn⟩ | ⟨g,u,cur,hB,_⟩
     . rw[hn]at h1;omega
     . have a4:Gw.ev E x= .slice (some ⟨g,0,none⟩) l.length u:=(show Gw.ev E x=B k from hx).trans hB;refine Ig (v:= .pointer (some ⟨g,i.toNat*t.size+0,none⟩)) (fun w' _=> ?_) ⟨g,l.length,u,hB,by omega,rfl⟩ hr;have:=B0w (P:=P) (w:=w') (ty:=ty) (sz:=t.size) a4 a3 a0 h0 h1;rwa[J7,sG]at this
   . cases hc
 . rename_i k sz lo hi;cases hc;obtain⟨h0,h1⟩:=a5;have a0:=hT sz (.inr ⟨_,_,rfl⟩);obtain⟨a,n,u,hB,ga,gn,g0,g1,g2,g3,g4,hv⟩:=hx;have a8:¬u=lo.toNat:=by omega
   rw[qL a8]at hv;obtain⟨g,rfl⟩:∃g,a=some ⟨g,0,none⟩:=by
    cases a with
    |none=>have:=gn rfl;omega
    |some x=>obtain⟨g,rfl⟩:=ga x rfl;exact⟨g,rfl⟩
   have a4:Gw.ev E x= .slice (some ⟨g,lo.toNat*sz,none⟩) (hi.toNat-lo.toNat) (u-lo.toNat):=by
    rw[hv,vT,J7,sG]
   refine Ig (v:= .pointer (some ⟨g,(lo+i).toNat*sz+0,none⟩)) (fun w' _=> ?_) ⟨g,n,u,hB,by omega,rfl⟩ hr;have:=B0w (P:=P) (w:=w') (ty:=ty) (sz:=sz) a4 a3 a0 h0 (by omega);rw[J7]at this;rw[show(lo+i).toNat*sz+0=lo.toNat*sz+i.toNat*sz by rw[<-uP,show(lo+i).toNat=lo.toNat+i.toNat by omega,tD]];exact this
 . cases hc
def B6v (h:B7 za w0 st E w Z B) {T ty e:TypeId} {s:Nat} {x:Operand} {c:C} {n:Int} (hx:RC w Z B c (Gw.ev E x)) (hn:B6u st c=some n) (ht:Gv P T e s=true) (a3:∀k,c≠ .mp k):
 Xx P st E w Z B ty (.call ⟨.builtin .len, #[x], #[T]⟩) (.one ⟨false,[.val (.int .i64) n]⟩):=by
 have mk:∀(a:Option Addr) (m u:Nat),Gw.ev E x= .slice a m u->m<=maxLen->Xx P st E w Z B ty (.call ⟨.builtin .len, #[x], #[T]⟩) (.one ⟨false,[.val (.int .i64) (m:Int)]⟩):=fun a m u hv hm=>
  Ig (fun w' _=>C1x hv ht) ⟨rfl,by
   unfold LQ;have h1:i64.min= -9223372036854775808:=by decide
   have h2:i64.max=9223372036854775807:=by decide
   simp only[maxLen]at hm;omega⟩ trivial
 unfold B6u at hn;split at hn
 . cases hn;obtain⟨a,u,he,a0,a2,_⟩:=hx;simp only[sL,vM]at he;exact mk a _ u he (qZ a0 a2)
 . rename_i k;split at hn
   . rename_i t l hk;cases hn;obtain⟨e',xs,a1⟩:=A7h h hk;have hx:Gw.ev E x=B k:=hx;rcases a1.2 with⟨hv,hn⟩ | ⟨g,u,cur,hB,_,_,h3,h4,_⟩
     . rw[hn];exact mk none 0 0 (hx.trans hv) (rN _)
     . exact mk _ _ u (hx.trans hB) (qZ h3 h4)
   . cases hn
 . exact absurd rfl (a3 _)
 . cases hn;exact mk none 0 0 (show _= _ from hx.1) (rN _)
 . rename_i k sz lo hi;cases hn;obtain⟨a,n,u,hB,ga,gn,g0,g1,g2,g3,g4,hv⟩:=hx;have:=mk _ _ _ hv (by omega);rwa[show((hi.toNat-lo.toNat:Nat):Int)=hi-lo by omega]at this
 . cases hn
end
section
variable {za:Zn} {w0 w:World} {Z:Nat->Prop} {B:Nat->Value} {st:St} {E:F8} {P:Program}
def A1e {T e ty:TypeId} {x:Operand} {lo hi:Option Operand} {a:Option Addr} {len u size l h:Nat} (hx:Gw.ev E x= .slice a len u) (ht:Gv P T e size=true)
 (a0:match lo with|none=>l=0|some o=>∃k,Gw.ev E o= .int k (l:Int)) (hhi:match hi with|none=>h=len|some o=>∃k,Gw.ev E o= .int k (h:Int)) (hlh:l<=h) (hhc:h<=u) (w:World):
 Gw.E4 P E ty (.slice T x lo hi none) w (.slice (if u=l then a else a.map (·.add (l*size))) (h-l) (u-l)) w:=fun _ _ _ _=>by
 obtain⟨hu,hz⟩:=Jj ht;have h3:=Gw.Fe (P:=P) (w:=w) hz;have b1:(l:Int)<=(h:Int):=by omega
 have b2:(h:Int)<=(u:Int):=by omega
 have hb:(Instr.sliceBounds true len u (lo.map (Gw.ev E)) (hi.map (Gw.ev E)) none).run P w= .ok (l,h,u) w:=by
  unfold Instr.sliceBounds;cases hi with
  |none=>
   simp only at hhi;subst hhi;cases lo with
   |none=>simp only at a0;subst a0;simp[go_sem]
   |some o=>obtain⟨k,ho⟩:=a0;simp[Instr.sliceBound,asIntOf,ho,b1,hlh,go_sem]
  |some o'=>
   obtain⟨k',a1⟩:=hhi;cases lo with
   |none=>simp only at a0;subst a0;simp[Instr.sliceBound,asIntOf,a1,b2,hhc,go_sem]
   |some o=>obtain⟨k,ho⟩:=a0;simp[Instr.sliceBound,asIntOf,ho,a1,b1,b2,hlh,hhc,go_sem]
 simp only[execOp,hx];unfold Instr.sliceAt Instr.slice;simp only[Sem.run_bind,run_underlying hu,Result.andThen_ok,Option.map_none,hb,h3,Sem.run_pure]
def A4x (E:F8):Option Operand->Option Int->Prop
 |none,i=>i=none
 |some o,i=>∃k j,i=some j/\Gw.ev E o= .int k j
def A0r {t:Ty} {a:Option Addr} {n a0:Nat} {l:List t.den} {L H:Int} (h:C4 (.sl t) w Z [.slice a n a0] l) (h0:0<=L) (h1:L<=H) (h2:H<=(n:Int)):
 C4 (.sl t) w Z [.slice (if a0=L.toNat then a else a.map (·.add (L.toNat*t.size))) (H.toNat-L.toNat) (a0-L.toNat)] ((l.take H.toNat).drop L.toNat):=by
 obtain⟨a',a6,he,a7,a9,a4,hh⟩:=h;simp only[sL,vM,Value.slice.injEq]at he;obtain⟨rfl,rfl,rfl⟩:=he;have a2:((l.take H.toNat).drop L.toNat).length=H.toNat-L.toNat:=by simp;omega
 refine⟨_,_,by rw[a2],by rw[a2];omega,by omega,fun hz=> ?_, ?_⟩
 . split at hz
   . omega
   . have:=a4 (by simpa using hz);omega
 by_cases a8:H.toNat=L.toNat
 . left;exact qO (by rw[a2];omega)
 . right;rcases hh with hh| ⟨b,o,ec,ha,hz,u,a1⟩
   . subst hh;simp at h2;omega
   . subst ha;have e1:=F7.drop (fun _ _ h=>C4.length h) L.toNat (F7.take (fun _ _ h=>C4.length h) H.toNat a1);refine⟨b,o+L.toNat*t.size,(ec.take (H.toNat*t.size)).drop (L.toNat*t.size), ?_,hz, ?_,e1⟩
     . rw[qL (by omega),vT,J7]
     . have a3:=R9 u 0 (H.toNat*t.size);rw[tX,tD]at a3;have a5:=R9 a3 (L.toNat*t.size) ((ec.take (H.toNat*t.size)).drop (L.toNat*t.size)).length;rwa[uR]at a5
def kG (h:B7 za w0 st E w Z B) {T ty e:TypeId} {x:Operand} {lo hi:Option Operand} {a1 a0:Option Int} {c c':C} {φ:Option Prop} (hx:RC w Z B c (Gw.ev E x)) (hc:oE st a1 a0 c=some (φ,c')) (hr:Cd st.nx c) (ac:OA φ)
 (a6:A4x E lo a1) (a5:A4x E hi a0)
 (ht:∀s,(∃t y,c'= .val (.sl t) y/\s=t.size)\/(∃k lo hi,c'= .win k s lo hi)->Gv P T e s=true):Xx P st E w Z B ty (.slice T x lo hi none) (.one ⟨false,[c']⟩):=by
 unfold oE at hc;split at hc
 . rename_i t l;cases hc;have a9:=ht t.size (.inl ⟨t,_,rfl,rfl⟩);obtain⟨h0,h1,h2⟩:=ac;obtain⟨a,u,he,ai,ak,ag,hh⟩:=hx;simp only[sL,vM]at he;generalize hL:a1.getD 0=L at*;generalize hH:a0.getD (l.length:Int)=H at*;have a8:((l.take H.toNat).drop L.toNat).length=H.toNat-L.toNat:=by simp;omega
   refine Ig (fun w' _=>A1e (l:=L.toNat) (h:=H.toNat) he a9 ?_ ?_ (by omega) (by omega) w') ?_ trivial
   . cases lo with
     |none=>rw[show a1=none from a6]at hL;simp at hL;simp only;omega
     |some o=>obtain⟨k,i,e1,e2⟩:=a6;subst e1;simp at hL;subst hL;exact⟨k,by rw[e2];congr 1;omega⟩
   . cases hi with
     |none=>rw[show a0=none from a5]at hH;simp at hH;simp only;omega
     |some o=>obtain⟨k,i,e1,e2⟩:=a5;subst e1;simp at hH;subst hH;exact⟨k,by rw[e2];congr 1;omega⟩
   . refine⟨_,_,by rw[a8],by rw[a8];omega,by omega,fun hz=> ?_, ?_⟩
     . split at hz
       . omega
       . have:=ag (by simpa using hz);omega
     by_cases aj:H.toNat=L.toNat
     . left;exact qO (by rw[a8];omega)
     . right;rcases hh with hh| ⟨b,o,ec,ha,hz,a4,a7⟩
       . subst hh;simp at h2;omega
       . subst ha;have e1:=F7.drop (fun _ _ h=>C4.length h) L.toNat (F7.take (fun _ _ h=>C4.length h) H.toNat a7);refine⟨b,o+L.toNat*t.size,(ec.take (H.toNat*t.size)).drop (L.toNat*t.size), ?_,hz, ?_,e1⟩
         . rw[qL (by omega),vT,J7]
         . have ab:=R9 a4 0 (H.toNat*t.size);rw[tX,tD]at ab;have ah:=R9 ab (L.toNat*t.size) ((ec.take (H.toNat*t.size)).drop (L.toNat*t.size)).length;rwa[uR]at ah
 . rename_i k;split at hc
   . rename_i t e' l hk;cases hc;have a9:=ht t.size (.inr ⟨_,_,_,rfl⟩);obtain⟨h0,h1,h2⟩:=ac;have hL:=h.locs k;rw[hk]at hL;obtain⟨xs,aa,_,_⟩:=hL;have ad:Gw.ev E x=B k:=hx;generalize a3:a1.getD 0=L at*;generalize a2:a0.getD (l.length:Int)=H at*;obtain⟨a,u,hB,ga,gn,gc,gm⟩:∃a u,B k= .slice a l.length u/\(∀x,a=some x->∃g,x=⟨g,0,none⟩)/\(a=none->u=0)/\l.length<=u/\u<=maxLen:=by
      rcases aa.2 with⟨hv,hn⟩ | ⟨g,u,cur,hv,_,_,af,ae,_⟩
      . exact⟨none,0,by rw[hv,hn],fun x hx=>(by cases hx),fun _=>rfl,by omega,rN _⟩
      . exact⟨some ⟨g,0,none⟩,u,hv,fun x hx=>⟨g,by cases hx;rfl⟩,fun hx=>(by cases hx),af,ae⟩
     refine Ig (fun w' _=>A1e (l:=L.toNat) (h:=H.toNat) (ad.trans hB) a9 ?_ ?_ (by omega) (by omega) w') ⟨a,l.length,u,hB,ga,gn,h0,h1,h2,gc,gm,rfl⟩ hr
     . cases lo with
       |none=>rw[show a1=none from a6]at a3;simp at a3;simp only;omega
       |some o=>obtain⟨k,i,e1,e2⟩:=a6;subst e1;simp at a3;subst a3;exact⟨k,by rw[e2];congr 1;omega⟩
     . cases hi with
       |none=>rw[show a0=none from a5]at a2;simp at a2;simp only;omega
       |some o=>obtain⟨k,i,e1,e2⟩:=a5;subst e1;simp at a2;subst a2;exact⟨k,by rw[e2];congr 1;omega⟩
   . cases hc
 . cases hc
def B2h (P:Program) (T:TypeId) (k:IntKind):Bool:=match P.underlying T with|some (.int k')=>decide (k=k') | _=>false
def ZQ {T:TypeId} {k:IntKind} (h:B2h P T k=true):P.underlying T=some (.int k):=by
 unfold B2h at h;split at h
 . rename_i k' u;have:=qA h;subst this;exact u
 . cases h
def B1s {T T' ty:TypeId} {x:Operand} {k k':IntKind} {a:Int} (hx:RC w Z B (.val (.int k) a) (Gw.ev E x)) (h1:∃d,P.underlying T=some d) (u:B2h P T' k'=true):Xx P st E w Z B ty (.convert T T' x) (.one ⟨false,[.val (.int k') (k'.wrap a)]⟩):=by
 obtain⟨hx,_⟩:=hx;simp only[sL,vM]at hx;obtain⟨d,hd⟩:=h1;have hu:=ZQ u;refine Ig (v:= .int k' (k'.wrap a)) (fun w' _=> ?_) ⟨rfl,Nr _ _⟩ trivial;intro _ _ _ _;simp[execOp,convert,hx,run_underlying hd,run_underlying hu,Conv.intToInt,go_sem]
def unC (op:UnOp):C->Option C
 | .val .bool b=>match op with
  | .not=>some (.val .bool (!b))
  | _=>none
 | .val (.int k) a=>match op with
  | .neg=>some (.val (.int k) (k.wrap (-a)))
  | .xor=>some (.val (.int k) (k.wrap (BitVec.ofInt k.bits (if k.signed then -1 else k.max)^^^BitVec.ofInt k.bits a).toNat))
  | _=>none
 | _=>none
def C1s {op:UnOp} {T ty:TypeId} {x:Operand} {c c':C} (hx:RC w Z B c (Gw.ev E x)) (h:unC op c=some c'):Xx P st E w Z B ty (.unOp op T x) (.one ⟨false,[c']⟩):=by
 unfold unC at h;split at h
 . split at h
   . cases h;rename_i b _;have hx:Gw.ev E x= .bool b:=by simpa[RC,C4]using hx
     exact Ig (fun w' _=>C2b hx) rfl trivial
   . cases h
 . obtain⟨hx,_⟩:=hx;simp only[sL,vM]at hx;split at h
   . cases h;exact Ig (fun w' _=>C2a hx) ⟨rfl,Nr _ _⟩ trivial
   . cases h;refine Ig (v:= .int _ _) (fun w' _ _ _ _ _=>by simp[execOp,hx,Op.unary,Op.intBits,go_sem]) ⟨rfl,Nr _ _⟩ trivial
   . cases h
 . cases h
def Ys (place:Nat->Option (Nat×Nat)):List C->List (Nat×List C)->Option (List C)
 |cs,[]=>some cs
 |cs,(i,u)::r=>match place i with
  |none=>none
  |some (off,sz)=>bif Nat.beq u.length sz&&Nat.ble (off+sz) cs.length then Ys place (cs.take off++u++cs.drop (off+sz)) r else none
def Ex:C->Bool
 | .dead=>false
 | _=>true
def C4.one1 {t:Ty} {v:Value} {x:t.den} (h:C4 t w Z [v] x):v.oneCell'=true:=C4.oneCell h v (by simp)
def RC.one (h:B7 za w0 st E w Z B) {c:C} {v:Value} (hd:Ex c=true) (u:RC w Z B c v):v.oneCell'=true:=by
 cases c with
 |val t x=>exact C4.one1 u
 |row k=>rw[show v= _ from u];exact h.bone k
 |box k off=>obtain⟨b,_,e⟩:=u;rw[e];rfl
 |elp k sz i off=>obtain⟨b,_,_,_,_,e⟩:=u;rw[e];rfl
 |win k sz lo hi=>obtain⟨_,_,_,_,_,_,_,_,_,_,_,e⟩:=u;rw[e];rfl
 |pf t x off=>obtain⟨b,_,_,e,_⟩:=u;rw[e];rfl
 |mp k=>rw[show v= _ from u];exact h.bone k
 |fn f caps=>rw[show v= _ from u];rfl
 |fv _ _ _ _ _ _=>obtain⟨_,_,e,_⟩:=u;rw[e];rfl
 |raw v0=>rw[u.1];exact u.2
 |dead=>cases hd
end
end Go.Vc
